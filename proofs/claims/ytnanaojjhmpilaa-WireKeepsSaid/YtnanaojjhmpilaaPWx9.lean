/- The machine's side of functions, in one namespace: each function's call comes to what its Lean function tells. -/
import Derived.Test.YtnanaojjhmpilaaPWx0
import Derived.Test.YtnanaojjhmpilaaPWx3
import Derived.Test.YtnanaojjhmpilaaPWx4
import Derived.Test.YtnanaojjhmpilaaPWx6
namespace Go.Proofs.Ytnanaojjhmpilaa.PW
open Go.RowKit Go.Proofs.YtnanaojjhmpilaaW.PrintWords Go.Proofs.YtnanaojjhmpilaaW.PrintLast Go.Proofs.YtnanaojjhmpilaaW.PrintMore
attribute [local go_sem] max2_int min2_int max_two min_two max_three min_three max_four min_four   -- for this text's walks alone
set_option linter.unusedVariables false
set_option linter.unusedSimpArgs false

-- NOT PRINTED: function 61 (wire_Stream_decide)

-- NOT PRINTED: function 39 (wire_Stream_Feed)

-- NOT PRINTED: function 41 (heraldref2_Says)

-- NOT PRINTED: function 43 (wire_Stream_Bodies)

-- NOT PRINTED: function 42 (heraldlaw2_taken)

-- NOT PRINTED: function 44 (wire_Stream_Skipped)

-- NOT PRINTED: function 40 (heraldlaw2_follows)

-- NOT PRINTED: function 10 (heraldlaw2_WireStreams)

-- NOT PRINTED: function 11 (heraldlaw2_WireNested)

/-! ### wire_Number: function 18 -/
mutual
def wire_Number.j0 : Nat → Int → Bool → Option (List Int × Int)
  | 0, _, _ => none
  | k + 1, x0, x10 => if x10 = true then (some (([] : List Int), 3)) else (wire_Number.l0 k x0 ([] : List Int))
def wire_Number.l0 : Nat → Int → List Int → Option (List Int × Int)
  | 0, _, _ => none
  | k + 1, x0, x4 => if x0 ≥ 128 then (if x4.length < 140737488355328 then (wire_Number.l0 k (x0 / 128) (x4 ++ [Go.bits .or .u8 ((x0) % 256) 128])) else (none)) else (if x4.length < 140737488355328 then (some ((x4 ++ [(x0) % 256]), 0)) else (none))
end
def wire_Number.f (k : Nat) (a0 : Int) : Option (List Int × Int) := if a0 < 0 then (wire_Number.j0 k a0 true) else (wire_Number.j0 k a0 (decide (a0 > 2147483647)))
theorem wire_Number.mono_l : ∀ k, (∀ y0 y1, LeO (wire_Number.j0 k y0 y1) (wire_Number.j0 (k + 1) y0 y1)) ∧ (∀ y0 y1, LeO (wire_Number.l0 k y0 y1) (wire_Number.l0 (k + 1) y0 y1))
  | 0 => ⟨fun _ _ r h => by simp [wire_Number.j0] at h, fun _ _ r h => by simp [wire_Number.l0] at h⟩
  | k + 1 => by
    obtain ⟨ih0, ih1⟩ := wire_Number.mono_l k
    refine ⟨?_, ?_⟩
    · intro y0 y1
      unfold wire_Number.j0
      repeat' first
      | (with_reducible exact ih0 _ _)
      | (with_reducible exact ih1 _ _)
      | (with_reducible exact LeO.refl _)
      | (with_reducible exact LeO.none _)
      | (with_reducible refine LeO.ite ?_ ?_)
      | (with_reducible refine LeO.bind ?_ (fun _ => ?_))
      | exact ih0 _ _
      | exact ih1 _ _
      | exact LeO.none _
      | refine LeO.ite ?_ ?_
      | refine LeO.bind ?_ (fun _ => ?_)
    · intro y0 y1
      unfold wire_Number.l0
      repeat' first
      | (with_reducible exact ih0 _ _)
      | (with_reducible exact ih1 _ _)
      | (with_reducible exact LeO.refl _)
      | (with_reducible exact LeO.none _)
      | (with_reducible refine LeO.ite ?_ ?_)
      | (with_reducible refine LeO.bind ?_ (fun _ => ?_))
      | exact ih0 _ _
      | exact ih1 _ _
      | exact LeO.none _
      | refine LeO.ite ?_ ?_
      | refine LeO.bind ?_ (fun _ => ?_)
theorem wire_Number.mono : ∀ a0 k, LeO (wire_Number.f k a0) (wire_Number.f (k + 1) a0) := by
  intro a0 k
  obtain ⟨ih0, ih1⟩ := wire_Number.mono_l k
  unfold wire_Number.f
  repeat' first
      | (with_reducible exact ih0 _ _)
      | (with_reducible exact ih1 _ _)
      | (with_reducible exact LeO.refl _)
      | (with_reducible exact LeO.none _)
      | (with_reducible refine LeO.ite ?_ ?_)
      | (with_reducible refine LeO.bind ?_ (fun _ => ?_))
      | exact ih0 _ _
      | exact ih1 _ _
      | exact LeO.none _
      | refine LeO.ite ?_ ?_
      | refine LeO.bind ?_ (fun _ => ?_)
set_option maxHeartbeats 8000000 in
set_option maxRecDepth 100000 in
theorem wire_Number.calls (k : Nat) (a0 : Int) (r1 : List Int) (r2 : Int) (w : World) (h : wire_Number.f k a0 = some (r1, r2)) :
    Calls Try.prog 18 #[.int .i64 a0] w fun e w' => ∃ v0_ : Value, e = .returned (.tuple #[v0_, .int .i64 r2]) ∧ Kd.R (Kd.int .u8) 5 w' w.heap.size (fun _ => True) v0_ r1 ∧ Below w.heap.size w w' := by
  have HB := Aside0.mk (Below.refl w.heap.size w)
  have H : (if a0 < 0 then (wire_Number.j0 k a0 true) else (wire_Number.j0 k a0 (decide (a0 > 2147483647)))) = some (r1, r2) := h
  clear h
  have HC2 := Aside0.mk H
  clear H
  go_enter Try.func18, Try.ntmps18
  go_upto_region 1 with (fail)
  go_cut [10] (fun v10 wc => ∃ (kq : Nat) (x10_1 : Bool), v10 = .bool x10_1 ∧ Aside0 (wire_Number.j0 kq a0 x10_1 = some (r1, r2)) ∧ Aside0 (kq ≤ k) ∧ Aside0 (Below w.heap.size w wc))
  case first =>
    have H := HC2.out
    clear HC2
    by_cases c3 : a0 < 0
    · rw [if_pos c3] at H
      have c3b0 : decide (a0 < 0) = true := decide_eq_true c3
      clear c3
      (first | rw [c3b0] | (simp only [i64_w, i32_w]; rw [c3b0]) | skip)
      have H' := Aside0.mk H
      clear H
      go_wp2
      go_meet
      case rel => exact ⟨_, (true), (by first | rfl | (simp; done) | (simp [*]; done)), H', ⟨by first | omega | exact Nat.le_refl _⟩, ⟨by repeat (first | (with_reducible first | exact HB.out | apply below_alloc | apply pw_below_drewN | apply below_drew1) | exact HB.out)⟩⟩
    · rw [if_neg c3] at H
      have c3b0 : decide (a0 < 0) = false := decide_eq_false c3
      clear c3
      (first | rw [c3b0] | (simp only [i64_w, i32_w]; rw [c3b0]) | skip)
      have H' := Aside0.mk H
      clear H
      go_wp2
      go_meet
      case rel => exact ⟨_, (decide (a0 > 2147483647)), (by first | rfl | (simp; done) | (simp [*]; done)), H', ⟨by first | omega | exact Nat.le_refl _⟩, ⟨by repeat (first | (with_reducible first | exact HB.out | apply below_alloc | apply pw_below_drewN | apply below_drew1) | exact HB.out)⟩⟩
  case rest =>
    clear HC2
    try clear c1
    try clear p2
    try clear c3
    try clear c3b0
    obtain ⟨kq, x10_1, rfl, HA, HJ1, HB⟩ := hcut
    cases kq with
    | zero => exact absurd HA.out (by simp [wire_Number.j0])
    | succ kj1 =>
      have H := HA.out
      clear HA
      simp only [wire_Number.j0] at H
      by_cases c4 : x10_1 = true
      · subst c4
        have H1 : (some (([] : List Int), 3)) = some (r1, r2) := by rw [if_pos rfl] at H; exact H
        clear H
        have H := H1
        clear H1
        simp only [Option.some.injEq, Prod.mk.injEq] at H
        obtain ⟨rfl, rfl⟩ := H
        go_wp2
        go_ret2
        exact ⟨_, by first | rfl | (simp [errW_none, errW_some] <;> rfl) | (simp [*, errW_none, errW_some] <;> rfl), by first | exact Kd.R_nil _ _ _ _ _ | exact Kd.N_nil _ _ _ _ _ | exact Kd.V_nil _ _ _ _ _ | exact Kd.Q_nil _ _ _ _ _ | exact Kd.S_nil _ _ _ _ _, by repeat (first | (with_reducible first | exact HB.out | apply below_alloc | apply pw_below_drewN | apply below_drew1) | exact HB.out)⟩
      · replace c4 := Bool.eq_false_iff.mpr c4
        subst c4
        have H1 : (wire_Number.l0 kj1 a0 ([] : List Int)) = some (r1, r2) := by rw [if_neg (show ¬ (false = true) by decide)] at H; exact H
        clear H
        have H := H1
        clear H1
        have H' := Aside0.mk H
        clear H
        go_wp2
        go_loopg [0, 4] kj1 (fun kq v0 v4 w' => ∃ (x0_2 : Int) (x4_2 : List Int), v0 = .int .i64 x0_2 ∧ Aside0 (wire_Number.l0 kq x0_2 x4_2 = some (r1, r2)) ∧ Aside0 (kq ≤ kj1) ∧ Aside0 (Kd.R (Kd.int .u8) 5 w' w.heap.size (fun _ => True) v4 x4_2) ∧ Aside0 (Below w.heap.size w w'))
        case atStart => exact ⟨(a0), (([] : List Int)), (by first | rfl | (simp; done) | (simp [*]; done)), H', ⟨Nat.le_refl _⟩, ⟨by first | exact Kd.R_nil _ _ _ _ _ | exact Kd.N_nil _ _ _ _ _ | exact Kd.V_nil _ _ _ _ _ | exact Kd.Q_nil _ _ _ _ _ | exact Kd.S_nil _ _ _ _ _⟩, ⟨by repeat (first | (with_reducible first | exact HB.out | apply below_alloc | apply pw_below_drewN | apply below_drew1) | exact HB.out)⟩⟩
        case round =>
          clear H'
          try clear c1
          try clear p2
          try clear c3
          try clear c3b0
          try clear c4
          try clear p2
          obtain ⟨x0_2, x4_2, rfl, HA, HK2, HO_4, HB⟩ := hrel
          cases gk with
          | zero => exact absurd HA.out (by simp [wire_Number.l0])
          | succ k2 =>
            have H := HA.out
            clear HA
            simp only [wire_Number.l0] at H
            by_cases c5 : x0_2 ≥ 128
            · rw [if_pos c5] at H
              have c5b0 : decide (128 ≤ x0_2) = true := decide_eq_true c5
              clear c5
              by_cases c6 : x4_2.length < 140737488355328
              · rw [if_pos c6] at H
                have LMc6 := Aside0.mk c6
                clear c6
                obtain ⟨y281, hy281⟩ : ∃ y_ : List Int, y_ = (x4_2 ++ [Go.bits .or .u8 ((x0_2) % 256) 128]) := ⟨_, rfl⟩
                replace H : (wire_Number.l0 k2 (x0_2 / 128) y281) = some (r1, r2) := by first | (rw [hy281]; with_reducible exact H) | (have H2_ := (Option.bind_some _ _).symm.trans H; rw [hy281]; with_reducible exact H2_) | (have H2_ := (Option.bind_some _ _).symm.trans H; with_reducible exact H2_) | with_reducible exact H | (rw [hy281]; exact H) | exact H
                have Ny281 := Aside0.mk hy281
                clear hy281
                have H' := Aside0.mk H
                clear H
                go_wp2_with (first | ((with_reducible refine gate_builtin (b := .append) (xs := #[.tmp 15, .tmp 19]) rfl ?_); at_builtin; refine Kd.R_append (Kd.int .u8) (w0 := w) w.heap.size rfl (.tmp 15) (.tmp 19) 22 5 (.int .u8 0) 1 rfl Try.underlying22 info5 rfl (by decide) (by omega) u4 x4_2 (Go.bits .or .u8 ((x0_2) % 256) 128) [.int .u8 (Go.bits .or .u8 ((x0_2) % 256) 128)] (fun _ => True) (fun _ => False) rfl rfl ?aP (fun _ hk => hk.elim) ?aF ?aO ?aB ?aS ?aL ?_; (case aP => exact rfl); (case aB => exact (by repeat (first | (with_reducible first | exact HB.out | apply below_alloc | apply pw_below_drewN | apply below_drew1) | exact HB.out))); (case aF => exact (fun _ _ => trivial)); (case aO => exact (by (with_reducible repeat (first | apply Kd.R_alloc | apply Kd.R_drewN | apply Kd.R_drew)); exact HO_4.out)); (case aS => exact (below_size (by repeat (first | (with_reducible first | exact HB.out | apply below_alloc | apply pw_below_drewN | apply below_drew1) | exact HB.out)))); (case aL => have := LMc6.out; omega); intro v282 w7 ho hb hg hat; rw [← Ny281.out] at ho; have n0_ := Aside0.mk (hb); have n1_ := Aside0.mk (ho); clear HB; clear HO_4; have HB := n0_; have HO283 := n1_; clear n0_ n1_; clear ho hb hg hat))
                go_roundg k2
                case measure => have := HJ1.out; have := HK2.out; omega
                case rel => exact ⟨(x0_2 / 128), (y281), (by first | rfl | (simp; done) | (simp [*]; done)), H', ⟨by have := HJ1.out; have := HK2.out; omega⟩, ⟨by (with_reducible repeat (first | apply Kd.R_alloc | apply Kd.R_drewN | apply Kd.R_drew)); exact HO283.out⟩, ⟨by repeat (first | (with_reducible first | exact HB.out | apply below_alloc | apply pw_below_drewN | apply below_drew1) | exact HB.out)⟩⟩
              · rw [if_neg c6] at H
                exact absurd H (by simp)
            · rw [if_neg c5] at H
              have c5b0 : decide (128 ≤ x0_2) = false := decide_eq_false c5
              clear c5
              by_cases c8 : x4_2.length < 140737488355328
              · rw [if_pos c8] at H
                have LMc8 := Aside0.mk c8
                clear c8
                obtain ⟨y284, hy284⟩ : ∃ y_ : List Int, y_ = (x4_2 ++ [(x0_2) % 256]) := ⟨_, rfl⟩
                replace H : (some (y284, 0)) = some (r1, r2) := by first | (rw [hy284]; with_reducible exact H) | (have H2_ := (Option.bind_some _ _).symm.trans H; rw [hy284]; with_reducible exact H2_) | (have H2_ := (Option.bind_some _ _).symm.trans H; with_reducible exact H2_) | with_reducible exact H | (rw [hy284]; exact H) | exact H
                have Ny284 := Aside0.mk hy284
                clear hy284
                simp only [Option.some.injEq, Prod.mk.injEq] at H
                obtain ⟨rfl, rfl⟩ := H
                go_wp2_with (first | ((with_reducible refine gate_builtin (b := .append) (xs := #[.tmp 21, .tmp 24]) rfl ?_); at_builtin; refine Kd.R_append (Kd.int .u8) (w0 := w) w.heap.size rfl (.tmp 21) (.tmp 24) 22 5 (.int .u8 0) 1 rfl Try.underlying22 info5 rfl (by decide) (by omega) u4 x4_2 ((x0_2) % 256) [.int .u8 ((x0_2) % 256)] (fun _ => True) (fun _ => False) rfl rfl ?aP (fun _ hk => hk.elim) ?aF ?aO ?aB ?aS ?aL ?_; (case aP => exact rfl); (case aB => exact (by repeat (first | (with_reducible first | exact HB.out | apply below_alloc | apply pw_below_drewN | apply below_drew1) | exact HB.out))); (case aF => exact (fun _ _ => trivial)); (case aO => exact (by (with_reducible repeat (first | apply Kd.R_alloc | apply Kd.R_drewN | apply Kd.R_drew)); exact HO_4.out)); (case aS => exact (below_size (by repeat (first | (with_reducible first | exact HB.out | apply below_alloc | apply pw_below_drewN | apply below_drew1) | exact HB.out)))); (case aL => have := LMc8.out; omega); intro v285 w9 ho hb hg hat; rw [← Ny284.out] at ho; have n0_ := Aside0.mk (hb); have n1_ := Aside0.mk (ho); clear HB; clear HO_4; have HB := n0_; have HO286 := n1_; clear n0_ n1_; clear ho hb hg hat))
                go_ret2
                exact ⟨_, by first | rfl | (simp [errW_none, errW_some] <;> rfl) | (simp [*, errW_none, errW_some] <;> rfl), by (with_reducible repeat (first | apply Kd.R_alloc | apply Kd.R_drewN | apply Kd.R_drew)); exact HO286.out, by repeat (first | (with_reducible first | exact HB.out | apply below_alloc | apply pw_below_drewN | apply below_drew1) | exact HB.out)⟩
              · rw [if_neg c8] at H
                exact absurd H (by simp)

theorem wire_tells (n : Nat) : ∀ (k : Nat) (x : Int) (acc : List Int), n < k → 0 ≤ x → x < 128 ^ (n + 1) → acc.length + n < 140737488355328 →
    wire_Number.l0 k x acc = some (acc ++ numBytes n x, 0) := by
  induction n with
  | zero =>
    intro k x acc hk h0 h1 ha
    obtain ⟨k, rfl⟩ : ∃ m, k = m + 1 := ⟨k - 1, by omega⟩
    simp only [wire_Number.l0]
    rw [if_neg (by omega), if_pos (by omega)]
    rfl
  | succ n ih =>
    intro k x acc hk h0 h1 ha
    obtain ⟨k, rfl⟩ : ∃ m, k = m + 1 := ⟨k - 1, by omega⟩
    simp only [wire_Number.l0]
    by_cases h : x ≥ 128
    · rw [if_pos h, if_pos (by omega), or128 x h0]
      rw [ih k (x / 128) _ (by omega) (by omega) (by rw [Int.pow_succ] at h1; omega) (by simp; omega)]
      simp [numBytes, h]
    · rw [if_neg h, if_pos (by omega)]
      simp [numBytes, h]


theorem wire_Number.eq (k : Nat) (hk : 20 ≤ k) (v : Int) : wire_Number.f k v = some (numEnc v) := by
  obtain ⟨k, rfl⟩ : ∃ m, k = m + 1 := ⟨k - 1, by omega⟩
  unfold wire_Number.f numEnc
  by_cases h0 : v < 0
  · rw [if_pos h0, if_pos (.inl h0)]; simp [wire_Number.j0]
  · rw [if_neg h0]
    by_cases h1 : v > 2147483647
    · rw [if_pos (.inr h1)]; simp [wire_Number.j0, h1]
    · rw [if_neg (by omega)]
      simp only [wire_Number.j0, h1, decide_false, Bool.false_eq_true, if_false]
      rw [wire_tells 4 k v [] (by omega) (by omega) (by simp; omega) (by simp)]; rfl

/-! ### wire_Text: function 27 -/
def wire_Text.f (k : Nat) (a0 : ByteArray) : Option (List Int × Int) := if (a0.size : Int) > 262144 then (some (([] : List Int), 2)) else ((wire_Number.f k (a0.size : Int)).bind fun bt287 => (if bt287.1.length + a0.size < 140737488355328 then (some ((bt287.1 ++ bytesOf a0), bt287.2)) else (none)))
theorem wire_Text.mono : ∀ a0 k, LeO (wire_Text.f k a0) (wire_Text.f (k + 1) a0) := by
  intro a0 k
  unfold wire_Text.f
  repeat' first
      | (with_reducible exact wire_Number.mono _ _)
      | (with_reducible exact LeO.refl _)
      | (with_reducible exact LeO.none _)
      | (with_reducible refine LeO.ite ?_ ?_)
      | (with_reducible refine LeO.bind ?_ (fun _ => ?_))
      | exact wire_Number.mono _ _
      | exact LeO.none _
      | refine LeO.ite ?_ ?_
      | refine LeO.bind ?_ (fun _ => ?_)
set_option maxHeartbeats 8000000 in
set_option maxRecDepth 100000 in
theorem wire_Text.calls (k : Nat) (a0 : ByteArray) (r1 : List Int) (r2 : Int) (w : World) (h : wire_Text.f k a0 = some (r1, r2)) :
    Calls Try.prog 27 #[.string a0] w fun e w' => ∃ v0_ : Value, e = .returned (.tuple #[v0_, .int .i64 r2]) ∧ Kd.R (Kd.int .u8) 5 w' w.heap.size (fun _ => True) v0_ r1 ∧ Below w.heap.size w w' := by
  have HB := Aside0.mk (Below.refl w.heap.size w)
  have H : (if (a0.size : Int) > 262144 then (some (([] : List Int), 2)) else ((wire_Number.f k (a0.size : Int)).bind fun bt287 => (if bt287.1.length + a0.size < 140737488355328 then (some ((bt287.1 ++ bytesOf a0), bt287.2)) else (none)))) = some (r1, r2) := h
  clear h
  by_cases c2 : (a0.size : Int) > 262144
  · rw [if_pos c2] at H
    have c2b0 : decide (262144 < (a0.size : Int)) = true := decide_eq_true c2
    have c2b1 : decide (262144 < a0.size) = true := decide_eq_true (by omega)
    clear c2
    simp only [Option.some.injEq, Prod.mk.injEq] at H
    obtain ⟨rfl, rfl⟩ := H
    go_enter Try.func27, Try.ntmps27
    go_wp2
    go_ret2
    exact ⟨_, by first | rfl | (simp [errW_none, errW_some] <;> rfl) | (simp [*, errW_none, errW_some] <;> rfl), by first | exact Kd.R_nil _ _ _ _ _ | exact Kd.N_nil _ _ _ _ _ | exact Kd.V_nil _ _ _ _ _ | exact Kd.Q_nil _ _ _ _ _ | exact Kd.S_nil _ _ _ _ _, by repeat (first | (with_reducible first | exact HB.out | apply below_alloc | apply pw_below_drewN | apply below_drew1) | exact HB.out)⟩
  · rw [if_neg c2] at H
    have c2b0 : decide (262144 < (a0.size : Int)) = false := decide_eq_false c2
    have c2b1 : decide (262144 < a0.size) = false := decide_eq_false (by omega)
    clear c2
    replace H := Option.bind_eq_some_iff.mp H
    obtain ⟨⟨t287, t288⟩, A30, H⟩ := H
    replace H : (if t287.length + a0.size < 140737488355328 then (some ((t287 ++ bytesOf a0), t288)) else (none)) = some (r1, r2) := H
    have A3 := Aside0.mk A30
    clear A30
    by_cases c4 : t287.length + a0.size < 140737488355328
    · rw [if_pos c4] at H
      have LMc4 := Aside0.mk c4
      clear c4
      obtain ⟨y291, hy291⟩ : ∃ y_ : List Int, y_ = (t287 ++ bytesOf a0) := ⟨_, rfl⟩
      replace H : (some (y291, t288)) = some (r1, r2) := by first | (rw [hy291]; with_reducible exact H) | (have H2_ := (Option.bind_some _ _).symm.trans H; rw [hy291]; with_reducible exact H2_) | (have H2_ := (Option.bind_some _ _).symm.trans H; with_reducible exact H2_) | with_reducible exact H | (rw [hy291]; exact H) | exact H
      have Ny291 := Aside0.mk hy291
      clear hy291
      simp only [Option.some.injEq, Prod.mk.injEq] at H
      obtain ⟨rfl, rfl⟩ := H
      go_enter Try.func27, Try.ntmps27
      go_wp2_with (first | ((with_reducible refine gate_callee (f := 18) rfl ?_); refine goesL_ (some 12) rfl rfl Try.func18 (by kernel_rfl) rfl #[.int .i64 (a0.size : Int)] rfl (by (try simp only [List.map_toArray, List.map_cons, List.map_nil]); first | done | rfl | (simp only [List.length_drop, List.length_take]; rfl)) ?_; (with_reducible refine (wire_Number.calls k (a0.size : Int) t287 t288 _ A3.out).mono ?_); rintro e w5 ⟨v289, rfl, ho0, hb⟩; refine ⟨_, rfl, ?_⟩; have n0_ := Aside0.mk (Kd.R_lower ho0 (below_size (by repeat (first | (with_reducible first | exact HB.out | apply below_alloc | apply pw_below_drewN | apply below_drew1) | exact HB.out)))); have n1_ := Aside0.mk (below_step (by repeat (first | (with_reducible first | exact HB.out | apply below_alloc | apply pw_below_drewN | apply below_drew1) | exact HB.out)) hb); clear HB; have HO290 := n0_; have HB := n1_; clear n0_ n1_; (try clear hb); (try clear hb2); (try clear hk); (try clear hi); (try clear ho0)) | (at_builtin; refine print_append_str (w0 := w) w.heap.size rfl (.tmp 15) _ 22 9 5 rfl Try.underlying22 Try.underlying9 info5 v289 t287 a0 rfl rfl ?aO ?aB ?aS ?aL ?_; (case aB => exact (by repeat (first | (with_reducible first | exact HB.out | apply below_alloc | apply pw_below_drewN | apply below_drew1) | exact HB.out))); (case aO => exact (Kd.own_of_R (by (with_reducible repeat (first | apply Kd.R_alloc | apply Kd.R_drewN | apply Kd.R_drew)); exact HO290.out))); (case aS => exact (below_size (by repeat (first | (with_reducible first | exact HB.out | apply below_alloc | apply pw_below_drewN | apply below_drew1) | exact HB.out)))); (case aL => have := LMc4.out; omega); intro v292 w6 ho0 hb hg; have ho := Kd.R_of_own (h1 := fun _ => rfl) (ok := fun _ => True) ho0 (fun _ _ => trivial); clear ho0; have hat := True.intro; rw [← Ny291.out] at ho; change Kd.R (Kd.int .u8) 5 w6 w.heap.size (fun _ => True) v292 y291 at ho; have n0_ := Aside0.mk (hb); have n1_ := Aside0.mk (ho); clear HB; clear HO290; have HB := n0_; have HO293 := n1_; clear n0_ n1_; clear ho hb hg hat))
      go_ret2
      exact ⟨_, by first | rfl | (simp [errW_none, errW_some] <;> rfl) | (simp [*, errW_none, errW_some] <;> rfl), by (with_reducible repeat (first | apply Kd.R_alloc | apply Kd.R_drewN | apply Kd.R_drew)); exact HO293.out, by repeat (first | (with_reducible first | exact HB.out | apply below_alloc | apply pw_below_drewN | apply below_drew1) | exact HB.out)⟩
    · rw [if_neg c4] at H
      exact absurd H (by simp)

theorem wire_Text.eq (k : Nat) (hk : 20 ≤ k) (s : ByteArray) : wire_Text.f k s = some (textEnc s) := by
  unfold wire_Text.f textEnc
  by_cases h : (s.size : Int) > 262144
  · rw [if_pos h, if_pos h]
  · rw [if_neg h, if_neg h, wire_Number.eq k hk]
    unfold numEnc
    rw [if_neg (by omega)]
    have hl := numBytes_len 4 (s.size : Int)
    simp only [Option.bind_some]
    rw [if_pos (by omega)]

/-! ### heraldlaw2_awake: function 45 -/
def heraldlaw2_awake.f : Option Bool := some true
theorem awake_num : wire_Number.f 20 300 = some ([172, 2], 0) := by decide +kernel
theorem awake_text : wire_Text.f 20 (⟨#[97, 98]⟩ : ByteArray) = some ([2, 97, 98], 0) := by decide +kernel
theorem awake_rn : wire_ReadNumber.f [172, 2] 0 = some (300, 2, 0) := by decide +kernel
theorem awake_rt : wire_ReadText.f [2, 97, 98] 0 = some ((⟨#[97, 98]⟩ : ByteArray), 3, 0) := by decide +kernel
theorem awake_fr : wire_Frame.f [[97], [98]] = some (frameOf [97, 98], 0) := by
  unfold wire_Frame.f
  rw [if_neg (by decide), if_pos (by decide)]; rfl
theorem awake_un : wire_Unframe.f (frameOf [97, 98]) = some ([97, 98], 0) := by
  unfold wire_Unframe.f
  rw [if_pos ⟨frameOf_ok _ (by decide), by rw [frameOf_length]; decide⟩, unframe_frame _ (by decide) (by decide)]
theorem conv_two (w : World) (o : Obj) (C : Array Value) (n c : Nat) : (convert 22 22 (.slice (some ⟨w.heap.size + 1, 0, none⟩) n c)).run Try.prog ((w.alloc o).alloc (.cells C 5)) = .ok (.slice (some ⟨w.heap.size + 1, 0, none⟩) n c) ((w.alloc o).alloc (.cells C 5 (C.size, C.size + 1))) := by
  have h := Lib.run_convert_bytes_const (P := Try.prog) (w.alloc o) 22 5 C n c Try.underlying22 Try.underlying5
  rw [size_alloc1] at h
  exact h
set_option maxHeartbeats 8000000 in
set_option maxRecDepth 100000 in
theorem heraldlaw2_awake.calls (r : Bool) (w : World) (h : heraldlaw2_awake.f = some r) :
    Calls Try.prog 45 #[] w fun e w' => e = .returned (.bool r) ∧ Below w.heap.size w w' := by
  obtain rfl : true = r := Option.some.inj h
  clear h
  have H1 := Aside0.mk awake_num
  have H2 := Aside0.mk awake_rn
  have H3 := Aside0.mk awake_text
  have H4 := Aside0.mk awake_rt
  have hl16 : (((frameOf [97, 98]).length : Int) == 16) = true := by rw [frameOf_length]; rfl
  have hfr := awake_fr
  have hun := awake_un
  obtain ⟨L, hL⟩ : ∃ L, L = frameOf [97, 98] := ⟨_, rfl⟩
  rw [← hL] at hl16 hfr hun
  have H5 := Aside0.mk hfr
  have H6 := Aside0.mk hun
  clear hfr hun hL
  have kc := fun (w : World) (C : Array Value) (n c : Nat) => Lib.run_convert_bytes_const (P := Try.prog) w 22 5 C n c Try.underlying22 Try.underlying5
  have kc2 := conv_two
  go_enter Try.func45, Try.ntmps45
  go_wp2_with (first | (go_at_call 18; refine (wire_Number.calls 20 300 [172, 2] 0 _ H1.out).mono ?_; rintro e1 w1 ⟨v1, rfl, ho, hb⟩; obtain ⟨A1, c1, rfl, hl1, hC⟩ := Kd.R_reads ho; have HB1 := Aside0.mk hb; have HC1 := Aside0.mk hC; clear ho hb hC) | (with_reducible refine stop_lit rfl ?_))
  refine lit8 w1 w1.heap.size rfl rfl [172, 2] ?_ (Below.refl _ _) (Nat.le_refl _) (by decide) ?_
  · go_simp
    rfl
  intro v2 w2 ho hb hg hat
  obtain ⟨A2, c2, rfl, hl2, hC⟩ := Kd.R_reads ho
  have HB2 := Aside0.mk (below_step HB1.out hb)
  replace HC1 := Aside0.mk (Kd.C_below HC1.out hb)
  have HC2 := Aside0.mk hC
  clear ho hb hC hg hat HB1
  go_wp2_with (first | (go_at_call 36; refine (wire_ReadNumber.calls A2 c2 [172, 2] 0 300 2 0 _ HC2.out hl2 H2.out).mono ?_; rintro e1 w1 ⟨rfl, ⟨nd, rfl⟩⟩) | (go_at_call 27; refine (wire_Text.calls 20 (⟨#[97, 98]⟩ : ByteArray) [2, 97, 98] 0 _ H3.out).mono ?_; rintro e4 w4 ⟨v4, rfl, ho, hb⟩; obtain ⟨A4, c4, rfl, hl4, hC⟩ := Kd.R_reads ho; have HB4 := Aside0.mk (below_step (pw_below_drewN HB2.out nd) hb); replace HC1 := Aside0.mk (Kd.C_below (Kd.C_drewN HC1.out nd) hb); clear ho hb hC HB2 HC2) | (with_reducible refine stop_lit rfl ?_))
  refine lit8 w4 w4.heap.size rfl rfl [2, 97, 98] ?_ (Below.refl _ _) (Nat.le_refl _) (by decide) ?_
  · go_simp
    rfl
  intro v5 w5 ho hb hg hat
  obtain ⟨A5, c5, rfl, hl5, hC⟩ := Kd.R_reads ho
  have HB5 := Aside0.mk (below_step HB4.out hb)
  replace HC1 := Aside0.mk (Kd.C_below HC1.out hb)
  have HC5 := Aside0.mk hC
  clear ho hb hC hg hat HB4
  go_wp2_with (go_at_call 46; refine (wire_ReadText.calls A5 c5 [2, 97, 98] 0 (⟨#[97, 98]⟩ : ByteArray) 3 0 _ HC5.out hl5 H4.out).mono ?_; rintro e1 w1 ⟨rfl, ⟨nd5, rfl⟩⟩; obtain ⟨w6, hw6⟩ : ∃ w6 : World, w6 = w5.drewN nd5 := ⟨_, rfl⟩; rw [← hw6]; have HW6 := Aside0.mk hw6; clear hw6)
  have hb6 : Below w5.heap.size w5 w6 := HW6.out ▸ pw_below_drewN (Below.refl _ _) nd5
  have HB6 := Aside0.mk (below_step HB5.out hb6)
  replace HC1 := Aside0.mk (Kd.C_below HC1.out hb6)
  clear hb6 HW6 HB5 HC5
  obtain ⟨o1, ho1⟩ : ∃ o1 : Obj, o1 = .cells #[.int .u8 97] 5 (1, 2) := ⟨_, rfl⟩
  obtain ⟨o2, ho2⟩ : ∃ o2 : Obj, o2 = .cells #[.int .u8 98] 5 (1, 2) := ⟨_, rfl⟩
  have hC7 : C8 (w6.alloc o1) (some ⟨w6.heap.size, 0, none⟩) 1 [97] := by rw [ho1]; exact C_lit w6 [97] (1, 2) (by decide)
  have hC8 : C8 ((w6.alloc o1).alloc o2) (some ⟨w6.heap.size + 1, 0, none⟩) 1 [98] := by
    have := C_lit (w6.alloc o1) [98] (1, 2) (by decide)
    rw [size_alloc1] at this
    rw [ho2]; exact this
  have hrows := C_rows ((w6.alloc o1).alloc o2) [.slice (some ⟨w6.heap.size, 0, none⟩) 1 1, .slice (some ⟨w6.heap.size + 1, 0, none⟩) 1 1] [[97], [98]] rfl (by decide) (by
    intro j p hj
    match j with
    | 0 => simp at hj; subst hj; exact ⟨_, 1, rfl, by decide, Kd.C_alloc hC7 _⟩
    | 1 => simp at hj; subst hj; exact ⟨_, 1, rfl, by decide, hC8⟩
    | j + 2 => simp at hj)
  rw [size_alloc1, size_alloc1] at hrows
  have HROW := Aside0.mk hrows
  have HO1 := Aside0.mk ho1
  have HO2 := Aside0.mk ho2
  clear hrows hC7 hC8 ho1 ho2
  refine (show Calls _ _ #[.slice (some ⟨w6.heap.size + 1 + 1, 0, none⟩) 2 2] (((w6.alloc (.cells #[.int .u8 97] 5 (1, 2))).alloc (.cells #[.int .u8 98] 5 (1, 2))).alloc _) _ from ?_)
  rw [← HO1.out, ← HO2.out]
  refine (wire_Frame.calls (some ⟨w6.heap.size + 1 + 1, 0, none⟩) 2 [[97], [98]] L 0 _ HROW.out (by decide) H5.out).mono ?_
  rintro e9 w9 ⟨v9, rfl, ho, hb⟩
  obtain ⟨A9, c9, rfl, hl9, hC⟩ := Kd.R_reads ho
  have hb9 : Below w6.heap.size w6 w9 := below_step (below_alloc (below_alloc (below_alloc (Below.refl _ _) _) _) _) hb
  have HB9 := Aside0.mk (below_step HB6.out hb9)
  replace HC1 := Aside0.mk (Kd.C_below HC1.out hb9)
  have HC9 := Aside0.mk hC
  clear ho hb hb9 hC HB6 HROW HO1 HO2
  go_wp2_with (first | (with_reducible refine stop_convert rfl ?_) | (go_at_call 37; refine (wire_Unframe.calls A9 c9 L [97, 98] 0 _ HC9.out hl9 H6.out).mono ?_; rintro e10 w10 ⟨v10, rfl, ho, hb⟩; obtain ⟨A10, c10, rfl, hl10, hC⟩ := Kd.R_reads ho; have HB10 := Aside0.mk (below_step HB9.out hb); have HC10 := Aside0.mk hC; replace HC1 := Aside0.mk (Kd.C_below HC1.out hb); clear ho hb hC HB9 HC9; obtain ⟨ad, hA, hx0⟩ := Kd.at_int HC1.out 0 (by decide) (by decide); subst hA; obtain ⟨ad', hA, hx1⟩ := Kd.at_int HC1.out 1 (by decide) (by decide); cases hA; simp only [show (1 : Int).toNat = 1 from rfl, Nat.reduceMul, Nat.reduceEqDiff, Go.Addr.add, ↓reduceIte] at hx1; rw [show ((0 : Int)).toNat = 0 from rfl, Addr.add_zero'] at hx0; rw [show rd [172, 2] 0 = 172 from rfl] at hx0; rw [show rd [172, 2] 1 = 2 from rfl] at hx1))
  refine str8w rfl _ rfl rfl HC10.out ?_
  rw [show strOfNums [97, 98] = (⟨#[97, 98]⟩ : ByteArray) from rfl]
  go_wp2
  go_ret
  exact ⟨rfl, HB10.out⟩

end Go.Proofs.Ytnanaojjhmpilaa.PW
