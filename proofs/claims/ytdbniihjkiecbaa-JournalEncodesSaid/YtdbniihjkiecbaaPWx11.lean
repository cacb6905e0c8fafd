/- The machine's side of functions, in one namespace: each function's call comes to what its Lean function tells. -/
import Derived.Test.YtdbniihjkiecbaaPWx0
namespace Go.Proofs.Ytdbniihjkiecbaa.PW
open Go.RowKit Go.Proofs.YtdbniihjkiecbaaW.PrintWords Go.Proofs.YtdbniihjkiecbaaW.PrintLast Go.Proofs.YtdbniihjkiecbaaW.PrintMore
attribute [local go_sem] max2_int min2_int max_two min_two max_three min_three max_four min_four   -- for this text's walks alone
set_option linter.unusedVariables false
set_option linter.unusedSimpArgs false

/-! ### heraldref7_four: function 29 -/
def heraldref7_four.f (a0 : Int) : Option (List Int) := some (([(Go.bits .and .i64 (a0 / 16777216) 255) % 256, (Go.bits .and .i64 (a0 / 65536) 255) % 256, (Go.bits .and .i64 (a0 / 256) 255) % 256, (Go.bits .and .i64 a0 255) % 256] : List Int))
set_option maxHeartbeats 8000000 in
set_option maxRecDepth 100000 in
theorem heraldref7_four.calls (a0 : Int) (r : List Int) (w : World) (h : heraldref7_four.f a0 = some r) :
    Calls Try.prog 29 #[.int .i64 a0] w fun e w' => ∃ v0_ : Value, e = .returned (v0_) ∧ Kd.R (Kd.int .u8) 5 w' w.heap.size (fun _ => True) v0_ r ∧ Below w.heap.size w w' := by
  have HB := Aside0.mk (Below.refl w.heap.size w)
  have H : (some (([(Go.bits .and .i64 (a0 / 16777216) 255) % 256, (Go.bits .and .i64 (a0 / 65536) 255) % 256, (Go.bits .and .i64 (a0 / 256) 255) % 256, (Go.bits .and .i64 a0 255) % 256] : List Int))) = some r := h
  clear h
  obtain ⟨y211, hy211⟩ : ∃ y_ : List Int, y_ = (([(Go.bits .and .i64 (a0 / 16777216) 255) % 256, (Go.bits .and .i64 (a0 / 65536) 255) % 256, (Go.bits .and .i64 (a0 / 256) 255) % 256, (Go.bits .and .i64 a0 255) % 256] : List Int)) := ⟨_, rfl⟩
  replace H : (some y211) = some r := by first | (rw [hy211]; with_reducible exact H) | (have H2_ := (Option.bind_some _ _).symm.trans H; rw [hy211]; with_reducible exact H2_) | (have H2_ := (Option.bind_some _ _).symm.trans H; with_reducible exact H2_) | with_reducible exact H | (rw [hy211]; exact H) | exact H
  have Ny211 := Aside0.mk hy211
  clear hy211
  obtain rfl := Option.some.inj H
  go_enter Try.func29, Try.ntmps29
  go_wp2_with (first | ((with_reducible refine gate_dst (N := 18) rfl ?_); refine Kd.R_lit (Kd.int .u8) _ 5 ?hg (N := 18) ?hd (xs := ([(Go.bits .and .i64 (a0 / 16777216) 255) % 256, (Go.bits .and .i64 (a0 / 65536) 255) % 256, (Go.bits .and .i64 (a0 / 256) 255) % 256, (Go.bits .and .i64 a0 255) % 256] : List Int)) (inner := [.int .u8 ((Go.bits .and .i64 (a0 / 16777216) 255) % 256), .int .u8 ((Go.bits .and .i64 (a0 / 65536) 255) % 256), .int .u8 ((Go.bits .and .i64 (a0 / 256) 255) % 256), .int .u8 ((Go.bits .and .i64 a0 255) % 256)]) (ok := fun _ => True) (okp := fun _ => True) ?hr ?hp (fun _ hk => hk) trivial (Below.refl _ _) (Nat.le_refl _) (by simp) ?_; (case hd => rfl); (case hg => rfl); (case hr => first | (go_simp; done) | (go_simp; rfl)); (case hp => exact (Reps.one (show Kd.M (Kd.int .u8) _ _ _ ((Go.bits .and .i64 (a0 / 16777216) 255) % 256) [.int .u8 ((Go.bits .and .i64 (a0 / 16777216) 255) % 256)] from rfl) (Reps.one (show Kd.M (Kd.int .u8) _ _ _ ((Go.bits .and .i64 (a0 / 65536) 255) % 256) [.int .u8 ((Go.bits .and .i64 (a0 / 65536) 255) % 256)] from rfl) (Reps.one (show Kd.M (Kd.int .u8) _ _ _ ((Go.bits .and .i64 (a0 / 256) 255) % 256) [.int .u8 ((Go.bits .and .i64 (a0 / 256) 255) % 256)] from rfl) (Reps.one (show Kd.M (Kd.int .u8) _ _ _ ((Go.bits .and .i64 a0 255) % 256) [.int .u8 ((Go.bits .and .i64 a0 255) % 256)] from rfl) (Reps.none _ _)))))); intro v212 w2 ho3 hb hg_ hnew_; clear hg_ hnew_; (first | rw [← Ny211.out] at ho3 | (simp only [Int.reduceToNat] at ho3; rw [← Ny211.out] at ho3)); have n0_ := Aside0.mk (Kd.R_lower ho3 (below_size (by repeat first | exact HB.out | apply below_alloc | apply pw_below_drewN | apply below_drew1))); have n1_ := Aside0.mk (below_step (by repeat first | exact HB.out | apply below_alloc | apply pw_below_drewN | apply below_drew1) hb); clear HB; have HO213 := n0_; have HB := n1_; clear n0_ n1_; clear hb ho3))
  go_ret
  exact ⟨_, by first | rfl | (simp [errW_none, errW_some] <;> rfl) | (simp [*, errW_none, errW_some] <;> rfl), by (with_reducible repeat (first | apply Kd.R_alloc | apply Kd.R_drewN | apply Kd.R_drew)); exact HO213.out, by repeat (first | (with_reducible first | exact HB.out | apply below_alloc | apply pw_below_drewN | apply below_drew1) | exact HB.out)⟩

/-! ### heraldref2_turned: function 67 -/
def heraldref2_turned.f (a0 : Int) : Option (Int) := if (Int.tmod a0 2) = 1 then (some (Go.bits .xor .i64 (wrap64 (Int.tdiv a0 2)) 3988292384)) else (some (wrap64 (Int.tdiv a0 2)))
set_option maxHeartbeats 8000000 in
set_option maxRecDepth 100000 in
theorem heraldref2_turned.calls (a0 : Int) (r : Int) (w : World) (h : heraldref2_turned.f a0 = some r) :
    Calls Try.prog 67 #[.int .i64 a0] w fun e w' => e = .returned (.int .i64 r) ∧ Drawn0 w w' := by
  have H : (if (Int.tmod a0 2) = 1 then (some (Go.bits .xor .i64 (wrap64 (Int.tdiv a0 2)) 3988292384)) else (some (wrap64 (Int.tdiv a0 2)))) = some r := h
  clear h
  by_cases c2 : (Int.tmod a0 2) = 1
  · rw [if_pos c2] at H
    have c2b0 : ((Int.tmod a0 2) == 1) = true := beq_iff_eq.mpr c2
    have c2b1 : ((Int.tmod a0 2) != 1) = false := bne_eq_false_iff_eq.mpr c2
    clear c2
    obtain rfl := Option.some.inj H
    go_enter Try.func67, Try.ntmps67
    go_wp2
    go_ret
    exact ⟨by first | rfl | (simp; done) | (simp [*]; done), by repeat (first | exact Drawn0.refl _ | apply Drawn0.step)⟩
  · rw [if_neg c2] at H
    have c2b0 : ((Int.tmod a0 2) == 1) = false := beq_eq_false_iff_ne.mpr c2
    have c2b1 : ((Int.tmod a0 2) != 1) = true := bne_iff_ne.mpr c2
    obtain rfl := Option.some.inj H
    go_enter Try.func67, Try.ntmps67
    go_wp2
    go_ret
    exact ⟨by first | rfl | (simp; done) | (simp [*]; done), by repeat (first | exact Drawn0.refl _ | apply Drawn0.step)⟩

/-! ### heraldref2_step: function 51 -/
def heraldref2_step.l0 : Nat → Int → Int → Option (Int)
  | 0, _, _ => none
  | k + 1, x0, x5 => if x5 < 8 then ((heraldref2_turned.f x0).bind fun t214 => (heraldref2_step.l0 k t214 (wrap64 (x5 + 1)))) else (some x0)
def heraldref2_step.f (k : Nat) (a0 : Int) (a1 : Int) : Option (Int) := heraldref2_step.l0 k (Go.bits .xor .i64 a0 (wrap64 (a1))) 0
set_option maxHeartbeats 8000000 in
set_option maxRecDepth 100000 in
theorem heraldref2_step.calls (k : Nat) (a0 : Int) (a1 : Int) (r : Int) (w : World) (h : heraldref2_step.f k a0 a1 = some r) :
    Calls Try.prog 51 #[.int .i64 a0, .int .u8 a1] w fun e w' => e = .returned (.int .i64 r) ∧ Drawn0 w w' := by
  have H : (heraldref2_step.l0 k (Go.bits .xor .i64 a0 (wrap64 (a1))) 0) = some r := h
  clear h
  have H' := Aside0.mk H
  clear H
  go_enter Try.func51, Try.ntmps51
  go_wp2
  go_loopg [0, 5] k (fun kq v0 v5 w' => ∃ (x0_1 : Int) (x5_1 : Int), v0 = .int .i64 x0_1 ∧ v5 = .int .i64 x5_1 ∧ Aside0 (heraldref2_step.l0 kq x0_1 x5_1 = some r) ∧ Aside0 (kq ≤ k) ∧ Drawn0 w w')
  case atStart => exact ⟨(Go.bits .xor .i64 a0 (wrap64 (a1))), (0), (by first | rfl | (simp; done) | (simp [*]; done)), (by first | rfl | (simp; done) | (simp [*]; done)), H', ⟨Nat.le_refl _⟩, by repeat (first | exact Drawn0.refl _ | apply Drawn0.step)⟩
  case round =>
    clear H'
    try clear p2
    obtain ⟨x0_1, x5_1, rfl, rfl, HA, HK1, ⟨m1, rfl⟩⟩ := hrel
    cases gk with
    | zero => exact absurd HA.out (by simp [heraldref2_step.l0])
    | succ k1 =>
      have H := HA.out
      clear HA
      simp only [heraldref2_step.l0] at H
      by_cases c3 : x5_1 < 8
      · rw [if_pos c3] at H
        have c3b0 : decide (x5_1 < 8) = true := decide_eq_true c3
        clear c3
        replace H := Option.bind_eq_some_iff.mp H
        obtain ⟨t214, A40, H⟩ := H
        replace H : (heraldref2_step.l0 k1 t214 (wrap64 (x5_1 + 1))) = some r := H
        have A4 := Aside0.mk A40
        clear A40
        have H' := Aside0.mk H
        clear H
        go_wp2_with (first | ((with_reducible refine gate_callee (f := 67) rfl ?_); refine goesL_ (some 15) rfl rfl Try.func67 (by kernel_rfl) rfl #[.int .i64 x0_1] rfl (by (try simp only [List.map_toArray, List.map_cons, List.map_nil]); first | done | rfl | (simp only [List.length_drop, List.length_take]; rfl)) ?_; (with_reducible refine (heraldref2_turned.calls x0_1 t214 _ A4.out).mono ?_); rintro e w' ⟨rfl, ⟨nd, rfl⟩⟩; refine ⟨_, rfl, ?_⟩))
        go_roundg k1
        case measure => have := HK1.out; omega
        case rel => exact ⟨(t214), (wrap64 (x5_1 + 1)), (by first | rfl | (simp; done) | (simp [*]; done)), (by first | rfl | (simp; done) | (simp [*]; done)), H', ⟨by have := HK1.out; omega⟩, by repeat (first | exact Drawn0.refl _ | apply Drawn0.step)⟩
      · rw [if_neg c3] at H
        have c3b0 : decide (x5_1 < 8) = false := decide_eq_false c3
        clear c3
        obtain rfl := Option.some.inj H
        go_wp2
        go_ret
        exact ⟨by first | rfl | (simp; done) | (simp [*]; done), by repeat (first | exact Drawn0.refl _ | apply Drawn0.step)⟩

/-! ### heraldref2_Sum: function 30 -/
def heraldref2_Sum.l0 : Nat → List Int → Int → Int → Option (Int)
  | 0, _, _, _ => none
  | k + 1, x0, x3, x4 => if x4 < (x0.length : Int) then (if 0 ≤ x4 then ((heraldref2_step.f k x3 (rd x0 x4)).bind fun t216 => (heraldref2_Sum.l0 k x0 t216 (wrap64 (x4 + 1)))) else (none)) else (some (Go.bits .xor .i64 x3 4294967295))
def heraldref2_Sum.f (k : Nat) (l0 : List Int) : Option (Int) := heraldref2_Sum.l0 k l0 4294967295 0
set_option maxHeartbeats 8000000 in
set_option maxRecDepth 100000 in
theorem heraldref2_Sum.calls (k : Nat) (A0 : Option Addr) (c0 : Nat) (l0 : List Int) (r : Int) (w : World) (hr0 : Kd.C (Kd.int .u8) w A0 l0.length l0) (hc0 : l0.length ≤ c0) (h : heraldref2_Sum.f k l0 = some r) :
    Calls Try.prog 30 #[.slice A0 l0.length c0] w fun e w' => e = .returned (.int .i64 r) ∧ Drawn0 w w' := by
  have HR0 := Aside0.mk hr0
  have HC0 := Aside0.mk hc0
  clear hr0 hc0
  have H : (heraldref2_Sum.l0 k l0 4294967295 0) = some r := h
  clear h
  have H' := Aside0.mk H
  clear H
  go_enter Try.func30, Try.ntmps30
  go_wp2
  go_loopg [3, 4] k (fun kq v3 v4 w' => ∃ (x3_1 : Int) (x4_1 : Int), v3 = .int .i64 x3_1 ∧ v4 = .int .i64 x4_1 ∧ Aside0 (heraldref2_Sum.l0 kq l0 x3_1 x4_1 = some r) ∧ Aside0 (kq ≤ k) ∧ Drawn0 w w')
  case atStart => exact ⟨(4294967295), (0), (by first | rfl | (simp; done) | (simp [*]; done)), (by first | rfl | (simp; done) | (simp [*]; done)), H', ⟨Nat.le_refl _⟩, by repeat (first | exact Drawn0.refl _ | apply Drawn0.step)⟩
  case round =>
    clear H'
    obtain ⟨x3_1, x4_1, rfl, rfl, HA, HK1, ⟨m1, rfl⟩⟩ := hrel
    cases gk with
    | zero => exact absurd HA.out (by simp [heraldref2_Sum.l0])
    | succ k1 =>
      have H := HA.out
      clear HA
      simp only [heraldref2_Sum.l0] at H
      by_cases c2 : x4_1 < (l0.length : Int)
      · rw [if_pos c2] at H
        have c2b0 : decide (x4_1 < (l0.length : Int)) = true := decide_eq_true c2
        clear c2
        by_cases c3 : 0 ≤ x4_1
        · rw [if_pos c3] at H
          have c3b0 : decide (0 ≤ x4_1) = true := decide_eq_true c3
          clear c3
          replace H := Option.bind_eq_some_iff.mp H
          obtain ⟨t216, A40, H⟩ := H
          replace H : (heraldref2_Sum.l0 k1 l0 t216 (wrap64 (x4_1 + 1))) = some r := H
          have A4 := Aside0.mk A40
          clear A40
          have H' := Aside0.mk H
          clear H
          have p215 : 0 ≤ (x4_1 : Int) := of_decide_eq_true (by first | (with_reducible assumption) | assumption)
          have q215 : x4_1 < (l0.length : Int) := of_decide_eq_true (by first | (with_reducible assumption) | assumption)
          obtain ⟨ad215, e215, hx215_0⟩ := Kd.at_int HR0.out x4_1 p215 q215
          cases e215
          replace p215 := eq_true p215
          replace q215 := eq_true q215
          go_wp2_with (first | ((with_reducible refine gate_callee (f := 51) rfl ?_); refine goesL_ (some 16) rfl rfl Try.func51 (by kernel_rfl) rfl #[.int .i64 x3_1, .int .u8 (rd l0 x4_1)] rfl (by (try simp only [List.map_toArray, List.map_cons, List.map_nil]); first | done | rfl | (simp only [List.length_drop, List.length_take]; rfl)) ?_; (with_reducible refine (heraldref2_step.calls k1 x3_1 (rd l0 x4_1) t216 _ A4.out).mono ?_); rintro e w' ⟨rfl, ⟨nd, rfl⟩⟩; refine ⟨_, rfl, ?_⟩))
          go_roundg k1
          case measure => have := HK1.out; omega
          case rel => exact ⟨(t216), (wrap64 (x4_1 + 1)), (by first | rfl | (simp; done) | (simp [*]; done)), (by first | rfl | (simp; done) | (simp [*]; done)), H', ⟨by have := HK1.out; omega⟩, by repeat (first | exact Drawn0.refl _ | apply Drawn0.step)⟩
        · rw [if_neg c3] at H
          exact absurd H (by simp)
      · rw [if_neg c2] at H
        have c2b0 : decide (x4_1 < (l0.length : Int)) = false := decide_eq_false c2
        clear c2
        obtain rfl := Option.some.inj H
        go_wp2
        go_ret
        exact ⟨by first | rfl | (simp; done) | (simp [*]; done), by repeat (first | exact Drawn0.refl _ | apply Drawn0.step)⟩

theorem ref_turned (r : Nat) (h : r < 2 ^ 32) : heraldref2_turned.f (r : Int) = some ((bit1 r : Nat) : Int) ∧ bit1 r < 2 ^ 32 := by
  unfold heraldref2_turned.f bit1
  have e1 : Int.tmod (r : Int) 2 = ((r % 2 : Nat) : Int) := by rw [Int.tmod_eq_emod_of_nonneg (by omega)]; omega
  have e2 : wrap64 (Int.tdiv (r : Int) 2) = ((r / 2 : Nat) : Int) := by rw [Int.tdiv_eq_ediv_of_nonneg (by omega)]; unfold wrap64; omega
  rw [e1, e2]
  by_cases hb : r % 2 = 1
  · rw [if_pos (by omega), if_pos hb, show (3988292384 : Int) = ((3988292384 : Nat) : Int) from rfl, bits_xor_nat .i64 32 (by decide) (fun n h0 h1 => wr_i64 n h0 (by omega)) _ _ (by omega) (by decide)]
    exact ⟨rfl, Nat.xor_lt_two_pow (by omega) (by decide)⟩
  · rw [if_neg (by omega), if_neg hb]
    exact ⟨rfl, by omega⟩
theorem ref_step_l0 (n : Nat) : ∀ (k : Nat) (r : Nat) (i : Int), n < k → i = 8 - n → n ≤ 8 → r < 2 ^ 32 → heraldref2_step.l0 k (r : Int) i = some ((Nat.repeat bit1 n r : Nat) : Int) := by
  induction n with
  | zero =>
    intro k r i hk hi hn h
    obtain ⟨k, rfl⟩ : ∃ m, k = m + 1 := ⟨k - 1, by omega⟩
    simp only [heraldref2_step.l0]; rw [if_neg (by omega)]; rfl
  | succ n ih =>
    intro k r i hk hi hn h
    obtain ⟨k, rfl⟩ : ∃ m, k = m + 1 := ⟨k - 1, by omega⟩
    obtain ⟨e, hlt⟩ := ref_turned r h
    simp only [heraldref2_step.l0]; rw [if_pos (by omega), e]
    simp only [Option.bind_some]
    rw [show wrap64 (i + 1) = i + 1 by unfold wrap64; omega, ih k (bit1 r) (i + 1) (by omega) (by omega) (by omega) hlt]
    congr 2
    have : ∀ (m : Nat) (x : Nat), Nat.repeat bit1 m (bit1 x) = bit1 (Nat.repeat bit1 m x) := by
      intro m
      induction m with
      | zero => intro x; rfl
      | succ m ihm => intro x; show bit1 (Nat.repeat bit1 m (bit1 x)) = bit1 (bit1 (Nat.repeat bit1 m x)); rw [ihm]
    exact this n r
theorem ref_step (k : Nat) (hk : 9 ≤ k) (r : Nat) (b : Int) (h : r < 2 ^ 32) (h0 : 0 ≤ b) (h1 : b < 256) : heraldref2_step.f k (r : Int) b = some ((halfN (halfN (r ^^^ b.toNat)) : Nat) : Int) := by
  unfold heraldref2_step.f
  have hx : r ^^^ b.toNat < 2 ^ 32 := Nat.xor_lt_two_pow h (by omega)
  rw [show wrap64 b = ((b.toNat : Nat) : Int) by unfold wrap64; omega, bits_xor_nat .i64 32 (by decide) (fun n h0 h1 => wr_i64 n h0 (by omega)) _ _ h (by omega), ref_step_l0 8 k _ 0 (by omega) (by omega) (by omega) hx]
  congr 2
  show bit1 (bit1 (bit1 (bit1 (bit1 (bit1 (bit1 (bit1 _))))))) = _
  rw [four_bits, four_bits]; rfl
theorem ref_sum_l0 (l : List Int) (hl : l.length ≤ 1000000000000) (hb : bytesOk l = true) (d : Nat) : ∀ (k : Nat) (r : Nat) (i : Nat), i + d = l.length → d + 9 ≤ k → r < 2 ^ 32 →
    heraldref2_Sum.l0 k l (r : Int) (i : Int) = some ((4294967295 ^^^ sumFromN r (l.drop i) : Nat) : Int) := by
  induction d with
  | zero =>
    intro k r i hi hk h
    obtain ⟨k, rfl⟩ : ∃ m, k = m + 1 := ⟨k - 1, by omega⟩
    simp only [heraldref2_Sum.l0]; rw [if_neg (by omega), List.drop_eq_nil_of_le (by omega), sumFromN]
    rw [show (4294967295 : Int) = ((4294967295 : Nat) : Int) from rfl, bits_xor_nat .i64 32 (by decide) (fun n h0 h1 => wr_i64 n h0 (by omega)) _ _ h (by decide), Nat.xor_comm]
  | succ d ih =>
    intro k r i hi hk h
    obtain ⟨k, rfl⟩ : ∃ m, k = m + 1 := ⟨k - 1, by omega⟩
    obtain ⟨b0, b1⟩ := bytesOk_rd hb i (by omega)
    have hx : r ^^^ (rd l i).toNat < 2 ^ 32 := Nat.xor_lt_two_pow h (by omega)
    simp only [heraldref2_Sum.l0]; rw [if_pos (by omega), if_pos (by omega), ref_step k (by omega) r _ h b0 b1]
    simp only [Option.bind_some]
    rw [show wrap64 ((i : Int) + 1) = ((i + 1 : Nat) : Int) by unfold wrap64; omega, ih k _ (i + 1) (by omega) (by omega) (halfN_lt _ (halfN_lt _ hx)), drop_rd l i (by omega), sumFromN]
/-- The document's sum is the program's. -/
theorem ref_sum (k : Nat) (l : List Int) (hl : l.length ≤ 1000000000000) (hb : bytesOk l = true) (hk : l.length + 9 ≤ k) : heraldref2_Sum.f k l = some (sumW l) := by
  unfold heraldref2_Sum.f
  rw [show (4294967295 : Int) = ((4294967295 : Nat) : Int) from rfl, show (0 : Int) = ((0 : Nat) : Int) from rfl, ref_sum_l0 l hl hb l.length k 4294967295 0 (by omega) (by omega) (by decide), (sumW_nat l hb).1]
  rfl

end Go.Proofs.Ytdbniihjkiecbaa.PW
