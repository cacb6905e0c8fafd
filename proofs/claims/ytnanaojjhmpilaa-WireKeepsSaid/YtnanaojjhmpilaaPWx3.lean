/- The machine's side of functions, in one namespace: each function's call comes to what its Lean function tells. -/
import Derived.Test.YtnanaojjhmpilaaPWx0
import Derived.Test.YtnanaojjhmpilaaPWx1
namespace Go.Proofs.Ytnanaojjhmpilaa.PW
open Go.RowKit Go.Proofs.YtnanaojjhmpilaaW.PrintWords Go.Proofs.YtnanaojjhmpilaaW.PrintLast Go.Proofs.YtnanaojjhmpilaaW.PrintMore
attribute [local go_sem] max2_int min2_int max_two min_two max_three min_three max_four min_four   -- for this text's walks alone
set_option linter.unusedVariables false
set_option linter.unusedSimpArgs false

/-! ### heraldlaw2_twins: function 30 -/
def heraldlaw2_twins.l0 : Nat → List (List Int) → List (List Int) → Int → Option ((List (List Int)))
  | 0, _, _, _ => none
  | k + 1, x0, x3, x4 => if x4 < (x0.length : Int) then (if 0 ≤ x4 then ((heraldlaw2_roomy.f (rd_L1 x0 x4)).bind fun t131 => (if x3.length < 5864062014805 then (heraldlaw2_twins.l0 k x0 (x3 ++ [t131]) (wrap64 (x4 + 1))) else (none))) else (none)) else (some x3)
def heraldlaw2_twins.f (k : Nat) (l0 : List (List Int)) : Option ((List (List Int))) := heraldlaw2_twins.l0 k l0 ([] : List (List Int)) 0
theorem heraldlaw2_twins.mono_l : ∀ k, (∀ y0 y1 y2, LeO (heraldlaw2_twins.l0 k y0 y1 y2) (heraldlaw2_twins.l0 (k + 1) y0 y1 y2))
  | 0 => fun _ _ _ r h => by simp [heraldlaw2_twins.l0] at h
  | k + 1 => by
    have ih0 := heraldlaw2_twins.mono_l k
    · intro y0 y1 y2
      unfold heraldlaw2_twins.l0
      repeat' first
      | (with_reducible exact ih0 _ _ _)
      | (with_reducible exact LeO.refl _)
      | (with_reducible exact LeO.none _)
      | (with_reducible refine LeO.ite ?_ ?_)
      | (with_reducible refine LeO.bind ?_ (fun _ => ?_))
      | exact ih0 _ _ _
      | exact LeO.none _
      | refine LeO.ite ?_ ?_
      | refine LeO.bind ?_ (fun _ => ?_)
theorem heraldlaw2_twins.mono : ∀ a0 k, LeO (heraldlaw2_twins.f k a0) (heraldlaw2_twins.f (k + 1) a0) := by
  intro a0 k
  have ih0 := heraldlaw2_twins.mono_l k
  unfold heraldlaw2_twins.f
  repeat' first
      | (with_reducible exact ih0 _ _ _)
      | (with_reducible exact LeO.refl _)
      | (with_reducible exact LeO.none _)
      | (with_reducible refine LeO.ite ?_ ?_)
      | (with_reducible refine LeO.bind ?_ (fun _ => ?_))
      | exact ih0 _ _ _
      | exact LeO.none _
      | refine LeO.ite ?_ ?_
      | refine LeO.bind ?_ (fun _ => ?_)
set_option maxHeartbeats 8000000 in
set_option maxRecDepth 100000 in
theorem heraldlaw2_twins.calls (k : Nat) (A0 : Option Addr) (c0 : Nat) (l0 : List (List Int)) (r : List (List Int)) (w : World) (hr0 : Kd.C (Kd.slice 5 (Kd.int .u8)) w A0 l0.length l0) (hc0 : l0.length ≤ c0) (h : heraldlaw2_twins.f k l0 = some r) :
    Calls Try.prog 30 #[.slice A0 l0.length c0] w fun e w' => ∃ v0_ : Value, e = .returned (v0_) ∧ Kd.S (Kd.slice 5 (Kd.int .u8)) 22 w' w.heap.size (fun _ => True) v0_ r ∧ Below w.heap.size w w' := by
  have HR0 := Aside0.mk hr0
  have HC0 := Aside0.mk hc0
  clear hr0 hc0
  have HB := Aside0.mk (Below.refl w.heap.size w)
  have H : (heraldlaw2_twins.l0 k l0 ([] : List (List Int)) 0) = some r := h
  clear h
  have H' := Aside0.mk H
  clear H
  go_enter Try.func30, Try.ntmps30
  go_wp2
  go_loopg [3, 4] k (fun kq v3 v4 w' => ∃ (x3_1 : List (List Int)) (x4_1 : Int), v4 = .int .i64 x4_1 ∧ Aside0 (heraldlaw2_twins.l0 kq l0 x3_1 x4_1 = some r) ∧ Aside0 (kq ≤ k) ∧ Aside0 (Kd.S (Kd.slice 5 (Kd.int .u8)) 22 w' w.heap.size (fun _ => True) v3 x3_1) ∧ Aside0 (Below w.heap.size w w'))
  case atStart => exact ⟨(([] : List (List Int))), (0), (by first | rfl | (simp; done) | (simp [*]; done)), H', ⟨Nat.le_refl _⟩, ⟨by first | exact Kd.S_nil _ _ _ _ _ | exact Kd.N_nil _ _ _ _ _ | exact Kd.V_nil _ _ _ _ _ | exact Kd.Q_nil _ _ _ _ _ | exact Kd.R_nil _ _ _ _ _⟩, ⟨by repeat (first | (with_reducible first | exact HB.out | apply below_alloc | apply pw_below_drewN | apply below_drew1) | exact HB.out)⟩⟩
  case round =>
    clear H'
    obtain ⟨x3_1, x4_1, rfl, HA, HK1, HO_3, HB⟩ := hrel
    cases gk with
    | zero => exact absurd HA.out (by simp [heraldlaw2_twins.l0])
    | succ k1 =>
      have H := HA.out
      clear HA
      simp only [heraldlaw2_twins.l0] at H
      by_cases c2 : x4_1 < (l0.length : Int)
      · rw [if_pos c2] at H
        have c2b0 : decide (x4_1 < (l0.length : Int)) = true := decide_eq_true c2
        clear c2
        by_cases c3 : 0 ≤ x4_1
        · rw [if_pos c3] at H
          have c3b0 : decide (0 ≤ x4_1) = true := decide_eq_true c3
          clear c3
          replace H := Option.bind_eq_some_iff.mp H
          obtain ⟨t131, A40, H⟩ := H
          replace H : (if x3_1.length < 5864062014805 then (heraldlaw2_twins.l0 k1 l0 (x3_1 ++ [t131]) (wrap64 (x4_1 + 1))) else (none)) = some r := H
          have A4 := Aside0.mk A40
          clear A40
          by_cases c5 : x3_1.length < 5864062014805
          · rw [if_pos c5] at H
            have LMc5 := Aside0.mk c5
            clear c5
            obtain ⟨y134, hy134⟩ : ∃ y_ : List (List Int), y_ = (x3_1 ++ [t131]) := ⟨_, rfl⟩
            replace H : (heraldlaw2_twins.l0 k1 l0 y134 (wrap64 (x4_1 + 1))) = some r := by first | (rw [hy134]; with_reducible exact H) | (have H2_ := (Option.bind_some _ _).symm.trans H; rw [hy134]; with_reducible exact H2_) | (have H2_ := (Option.bind_some _ _).symm.trans H; with_reducible exact H2_) | with_reducible exact H | (rw [hy134]; exact H) | exact H
            have Ny134 := Aside0.mk hy134
            clear hy134
            have H' := Aside0.mk H
            clear H
            have p130 : 0 ≤ (x4_1 : Int) := of_decide_eq_true (by first | (with_reducible assumption) | assumption)
            have q130 : x4_1 < (l0.length : Int) := of_decide_eq_true (by first | (with_reducible assumption) | assumption)
            obtain ⟨ad130, A130_0, c130_0, e130, hx130_0, hl130_0, hi130_0⟩ := at_L1 HR0.out x4_1 p130 q130
            cases e130
            replace hx130_0 := (HB.out.cell (World.block_lt_of_cell? w _ hx130_0)).trans hx130_0
            have HR130_0 := Aside0.mk hi130_0
            have HC130_0 := Aside0.mk hl130_0
            clear hi130_0 hl130_0
            replace p130 := eq_true p130
            replace q130 := eq_true q130
            go_wp2_with (first | ((with_reducible refine gate_callee (f := 22) rfl ?_); refine goesL_ (some 16) rfl rfl Try.func22 (by kernel_rfl) rfl #[.slice A130_0 (rd_L1 l0 x4_1).length c130_0] rfl (by (try simp only [List.map_toArray, List.map_cons, List.map_nil]); first | done | rfl | (simp only [List.length_drop, List.length_take]; rfl)) ?_; (with_reducible refine (heraldlaw2_roomy.calls _ _ (rd_L1 l0 x4_1) t131 _ ?side1 ?side2 A4.out).mono ?_); (case side1 => repeat (first | exact (Kd.C_below HR130_0.out HB.out) | (with_reducible refine Kd.C_alloc ?_ _) | (with_reducible refine Kd.C_drewN ?_ _) | (with_reducible refine Kd.C_drew ?_))); (case side2 => exact HC130_0.out); rintro e w6 ⟨v132, rfl, ho0, hb⟩; refine ⟨_, rfl, ?_⟩; have n0_ := Aside0.mk (Kd.S_elder' (by (with_reducible repeat (first | apply Kd.S_alloc | apply Kd.S_drewN | apply Kd.S_drew)); exact HO_3.out) (Kd.R_base ho0) hb); have n1_ := Aside0.mk (Kd.R_lower ho0 (below_size (by repeat (first | (with_reducible first | exact HB.out | apply below_alloc | apply pw_below_drewN | apply below_drew1) | exact HB.out)))); have n2_ := Aside0.mk (below_step (by repeat (first | (with_reducible first | exact HB.out | apply below_alloc | apply pw_below_drewN | apply below_drew1) | exact HB.out)) hb); clear HO_3; clear HB; have HO_3 := n0_; have HO133 := n1_; have HB := n2_; clear n0_ n1_ n2_; (try clear hb); (try clear hb2); (try clear hk); (try clear hi); (try clear ho0); obtain ⟨Ao8, co8, eo8⟩ := Kd.R_slice HO133.out; subst eo8) | ((with_reducible refine gate_builtin (b := .append) (xs := #[.tmp 17, .tmp 19]) rfl ?_); at_builtin; refine Kd.S_append (Kd.slice 5 (Kd.int .u8)) (w0 := w) w.heap.size rfl (.tmp 17) (.tmp 19) 37 22 (.slice none 0 0) 24 rfl Try.underlying37 info22 rfl (by decide) (by omega) u3 x3_1 t131 [.slice Ao8 t131.length co8] (fun _ => True) (fun k_ => some k_ = (.slice Ao8 t131.length co8 : Value).ownBlock) rfl rfl ?aP (fun k_ hk_ => ((Kd.R_mono (ok' := fun k_ => ((fun _ => True)) k_ ∧ some k_ ≠ (u3 : Value).ownBlock) (Kd.R_apart' (HO133.out) (Kd.S_typed HO_3.out) (by decide)) (fun k_ hk => ⟨trivial, hk.2⟩))).1 k_ hk_.symm) ?aF ?aO ?aB ?aS ?aL ?_; (case aP => exact Kd.M_row (Kd.R_mono (Kd.R_tight rfl (Kd.R_mono (ok' := fun k_ => ((fun _ => True)) k_ ∧ some k_ ≠ (u3 : Value).ownBlock) (Kd.R_apart' (HO133.out) (Kd.S_typed HO_3.out) (by decide)) (fun k_ hk => ⟨trivial, hk.2⟩))) (fun _ h_ => h_))); (case aB => exact (by repeat (first | (with_reducible first | exact HB.out | apply below_alloc | apply pw_below_drewN | apply below_drew1) | exact HB.out))); (case aF => exact (fun _ _ => trivial)); (case aO => exact (by (with_reducible repeat (first | apply Kd.S_alloc | apply Kd.S_drewN | apply Kd.S_drew)); exact Kd.S_mono HO_3.out (fun k_ hk => ⟨trivial, fun e_ => hk.2 e_⟩))); (case aS => exact (below_size (by repeat (first | (with_reducible first | exact HB.out | apply below_alloc | apply pw_below_drewN | apply below_drew1) | exact HB.out)))); (case aL => have := LMc5.out; omega); intro v135 w7 ho hb hg hat; rw [← Ny134.out] at ho; have n0_ := Aside0.mk (hb); have n1_ := Aside0.mk (ho); clear HB; clear HO_3; clear HO133; have HB := n0_; have HO136 := n1_; clear n0_ n1_; clear ho hb hg hat))
            go_roundg k1
            case measure => have := HK1.out; omega
            case rel => exact ⟨(y134), (wrap64 (x4_1 + 1)), (by first | rfl | (simp; done) | (simp [*]; done)), H', ⟨by have := HK1.out; omega⟩, ⟨by (with_reducible repeat (first | apply Kd.S_alloc | apply Kd.S_drewN | apply Kd.S_drew)); exact HO136.out⟩, ⟨by repeat (first | (with_reducible first | exact HB.out | apply below_alloc | apply pw_below_drewN | apply below_drew1) | exact HB.out)⟩⟩
          · rw [if_neg c5] at H
            exact absurd H (by simp)
        · rw [if_neg c3] at H
          exact absurd H (by simp)
      · rw [if_neg c2] at H
        have c2b0 : decide (x4_1 < (l0.length : Int)) = false := decide_eq_false c2
        clear c2
        obtain rfl := Option.some.inj H
        go_wp2
        go_ret
        exact ⟨_, by first | rfl | (simp [errW_none, errW_some] <;> rfl) | (simp [*, errW_none, errW_some] <;> rfl), by (with_reducible repeat (first | apply Kd.S_alloc | apply Kd.S_drewN | apply Kd.S_drew)); exact HO_3.out, by repeat (first | (with_reducible first | exact HB.out | apply below_alloc | apply pw_below_drewN | apply below_drew1) | exact HB.out)⟩

/-! ### wire_four: function 52 -/
def wire_four.f (l0 : List Int) (a1 : Int) : Option (List Int) := (some (([(a1 / 16777216) % 256, (a1 / 65536) % 256, (a1 / 256) % 256, (a1) % 256] : List Int) : List Int)).bind fun y137 => (if l0.length + y137.length < 140737488355328 then (some (l0 ++ y137)) else (none))
set_option maxHeartbeats 8000000 in
set_option maxRecDepth 100000 in
theorem wire_four.calls (P0_ : Nat → Prop) (u9000_ : Value) (l0 : List Int) (a1 : Int) (r : List Int) (w0 w : World) (hB : Below w0.heap.size w0 w) (ho0 : Kd.R (Kd.int .u8) 5 w w0.heap.size P0_ u9000_ l0) (h : wire_four.f l0 a1 = some r) :
    Calls Try.prog 52 #[u9000_, .int .u32 a1] w fun e w' => ∃ v0_ : Value, e = .returned (v0_) ∧ Kd.R (Kd.int .u8) 5 w' w0.heap.size (fun k_ => (P0_ k_ ∨ w.heap.size ≤ k_)) v0_ r ∧ Below w0.heap.size w0 w' ∧ Kept w w' (fun k_ => P0_ k_) := by
  have HO0 := Aside0.mk (show Kd.R (Kd.int .u8) 5 w w0.heap.size (fun k_ => (P0_ k_ ∨ w.heap.size ≤ k_)) u9000_ l0 from Kd.R_mono ho0 (fun k_ hk => (.inl hk)))
  have HK := Aside0.mk (Kept.refl w (fun k_ => P0_ k_))
  have HW0 := Aside0.mk hB.size
  have HB := Aside0.mk hB
  clear hB
  have H : ((some (([(a1 / 16777216) % 256, (a1 / 65536) % 256, (a1 / 256) % 256, (a1) % 256] : List Int) : List Int)).bind fun y137 => (if l0.length + y137.length < 140737488355328 then (some (l0 ++ y137)) else (none))) = some r := h
  clear h
  obtain ⟨y137, hy137⟩ : ∃ y_ : List Int, y_ = (([(a1 / 16777216) % 256, (a1 / 65536) % 256, (a1 / 256) % 256, (a1) % 256] : List Int)) := ⟨_, rfl⟩
  replace H : (if l0.length + y137.length < 140737488355328 then (some (l0 ++ y137)) else (none)) = some r := by first | (rw [hy137]; with_reducible exact H) | (have H2_ := (Option.bind_some _ _).symm.trans H; rw [hy137]; with_reducible exact H2_) | (have H2_ := (Option.bind_some _ _).symm.trans H; with_reducible exact H2_) | with_reducible exact H | (rw [hy137]; exact H) | exact H
  have Ny137 := Aside0.mk hy137
  clear hy137
  by_cases c3 : l0.length + y137.length < 140737488355328
  · rw [if_pos c3] at H
    have LMc3 := Aside0.mk c3
    clear c3
    obtain ⟨y140, hy140⟩ : ∃ y_ : List Int, y_ = (l0 ++ y137) := ⟨_, rfl⟩
    replace H : (some y140) = some r := by first | (rw [hy140]; with_reducible exact H) | (have H2_ := (Option.bind_some _ _).symm.trans H; rw [hy140]; with_reducible exact H2_) | (have H2_ := (Option.bind_some _ _).symm.trans H; with_reducible exact H2_) | with_reducible exact H | (rw [hy140]; exact H) | exact H
    have Ny140 := Aside0.mk hy140
    clear hy140
    obtain rfl := Option.some.inj H
    go_enter Try.func52, Try.ntmps52
    go_wp2_with (first | ((with_reducible refine gate_dst (N := 17) rfl ?_); refine Kd.R_lit (Kd.int .u8) _ 5 ?hg (N := 17) ?hd (xs := ([(a1 / 16777216) % 256, (a1 / 65536) % 256, (a1 / 256) % 256, (a1) % 256] : List Int)) (inner := [.int .u8 ((a1 / 16777216) % 256), .int .u8 ((a1 / 65536) % 256), .int .u8 ((a1 / 256) % 256), .int .u8 ((a1) % 256)]) (ok := fun _ => True) (okp := fun _ => True) ?hr ?hp (fun _ hk => hk) trivial (Below.refl _ _) (Nat.le_refl _) (by simp) ?_; (case hd => rfl); (case hg => rfl); (case hr => first | (go_simp; done) | (go_simp; rfl)); (case hp => exact (Reps.one (show Kd.M (Kd.int .u8) _ _ _ ((a1 / 16777216) % 256) [.int .u8 ((a1 / 16777216) % 256)] from rfl) (Reps.one (show Kd.M (Kd.int .u8) _ _ _ ((a1 / 65536) % 256) [.int .u8 ((a1 / 65536) % 256)] from rfl) (Reps.one (show Kd.M (Kd.int .u8) _ _ _ ((a1 / 256) % 256) [.int .u8 ((a1 / 256) % 256)] from rfl) (Reps.one (show Kd.M (Kd.int .u8) _ _ _ ((a1) % 256) [.int .u8 ((a1) % 256)] from rfl) (Reps.none _ _)))))); intro v138 w4 ho5 hb hg_ hnew_; clear hg_ hnew_; (first | rw [← Ny137.out] at ho5 | (simp only [Int.reduceToNat] at ho5; rw [← Ny137.out] at ho5)); have n0_ := Aside0.mk (Kd.R_elder' (by (with_reducible repeat (first | apply Kd.R_alloc | apply Kd.R_drewN | apply Kd.R_drew)); exact HO0.out) (Kd.R_base ho5) hb); have n1_ := Aside0.mk (Kd.R_lower (Kd.R_new' (Kd.R_newM (M := fun k_ => (P0_ k_ ∨ w.heap.size ≤ k_)) ho5 (by first | exact HK.out.1 | exact (show Kept w _ (fun k_ => P0_ k_) from by repeat (first | (with_reducible first | exact HK.out | apply Kept.alloc | apply Kept.drewN | apply Kept.drew) | exact HK.out)).1) (fun k_ h_ => .inr h_)) (Kd.R_lt (by (with_reducible repeat (first | apply Kd.R_alloc | apply Kd.R_drewN | apply Kd.R_drew)); exact HO0.out))) (below_size (by repeat (first | (with_reducible first | exact HB.out | apply below_alloc | apply pw_below_drewN | apply below_drew1) | exact HB.out)))); have n2_ := Aside0.mk (Kept.below (S := (fun k_ => P0_ k_)) (by repeat (first | (with_reducible first | exact HK.out | apply Kept.alloc | apply Kept.drewN | apply Kept.drew) | exact HK.out)) hb); have n3_ := Aside0.mk (below_step (by repeat (first | (with_reducible first | exact HB.out | apply below_alloc | apply pw_below_drewN | apply below_drew1) | exact HB.out)) hb); clear HO0; clear HK; clear HB; have HO0 := n0_; have HO139 := n1_; have HK := n2_; have HB := n3_; clear n0_ n1_ n2_ n3_; clear hb ho5; obtain ⟨Ao7, co7, eo7⟩ := Kd.R_slice HO139.out; subst eo7) | ((with_reducible refine gate_builtin (b := .append) (xs := #[.tmp 5, .tmp 17]) rfl ?_); at_builtin; refine Kd.R_append_rows (Kd.int .u8) (w0 := w0) w0.heap.size rfl (.tmp 5) (.tmp 17) 22 5 (.int .u8 0) 1 rfl Try.underlying22 info5 rfl (by decide) (by omega) u9000_ l0 y137 _ _ _ (fun k_ => (P0_ k_ ∨ w.heap.size ≤ k_) ∧ some k_ ≠ (.slice Ao7 y137.length co7 : Value).ownBlock) (fun _ => False) rfl rfl ?aO ?aR (fun _ _ h => h) (fun _ h => h.elim) ?aF ?aB ?aS ?aL ?_; (case aR => repeat (first | exact (Kd.R_reads' HO139.out).2.2 | (with_reducible refine Kd.C_alloc ?_ _) | (with_reducible refine Kd.C_drewN ?_ _) | (with_reducible refine Kd.C_drew ?_))); (case aB => exact (by repeat (first | (with_reducible first | exact HB.out | apply below_alloc | apply pw_below_drewN | apply below_drew1) | exact HB.out))); (case aF => exact (fun k_ hk => ⟨(.inr (Nat.le_trans (by first | exact HK.out.1 | exact (show Kept w _ (fun k_ => P0_ k_) from by repeat (first | (with_reducible first | exact HK.out | apply Kept.alloc | apply Kept.drewN | apply Kept.drew) | exact HK.out)).1) hk)), Kd.fresh' (Kd.R_lt (by (with_reducible repeat (first | apply Kd.R_alloc | apply Kd.R_drewN | apply Kd.R_drew)); exact HO139.out)) k_ hk⟩)); (case aO => exact (by (with_reducible repeat (first | apply Kd.R_alloc | apply Kd.R_drewN | apply Kd.R_drew)); exact HO0.out)); (case aS => exact (below_size (by repeat (first | (with_reducible first | exact HB.out | apply below_alloc | apply pw_below_drewN | apply below_drew1) | exact HB.out)))); (case aL => have := LMc3.out; omega); intro v141 w6 ho hb hg hat; rw [← Ny140.out] at ho; have n0_ := Aside0.mk (Kd.R_after (ok := (fun k_ => (P0_ k_ ∨ w.heap.size ≤ k_))) (by (with_reducible repeat (first | apply Kd.R_alloc | apply Kd.R_drewN | apply Kd.R_drew)); exact Kd.R_mono HO139.out (fun _ hk => ⟨hk.1.1, hk.2⟩)) hg hat); have n1_ := Aside0.mk (hb); have n2_ := Aside0.mk (Kept.of_grown (S := (fun k_ => P0_ k_)) hg (by repeat (first | (with_reducible first | exact HK.out | apply Kept.alloc | apply Kept.drewN | apply Kept.drew) | exact HK.out)) (fun k_ e_ => (HO0.out.1 k_ e_).1)); have n3_ := Aside0.mk (ho); clear HO139; clear HB; clear HK; clear HO0; have HO139 := n0_; have HB := n1_; have HK := n2_; have HO142 := n3_; clear n0_ n1_ n2_ n3_; clear ho hb hg hat))
    go_ret
    exact ⟨_, by first | rfl | (simp [errW_none, errW_some] <;> rfl) | (simp [*, errW_none, errW_some] <;> rfl), by (with_reducible repeat (first | apply Kd.R_alloc | apply Kd.R_drewN | apply Kd.R_drew)); exact Kd.R_mono HO142.out (fun _ hk => hk.1), by repeat (first | (with_reducible first | exact HB.out | apply below_alloc | apply pw_below_drewN | apply below_drew1) | exact HB.out), by repeat (first | (with_reducible first | exact HK.out | apply Kept.alloc | apply Kept.drewN | apply Kept.drew) | exact HK.out)⟩
  · rw [if_neg c3] at H
    exact absurd H (by simp)

/-! ### wire_Frame: function 31 -/
/-- How long pieces are together. -/
def tot (l : List (List Int)) : Nat := l.flatten.length
def piecesOk (l : List (List Int)) : Bool := l.all fun p => decide (p.length ≤ 140737488355328)
def wire_Frame.f (l0 : List (List Int)) : Option (List Int × Int) := if piecesOk l0 = false then none else if tot l0 ≤ 262144 then some (frameOf l0.flatten, 0) else some ([], 2)
theorem piecesOk_rd {l : List (List Int)} (h : ¬ piecesOk l = false) (k : Nat) (hk : k < l.length) : (rd_L1 l k).length ≤ 140737488355328 := by
  have h' : piecesOk l = true := by simpa using h
  unfold piecesOk at h'
  rw [List.all_eq_true] at h'
  have := h' l[k] (List.getElem_mem hk)
  simp at this
  simp [rd_L1, hk]; omega
theorem flatten_take (l : List (List Int)) (k : Nat) (h : k < l.length) : (l.take (k + 1)).flatten = (l.take k).flatten ++ rd_L1 l k := by
  rw [List.take_succ_eq_append_getElem h, List.flatten_append]
  simp [rd_L1, h]
theorem tot_take (l : List (List Int)) (k : Nat) (h : k < l.length) : tot (l.take (k + 1)) = tot (l.take k) + (rd_L1 l k).length := by
  unfold tot; rw [flatten_take l k h, List.length_append]
theorem tot_le (l : List (List Int)) (k : Nat) : tot (l.take k) ≤ tot l := by
  unfold tot
  conv => rhs; rw [← List.take_append_drop k l, List.flatten_append, List.length_append]
  omega
theorem frameHead_len (n : Int) : (frameHead n).length = 10 := by simp [frameHead, four4]
set_option maxHeartbeats 8000000 in
set_option maxRecDepth 100000 in
theorem wire_Frame.calls (A0 : Option Addr) (c0 : Nat) (l0 : List (List Int)) (r1 : List Int) (r2 : Int) (w : World) (hr0 : Kd.C (Kd.slice 5 (Kd.int .u8)) w A0 l0.length l0) (hc0 : l0.length ≤ c0) (h : wire_Frame.f l0 = some (r1, r2)) :
    Calls Try.prog 31 #[.slice A0 l0.length c0] w fun e w' => ∃ v0_ : Value, e = .returned (.tuple #[v0_, .int .i64 r2]) ∧ Kd.R (Kd.int .u8) 5 w' w.heap.size (fun _ => True) v0_ r1 ∧ Below w.heap.size w w' := by
  have hm : l0.length ≤ 9223372036854775807 := Kd.C_max hr0
  have HR0 := Aside0.mk hr0
  have HC0 := Aside0.mk hc0
  unfold wire_Frame.f at h
  by_cases hpo : piecesOk l0 = false
  · rw [if_pos hpo] at h; cases h
  rw [if_neg hpo] at h
  have HPO := Aside0.mk hpo
  have H := Aside0.mk h
  clear hr0 hc0 h hpo
  go_enter Try.func31, Try.ntmps31
  go_wp2
  go_loop [4, 12] (fun v i => ∃ k : Nat, k ≤ l0.length ∧ i = .int .i64 k ∧ v = .int .i64 (tot (l0.take k) : Nat) ∧ tot (l0.take k) ≤ 262144) (fun _ i => l0.length - (intOf i).toNat)
  case atStart => exact ⟨0, Nat.zero_le _, rfl, rfl, by simp [tot]⟩
  case round =>
    obtain ⟨k, hk, rfl, rfl, hn⟩ := hrel
    by_cases hlt : k < l0.length
    · obtain ⟨ad, A1, c1, rfl, hx, hl, hi⟩ := at_L1 HR0.out (k : Int) (by omega) (by omega)
      rw [Int.toNat_natCast] at hx
      have hm1 := piecesOk_rd HPO.out k hlt
      have hf := tot_take l0 k hlt
      have hle := tot_le l0 (k + 1)
      rw [hf] at hle
      have HF := Aside0.mk hf
      clear hf hi
      obtain ⟨n, hn0⟩ : ∃ n : Nat, n = tot (l0.take k) := ⟨_, rfl⟩
      rw [← hn0] at hn hle ⊢
      have HN0 := Aside0.mk hn0
      clear hn0
      by_cases hbig : n + (rd_L1 l0 k).length > 262144
      · have he := H.out
        rw [if_neg (by omega)] at he
        cases he
        go_wp2
        go_ret2
        exact ⟨_, rfl, Kd.R_nil _ _ _ _ _, Below.refl _ _⟩
      · go_wp2
        go_round
        case rel => exact ⟨k + 1, by omega, by go_num, by rw [HF.out, ← HN0.out]; go_num, by rw [HF.out, ← HN0.out]; omega⟩
        case measure => simp [intOf]; omega
    · have hkk : k = l0.length := by omega
      subst hkk
      rw [List.take_length] at hn ⊢
      have he := H.out
      rw [if_pos hn] at he
      have HE := Aside0.mk (Option.some.inj he)
      clear he H
      obtain ⟨n, hnn⟩ : ∃ n : Nat, n = tot l0 := ⟨_, rfl⟩
      rw [← hnn] at hn ⊢
      have HN := Aside0.mk hnn
      clear hnn
      have hn4 : (n : Int) % 4294967296 = n := by omega
      go_wp2_with (with_reducible refine stop_make rfl ?_)
      refine mk8 w w.heap.size rfl _ _ rfl rfl rfl (by omega) (by omega) (Below.refl _ _) (Nat.le_refl _) ?_
      intro v1 w1 ho hb hg hat
      obtain ⟨A1, c1, rfl, _, _⟩ := Kd.R_reads ho
      have HO := Aside0.mk ho
      have HB := Aside0.mk hb
      clear ho hb hg hat
      go_wp2_with (with_reducible refine stop_lit rfl ?_)
      refine lit8 w1 w1.heap.size rfl rfl [197, 58] ?_ (Below.refl _ _) (Nat.le_refl _) (by decide) ?_
      · go_simp
        rfl
      intro v2 w2 ho hb hg hat
      obtain ⟨A2, c2, rfl, _, hC⟩ := Kd.R_reads ho
      have HO2 := Aside0.mk (Kd.R_below HO.out hb)
      have HC2 := Aside0.mk hC
      have HB2 := Aside0.mk (below_step HB.out hb)
      clear ho hb hg hat hC HO HB
      go_wp2_with (with_reducible refine stop_append rfl ?_)
      refine app8 w w.heap.size rfl _ _ rfl rfl rfl HO2.out HC2.out HB2.out HB2.out.size (by simp) ?_
      intro v3 w3 ho hb hg hat
      have HO3 := Aside0.mk (show R8 w3 w.heap.size v3 [197, 58] from ho)
      have HB3 := Aside0.mk hb
      clear ho hb hg hat HO2 HB2 HC2
      go_wp2_with (go_at_call 52; refine (wire_four.calls (fun _ => True) v3 [197, 58] n ([197, 58] ++ four4 n) w _ HB3.out HO3.out rfl).mono ?_; rintro e4 w4 ⟨v4, rfl, ho, hb, hkp⟩)
      obtain ⟨A4, c4, rfl, hl4, hC⟩ := Kd.R_reads ho
      have HO4 := Aside0.mk (show R8 w4 w.heap.size (.slice A4 _ c4) _ from Kd.R_mono ho (fun _ _ => trivial))
      have HB4 := Aside0.mk hb
      clear ho hb hkp HO3 HB3
      refine (wire_sum.calls A4 c4 ([197, 58] ++ four4 n) _ _ hC hl4 rfl).mono ?_
      rintro e5 w5 ⟨rfl, hb⟩
      have HO5 := Aside0.mk (Kd.R_below HO4.out hb)
      have HB5 := Aside0.mk (below_step HB4.out hb)
      clear hb hC HO4 HB4
      go_wp2_with (go_at_call 52; refine (wire_four.calls (fun _ => True) _ ([197, 58] ++ four4 n) (sumW ([197, 58] ++ four4 n)) (frameHead n) w _ HB5.out HO5.out rfl).mono ?_; rintro e6 w6 ⟨v6, rfl, ho, hb, hkp⟩)
      have HO6 := Aside0.mk (show R8 w6 w.heap.size v6 (frameHead n) from Kd.R_mono ho (fun _ _ => trivial))
      have HB6 := Aside0.mk hb
      clear ho hb hkp HO5 HB5
      go_loopw [7, 39] (fun v i wr => ∃ k : Nat, k ≤ l0.length ∧ i = .int .i64 k ∧ Aside0 (R8 wr w.heap.size v (frameHead n ++ (l0.take k).flatten)) ∧ Aside0 (Below w.heap.size w wr)) (fun _ i _ => l0.length - (intOf i).toNat)
      case atStart => exact ⟨0, Nat.zero_le _, rfl, ⟨by simpa using HO6.out⟩, HB6⟩
      case round =>
        clear HO6 HB6
        obtain ⟨k, hk, rfl, HO7, HB7⟩ := hrel
        by_cases hlt : k < l0.length
        · obtain ⟨ad, A7, c7, rfl, hx, hl, hi⟩ := at_L1 HR0.out (k : Int) (by omega) (by omega)
          rw [Int.toNat_natCast] at hx
          replace hx := pw_cell_below HB7.out hx
          have HC7 := Aside0.mk (Kd.C_below hi HB7.out)
          have hle := tot_le l0 (k + 1)
          rw [tot_take l0 k hlt] at hle
          have HLE := Aside0.mk (show (frameHead n ++ (l0.take k).flatten).length + (rd_L1 l0 k).length ≤ 140737488355328 by
            rw [List.length_append, frameHead_len]
            have := HN.out
            unfold tot at this hle
            omega)
          have HF := Aside0.mk (flatten_take l0 k hlt)
          clear hi hle
          go_wp2_with (with_reducible refine stop_append rfl ?_)
          refine app8 w w.heap.size rfl _ _ rfl rfl rfl HO7.out HC7.out HB7.out HB7.out.size HLE.out ?_
          intro v8 w8 ho hb hg hat
          have HO8 := Aside0.mk ho
          have HB8 := Aside0.mk hb
          clear ho hb hg hat HO7 HB7
          go_wp2
          go_roundw
          case rel => exact ⟨k + 1, by omega, by go_num, ⟨by rw [HF.out, ← List.append_assoc]; exact HO8.out⟩, HB8⟩
          case measure => simp [intOf]; omega
        · have hkk : k = l0.length := by omega
          subst hkk
          rw [List.take_length] at HO7
          obtain ⟨L, hL⟩ : ∃ L, L = frameHead n ++ l0.flatten := ⟨_, rfl⟩
          rw [← hL] at HO7
          have HLL := Aside0.mk hL
          have HLN := Aside0.mk (show L.length ≤ 1000000 by rw [hL, List.length_append, frameHead_len]; have := HN.out; unfold tot at this; omega)
          clear hL
          obtain ⟨A8, c8, rfl, hl8, hC⟩ := Kd.R_reads HO7.out
          have HC8 := Aside0.mk hC
          clear hC
          go_wp2_with (go_at_call 50; refine (wire_sum.calls A8 c8 L _ _ HC8.out hl8 rfl).mono ?_; rintro e9 w9 ⟨rfl, hb⟩)
          have HO9 := Aside0.mk (Kd.R_below HO7.out hb)
          have HB9 := Aside0.mk (below_step HB7.out hb)
          clear hb HO7 HB7
          refine (wire_four.calls (fun _ => True) _ L (sumW L) (frameOf l0.flatten) w _ HB9.out HO9.out ?_).mono ?_
          · have e : (n : Int) = (l0.flatten.length : Nat) := by rw [HN.out]; rfl
            have hL := HLL.out
            rw [e] at hL
            have hlen := HLN.out
            unfold wire_four.f frameOf
            simp only [Option.bind_some]
            rw [if_pos (by simp only [List.length_cons, List.length_nil]; omega), ← hL]
            rfl
          rintro e10 w10 ⟨v10, rfl, ho, hb, hkp⟩
          have HO10 := Aside0.mk (show R8 w10 w.heap.size v10 (frameOf l0.flatten) from Kd.R_mono ho (fun _ _ => trivial))
          have HB10 := Aside0.mk hb
          clear ho hb hkp
          go_wp2
          go_ret2
          have he := HE.out
          cases he
          exact ⟨_, rfl, HO10.out, HB10.out⟩

/-- A literal of rows of bytes that are read. -/
theorem C_rows (W : World) (vs : List Value) (xs : List (List Int)) (hl : vs.length = xs.length) (hm : xs.length ≤ 9223372036854775807)
    (h : ∀ (j : Nat) (p : List Int), xs[j]? = some p → ∃ (A : Option Addr) (c : Nat), vs[j]? = some (Value.slice A p.length c) ∧ p.length ≤ c ∧ C8 W A p.length p) :
    Kd.C (Kd.slice 5 (Kd.int .u8)) (W.alloc (.cells vs.toArray 22)) (some ⟨W.heap.size, 0, none⟩) xs.length xs := by
  refine ⟨rfl, hm, fun hn => ⟨_, rfl, fun j p hj => ?_⟩⟩
  obtain ⟨A, c, hv, hc, hC⟩ := h j p hj
  refine ⟨[.slice A p.length c], rfl, ⟨A, c, rfl, hc, Kd.C_alloc hC _⟩, fun i u hu => ?_⟩
  have hb : (W.alloc (.cells vs.toArray 22)).heap[W.heap.size]? = some (.cells vs.toArray 22 (0, 0)) := by show (W.heap.push _)[W.heap.size]? = _; simp
  obtain ⟨rfl, rfl⟩ : i = 0 ∧ u = .slice A p.length c := by
    cases i with
    | zero => exact ⟨rfl, by simpa using hu.symm⟩
    | succ i => simp at hu
  rw [add_plain, blk_cell hb]
  simp [hv, show (Kd.slice 5 (Kd.int .u8)).sz = 1 from rfl]

/-! ### heraldref2_four: function 53 -/
def heraldref2_four.f (a0 : Int) : Option (List Int) := some (([(Go.bits .and .i64 (a0 / 16777216) 255) % 256, (Go.bits .and .i64 (a0 / 65536) 255) % 256, (Go.bits .and .i64 (a0 / 256) 255) % 256, (Go.bits .and .i64 a0 255) % 256] : List Int))
set_option maxHeartbeats 8000000 in
set_option maxRecDepth 100000 in
theorem heraldref2_four.calls (a0 : Int) (r : List Int) (w : World) (h : heraldref2_four.f a0 = some r) :
    Calls Try.prog 53 #[.int .i64 a0] w fun e w' => ∃ v0_ : Value, e = .returned (v0_) ∧ Kd.R (Kd.int .u8) 5 w' w.heap.size (fun _ => True) v0_ r ∧ Below w.heap.size w w' := by
  have HB := Aside0.mk (Below.refl w.heap.size w)
  have H : (some (([(Go.bits .and .i64 (a0 / 16777216) 255) % 256, (Go.bits .and .i64 (a0 / 65536) 255) % 256, (Go.bits .and .i64 (a0 / 256) 255) % 256, (Go.bits .and .i64 a0 255) % 256] : List Int))) = some r := h
  clear h
  obtain ⟨y143, hy143⟩ : ∃ y_ : List Int, y_ = (([(Go.bits .and .i64 (a0 / 16777216) 255) % 256, (Go.bits .and .i64 (a0 / 65536) 255) % 256, (Go.bits .and .i64 (a0 / 256) 255) % 256, (Go.bits .and .i64 a0 255) % 256] : List Int)) := ⟨_, rfl⟩
  replace H : (some y143) = some r := by first | (rw [hy143]; with_reducible exact H) | (have H2_ := (Option.bind_some _ _).symm.trans H; rw [hy143]; with_reducible exact H2_) | (have H2_ := (Option.bind_some _ _).symm.trans H; with_reducible exact H2_) | with_reducible exact H | (rw [hy143]; exact H) | exact H
  have Ny143 := Aside0.mk hy143
  clear hy143
  obtain rfl := Option.some.inj H
  go_enter Try.func53, Try.ntmps53
  go_wp2_with (first | ((with_reducible refine gate_dst (N := 18) rfl ?_); refine Kd.R_lit (Kd.int .u8) _ 5 ?hg (N := 18) ?hd (xs := ([(Go.bits .and .i64 (a0 / 16777216) 255) % 256, (Go.bits .and .i64 (a0 / 65536) 255) % 256, (Go.bits .and .i64 (a0 / 256) 255) % 256, (Go.bits .and .i64 a0 255) % 256] : List Int)) (inner := [.int .u8 ((Go.bits .and .i64 (a0 / 16777216) 255) % 256), .int .u8 ((Go.bits .and .i64 (a0 / 65536) 255) % 256), .int .u8 ((Go.bits .and .i64 (a0 / 256) 255) % 256), .int .u8 ((Go.bits .and .i64 a0 255) % 256)]) (ok := fun _ => True) (okp := fun _ => True) ?hr ?hp (fun _ hk => hk) trivial (Below.refl _ _) (Nat.le_refl _) (by simp) ?_; (case hd => rfl); (case hg => rfl); (case hr => first | (go_simp; done) | (go_simp; rfl)); (case hp => exact (Reps.one (show Kd.M (Kd.int .u8) _ _ _ ((Go.bits .and .i64 (a0 / 16777216) 255) % 256) [.int .u8 ((Go.bits .and .i64 (a0 / 16777216) 255) % 256)] from rfl) (Reps.one (show Kd.M (Kd.int .u8) _ _ _ ((Go.bits .and .i64 (a0 / 65536) 255) % 256) [.int .u8 ((Go.bits .and .i64 (a0 / 65536) 255) % 256)] from rfl) (Reps.one (show Kd.M (Kd.int .u8) _ _ _ ((Go.bits .and .i64 (a0 / 256) 255) % 256) [.int .u8 ((Go.bits .and .i64 (a0 / 256) 255) % 256)] from rfl) (Reps.one (show Kd.M (Kd.int .u8) _ _ _ ((Go.bits .and .i64 a0 255) % 256) [.int .u8 ((Go.bits .and .i64 a0 255) % 256)] from rfl) (Reps.none _ _)))))); intro v144 w2 ho3 hb hg_ hnew_; clear hg_ hnew_; (first | rw [← Ny143.out] at ho3 | (simp only [Int.reduceToNat] at ho3; rw [← Ny143.out] at ho3)); have n0_ := Aside0.mk (Kd.R_lower ho3 (below_size (by repeat (first | (with_reducible first | exact HB.out | apply below_alloc | apply pw_below_drewN | apply below_drew1) | exact HB.out)))); have n1_ := Aside0.mk (below_step (by repeat (first | (with_reducible first | exact HB.out | apply below_alloc | apply pw_below_drewN | apply below_drew1) | exact HB.out)) hb); clear HB; have HO145 := n0_; have HB := n1_; clear n0_ n1_; clear hb ho3))
  go_ret
  exact ⟨_, by first | rfl | (simp [errW_none, errW_some] <;> rfl) | (simp [*, errW_none, errW_some] <;> rfl), by (with_reducible repeat (first | apply Kd.R_alloc | apply Kd.R_drewN | apply Kd.R_drew)); exact HO145.out, by repeat (first | (with_reducible first | exact HB.out | apply below_alloc | apply pw_below_drewN | apply below_drew1) | exact HB.out)⟩

/-! ### heraldref2_Frame: function 32 -/
def heraldref2_Frame.f (k : Nat) (l0 : List Int) : Option (List Int × Int) := if (l0.length : Int) > 262144 then (some (([] : List Int), 2)) else ((some (([197, 58] : List Int) : List Int)).bind fun y146 => ((heraldref2_four.f (l0.length : Int)).bind fun t149 => (if y146.length + t149.length < 140737488355328 then ((some (y146 ++ t149 : List Int)).bind fun y152 => ((heraldref2_Sum.f k y152).bind fun t155 => ((heraldref2_four.f t155).bind fun t156 => (if y152.length + t156.length < 140737488355328 then ((some (y152 ++ t156 : List Int)).bind fun y159 => (if y159.length + l0.length < 140737488355328 then ((some (y159 ++ l0 : List Int)).bind fun y162 => ((heraldref2_Sum.f k y162).bind fun t165 => ((heraldref2_four.f t165).bind fun t166 => (if y162.length + t166.length < 140737488355328 then (some ((y162 ++ t166), 0)) else (none))))) else (none))) else (none))))) else (none))))
theorem heraldref2_Frame.mono : ∀ a0 k, LeO (heraldref2_Frame.f k a0) (heraldref2_Frame.f (k + 1) a0) := by
  intro a0 k
  unfold heraldref2_Frame.f
  repeat' first
      | (with_reducible exact heraldref2_Sum.mono _ _)
      | (with_reducible exact LeO.refl _)
      | (with_reducible exact LeO.none _)
      | (with_reducible refine LeO.ite ?_ ?_)
      | (with_reducible refine LeO.bind ?_ (fun _ => ?_))
      | exact heraldref2_Sum.mono _ _
      | exact LeO.none _
      | refine LeO.ite ?_ ?_
      | refine LeO.bind ?_ (fun _ => ?_)
set_option maxHeartbeats 8000000 in
set_option maxRecDepth 100000 in
theorem heraldref2_Frame.calls (k : Nat) (A0 : Option Addr) (c0 : Nat) (l0 : List Int) (r1 : List Int) (r2 : Int) (w : World) (hr0 : Kd.C (Kd.int .u8) w A0 l0.length l0) (hc0 : l0.length ≤ c0) (h : heraldref2_Frame.f k l0 = some (r1, r2)) :
    Calls Try.prog 32 #[.slice A0 l0.length c0] w fun e w' => ∃ v0_ : Value, e = .returned (.tuple #[v0_, .int .i64 r2]) ∧ Kd.R (Kd.int .u8) 5 w' w.heap.size (fun _ => True) v0_ r1 ∧ Below w.heap.size w w' := by
  have HR0 := Aside0.mk hr0
  have HC0 := Aside0.mk hc0
  clear hr0 hc0
  have HB := Aside0.mk (Below.refl w.heap.size w)
  have H : (if (l0.length : Int) > 262144 then (some (([] : List Int), 2)) else ((some (([197, 58] : List Int) : List Int)).bind fun y146 => ((heraldref2_four.f (l0.length : Int)).bind fun t149 => (if y146.length + t149.length < 140737488355328 then ((some (y146 ++ t149 : List Int)).bind fun y152 => ((heraldref2_Sum.f k y152).bind fun t155 => ((heraldref2_four.f t155).bind fun t156 => (if y152.length + t156.length < 140737488355328 then ((some (y152 ++ t156 : List Int)).bind fun y159 => (if y159.length + l0.length < 140737488355328 then ((some (y159 ++ l0 : List Int)).bind fun y162 => ((heraldref2_Sum.f k y162).bind fun t165 => ((heraldref2_four.f t165).bind fun t166 => (if y162.length + t166.length < 140737488355328 then (some ((y162 ++ t166), 0)) else (none))))) else (none))) else (none))))) else (none))))) = some (r1, r2) := h
  clear h
  by_cases c2 : (l0.length : Int) > 262144
  · rw [if_pos c2] at H
    have c2b0 : decide (262144 < (l0.length : Int)) = true := decide_eq_true c2
    have c2b1 : decide (262144 < l0.length) = true := decide_eq_true (by omega)
    clear c2
    simp only [Option.some.injEq, Prod.mk.injEq] at H
    obtain ⟨rfl, rfl⟩ := H
    go_enter Try.func32, Try.ntmps32
    go_wp2
    go_ret2
    exact ⟨_, by first | rfl | (simp [errW_none, errW_some] <;> rfl) | (simp [*, errW_none, errW_some] <;> rfl), by first | exact Kd.R_nil _ _ _ _ _ | exact Kd.N_nil _ _ _ _ _ | exact Kd.V_nil _ _ _ _ _ | exact Kd.Q_nil _ _ _ _ _ | exact Kd.S_nil _ _ _ _ _, by repeat (first | (with_reducible first | exact HB.out | apply below_alloc | apply pw_below_drewN | apply below_drew1) | exact HB.out)⟩
  · rw [if_neg c2] at H
    have c2b0 : decide (262144 < (l0.length : Int)) = false := decide_eq_false c2
    have c2b1 : decide (262144 < l0.length) = false := decide_eq_false (by omega)
    clear c2
    obtain ⟨y146, hy146⟩ : ∃ y_ : List Int, y_ = (([197, 58] : List Int)) := ⟨_, rfl⟩
    replace H : ((heraldref2_four.f (l0.length : Int)).bind fun t149 => (if y146.length + t149.length < 140737488355328 then ((some (y146 ++ t149 : List Int)).bind fun y152 => ((heraldref2_Sum.f k y152).bind fun t155 => ((heraldref2_four.f t155).bind fun t156 => (if y152.length + t156.length < 140737488355328 then ((some (y152 ++ t156 : List Int)).bind fun y159 => (if y159.length + l0.length < 140737488355328 then ((some (y159 ++ l0 : List Int)).bind fun y162 => ((heraldref2_Sum.f k y162).bind fun t165 => ((heraldref2_four.f t165).bind fun t166 => (if y162.length + t166.length < 140737488355328 then (some ((y162 ++ t166), 0)) else (none))))) else (none))) else (none))))) else (none))) = some (r1, r2) := by first | (rw [hy146]; with_reducible exact H) | (have H2_ := (Option.bind_some _ _).symm.trans H; rw [hy146]; with_reducible exact H2_) | (have H2_ := (Option.bind_some _ _).symm.trans H; with_reducible exact H2_) | with_reducible exact H | (rw [hy146]; exact H) | exact H
    have Ny146 := Aside0.mk hy146
    clear hy146
    replace H := Option.bind_eq_some_iff.mp H
    obtain ⟨t149, A30, H⟩ := H
    replace H : (if y146.length + t149.length < 140737488355328 then ((some (y146 ++ t149 : List Int)).bind fun y152 => ((heraldref2_Sum.f k y152).bind fun t155 => ((heraldref2_four.f t155).bind fun t156 => (if y152.length + t156.length < 140737488355328 then ((some (y152 ++ t156 : List Int)).bind fun y159 => (if y159.length + l0.length < 140737488355328 then ((some (y159 ++ l0 : List Int)).bind fun y162 => ((heraldref2_Sum.f k y162).bind fun t165 => ((heraldref2_four.f t165).bind fun t166 => (if y162.length + t166.length < 140737488355328 then (some ((y162 ++ t166), 0)) else (none))))) else (none))) else (none))))) else (none)) = some (r1, r2) := H
    have A3 := Aside0.mk A30
    clear A30
    by_cases c4 : y146.length + t149.length < 140737488355328
    · rw [if_pos c4] at H
      have LMc4 := Aside0.mk c4
      clear c4
      obtain ⟨y152, hy152⟩ : ∃ y_ : List Int, y_ = (y146 ++ t149) := ⟨_, rfl⟩
      replace H : ((heraldref2_Sum.f k y152).bind fun t155 => ((heraldref2_four.f t155).bind fun t156 => (if y152.length + t156.length < 140737488355328 then ((some (y152 ++ t156 : List Int)).bind fun y159 => (if y159.length + l0.length < 140737488355328 then ((some (y159 ++ l0 : List Int)).bind fun y162 => ((heraldref2_Sum.f k y162).bind fun t165 => ((heraldref2_four.f t165).bind fun t166 => (if y162.length + t166.length < 140737488355328 then (some ((y162 ++ t166), 0)) else (none))))) else (none))) else (none)))) = some (r1, r2) := by first | (rw [hy152]; with_reducible exact H) | (have H2_ := (Option.bind_some _ _).symm.trans H; rw [hy152]; with_reducible exact H2_) | (have H2_ := (Option.bind_some _ _).symm.trans H; with_reducible exact H2_) | with_reducible exact H | (rw [hy152]; exact H) | exact H
      have Ny152 := Aside0.mk hy152
      clear hy152
      replace H := Option.bind_eq_some_iff.mp H
      obtain ⟨t155, A50, H⟩ := H
      replace H : ((heraldref2_four.f t155).bind fun t156 => (if y152.length + t156.length < 140737488355328 then ((some (y152 ++ t156 : List Int)).bind fun y159 => (if y159.length + l0.length < 140737488355328 then ((some (y159 ++ l0 : List Int)).bind fun y162 => ((heraldref2_Sum.f k y162).bind fun t165 => ((heraldref2_four.f t165).bind fun t166 => (if y162.length + t166.length < 140737488355328 then (some ((y162 ++ t166), 0)) else (none))))) else (none))) else (none))) = some (r1, r2) := H
      have A5 := Aside0.mk A50
      clear A50
      replace H := Option.bind_eq_some_iff.mp H
      obtain ⟨t156, A60, H⟩ := H
      replace H : (if y152.length + t156.length < 140737488355328 then ((some (y152 ++ t156 : List Int)).bind fun y159 => (if y159.length + l0.length < 140737488355328 then ((some (y159 ++ l0 : List Int)).bind fun y162 => ((heraldref2_Sum.f k y162).bind fun t165 => ((heraldref2_four.f t165).bind fun t166 => (if y162.length + t166.length < 140737488355328 then (some ((y162 ++ t166), 0)) else (none))))) else (none))) else (none)) = some (r1, r2) := H
      have A6 := Aside0.mk A60
      clear A60
      by_cases c7 : y152.length + t156.length < 140737488355328
      · rw [if_pos c7] at H
        have LMc7 := Aside0.mk c7
        clear c7
        obtain ⟨y159, hy159⟩ : ∃ y_ : List Int, y_ = (y152 ++ t156) := ⟨_, rfl⟩
        replace H : (if y159.length + l0.length < 140737488355328 then ((some (y159 ++ l0 : List Int)).bind fun y162 => ((heraldref2_Sum.f k y162).bind fun t165 => ((heraldref2_four.f t165).bind fun t166 => (if y162.length + t166.length < 140737488355328 then (some ((y162 ++ t166), 0)) else (none))))) else (none)) = some (r1, r2) := by first | (rw [hy159]; with_reducible exact H) | (have H2_ := (Option.bind_some _ _).symm.trans H; rw [hy159]; with_reducible exact H2_) | (have H2_ := (Option.bind_some _ _).symm.trans H; with_reducible exact H2_) | with_reducible exact H | (rw [hy159]; exact H) | exact H
        have Ny159 := Aside0.mk hy159
        clear hy159
        by_cases c8 : y159.length + l0.length < 140737488355328
        · rw [if_pos c8] at H
          have LMc8 := Aside0.mk c8
          clear c8
          obtain ⟨y162, hy162⟩ : ∃ y_ : List Int, y_ = (y159 ++ l0) := ⟨_, rfl⟩
          replace H : ((heraldref2_Sum.f k y162).bind fun t165 => ((heraldref2_four.f t165).bind fun t166 => (if y162.length + t166.length < 140737488355328 then (some ((y162 ++ t166), 0)) else (none)))) = some (r1, r2) := by first | (rw [hy162]; with_reducible exact H) | (have H2_ := (Option.bind_some _ _).symm.trans H; rw [hy162]; with_reducible exact H2_) | (have H2_ := (Option.bind_some _ _).symm.trans H; with_reducible exact H2_) | with_reducible exact H | (rw [hy162]; exact H) | exact H
          have Ny162 := Aside0.mk hy162
          clear hy162
          replace H := Option.bind_eq_some_iff.mp H
          obtain ⟨t165, A90, H⟩ := H
          replace H : ((heraldref2_four.f t165).bind fun t166 => (if y162.length + t166.length < 140737488355328 then (some ((y162 ++ t166), 0)) else (none))) = some (r1, r2) := H
          have A9 := Aside0.mk A90
          clear A90
          replace H := Option.bind_eq_some_iff.mp H
          obtain ⟨t166, A100, H⟩ := H
          replace H : (if y162.length + t166.length < 140737488355328 then (some ((y162 ++ t166), 0)) else (none)) = some (r1, r2) := H
          have A10 := Aside0.mk A100
          clear A100
          by_cases c11 : y162.length + t166.length < 140737488355328
          · rw [if_pos c11] at H
            have LMc11 := Aside0.mk c11
            clear c11
            obtain ⟨y169, hy169⟩ : ∃ y_ : List Int, y_ = (y162 ++ t166) := ⟨_, rfl⟩
            replace H : (some (y169, 0)) = some (r1, r2) := by first | (rw [hy169]; with_reducible exact H) | (have H2_ := (Option.bind_some _ _).symm.trans H; rw [hy169]; with_reducible exact H2_) | (have H2_ := (Option.bind_some _ _).symm.trans H; with_reducible exact H2_) | with_reducible exact H | (rw [hy169]; exact H) | exact H
            have Ny169 := Aside0.mk hy169
            clear hy169
            simp only [Option.some.injEq, Prod.mk.injEq] at H
            obtain ⟨rfl, rfl⟩ := H
            go_enter Try.func32, Try.ntmps32
            go_wp2_with (first | ((with_reducible refine gate_dst (N := 8) rfl ?_); refine Kd.R_lit (Kd.int .u8) _ 5 ?hg (N := 8) ?hd (xs := ([197, 58] : List Int)) (inner := [.int .u8 197, .int .u8 58]) (ok := fun _ => True) (okp := fun _ => True) ?hr ?hp (fun _ hk => hk) trivial (Below.refl _ _) (Nat.le_refl _) (by simp) ?_; (case hd => rfl); (case hg => rfl); (case hr => first | (go_simp; done) | (go_simp; rfl)); (case hp => exact (Reps.one (show Kd.M (Kd.int .u8) _ _ _ 197 [.int .u8 197] from rfl) (Reps.one (show Kd.M (Kd.int .u8) _ _ _ 58 [.int .u8 58] from rfl) (Reps.none _ _)))); intro v147 w12 ho13 hb hg_ hnew_; clear hg_ hnew_; (first | rw [← Ny146.out] at ho13 | (simp only [Int.reduceToNat] at ho13; rw [← Ny146.out] at ho13)); have n0_ := Aside0.mk (Kd.R_lower ho13 (below_size (by repeat (first | (with_reducible first | exact HB.out | apply below_alloc | apply pw_below_drewN | apply below_drew1) | exact HB.out)))); have n1_ := Aside0.mk (below_step (by repeat (first | (with_reducible first | exact HB.out | apply below_alloc | apply pw_below_drewN | apply below_drew1) | exact HB.out)) hb); clear HB; have HO148 := n0_; have HB := n1_; clear n0_ n1_; clear hb ho13) | ((with_reducible refine gate_callee (f := 53) rfl ?_); refine goesL_ (some 12) rfl rfl Try.func53 (by kernel_rfl) rfl #[.int .i64 (l0.length : Int)] rfl (by (try simp only [List.map_toArray, List.map_cons, List.map_nil]); first | done | rfl | (simp only [List.length_drop, List.length_take]; rfl)) ?_; (with_reducible refine (heraldref2_four.calls (l0.length : Int) t149 _ A3.out).mono ?_); rintro e w14 ⟨v150, rfl, ho0, hb⟩; refine ⟨_, rfl, ?_⟩; have n0_ := Aside0.mk (Kd.R_elder' (by (with_reducible repeat (first | apply Kd.R_alloc | apply Kd.R_drewN | apply Kd.R_drew)); exact HO148.out) (Kd.R_base ho0) hb); have n1_ := Aside0.mk (Kd.R_lower (Kd.R_new' ho0 (Kd.R_lt (by (with_reducible repeat (first | apply Kd.R_alloc | apply Kd.R_drewN | apply Kd.R_drew)); exact HO148.out))) (below_size (by repeat (first | (with_reducible first | exact HB.out | apply below_alloc | apply pw_below_drewN | apply below_drew1) | exact HB.out)))); have n2_ := Aside0.mk (below_step (by repeat (first | (with_reducible first | exact HB.out | apply below_alloc | apply pw_below_drewN | apply below_drew1) | exact HB.out)) hb); clear HO148; clear HB; have HO148 := n0_; have HO151 := n1_; have HB := n2_; clear n0_ n1_ n2_; (try clear hb); (try clear hb2); (try clear hk); (try clear hi); (try clear ho0); obtain ⟨Ao16, co16, eo16⟩ := Kd.R_slice HO151.out; subst eo16) | ((with_reducible refine gate_builtin (b := .append) (xs := #[.tmp 9, .tmp 12]) rfl ?_); at_builtin; refine Kd.R_append_rows (Kd.int .u8) (w0 := w) w.heap.size rfl (.tmp 9) (.tmp 12) 22 5 (.int .u8 0) 1 rfl Try.underlying22 info5 rfl (by decide) (by omega) v147 y146 t149 _ _ _ (fun k_ => some k_ ≠ (.slice Ao16 t149.length co16 : Value).ownBlock) (fun _ => False) rfl rfl ?aO ?aR (fun _ _ h => h) (fun _ h => h.elim) ?aF ?aB ?aS ?aL ?_; (case aR => repeat (first | exact (Kd.R_reads' HO151.out).2.2 | (with_reducible refine Kd.C_alloc ?_ _) | (with_reducible refine Kd.C_drewN ?_ _) | (with_reducible refine Kd.C_drew ?_))); (case aB => exact (by repeat (first | (with_reducible first | exact HB.out | apply below_alloc | apply pw_below_drewN | apply below_drew1) | exact HB.out))); (case aF => exact (fun k_ hk => Kd.fresh' (Kd.R_lt (by (with_reducible repeat (first | apply Kd.R_alloc | apply Kd.R_drewN | apply Kd.R_drew)); exact HO151.out)) k_ hk)); (case aO => exact (by (with_reducible repeat (first | apply Kd.R_alloc | apply Kd.R_drewN | apply Kd.R_drew)); exact Kd.R_mono HO148.out (fun _ hk => hk.2))); (case aS => exact (below_size (by repeat (first | (with_reducible first | exact HB.out | apply below_alloc | apply pw_below_drewN | apply below_drew1) | exact HB.out)))); (case aL => have := LMc4.out; omega); intro v153 w15 ho hb hg hat; rw [← Ny152.out] at ho; have n0_ := Aside0.mk (Kd.R_after (ok := (fun _ => True)) (by (with_reducible repeat (first | apply Kd.R_alloc | apply Kd.R_drewN | apply Kd.R_drew)); exact HO151.out) hg hat); have n1_ := Aside0.mk (hb); have n2_ := Aside0.mk (ho); clear HO151; clear HB; clear HO148; have HO151 := n0_; have HB := n1_; have HO154 := n2_; clear n0_ n1_ n2_; clear ho hb hg hat; obtain ⟨Ao17, co17, eo17⟩ := Kd.R_slice HO154.out; subst eo17) | ((with_reducible refine gate_callee (f := 24) rfl ?_); refine goesL_ (some 16) rfl rfl Try.func24 (by kernel_rfl) rfl #[.slice Ao17 y152.length co17] rfl (by (try simp only [List.map_toArray, List.map_cons, List.map_nil]); first | done | rfl | (simp only [List.length_drop, List.length_take]; rfl)) ?_; (with_reducible refine (heraldref2_Sum.calls k _ _ y152 t155 _ ?side1 ?side2 A5.out).mono ?_); (case side1 => repeat (first | exact (Kd.R_reads' HO154.out).2.2 | (with_reducible refine Kd.C_alloc ?_ _) | (with_reducible refine Kd.C_drewN ?_ _) | (with_reducible refine Kd.C_drew ?_))); (case side2 => exact (Kd.R_reads' HO154.out).2.1); rintro e w' ⟨rfl, ⟨nd, rfl⟩⟩; refine ⟨_, rfl, ?_⟩) | ((with_reducible refine gate_callee (f := 53) rfl ?_); refine goesL_ (some 17) rfl rfl Try.func53 (by kernel_rfl) rfl #[.int .i64 t155] rfl (by (try simp only [List.map_toArray, List.map_cons, List.map_nil]); first | done | rfl | (simp only [List.length_drop, List.length_take]; rfl)) ?_; (with_reducible refine (heraldref2_four.calls t155 t156 _ A6.out).mono ?_); rintro e w18 ⟨v157, rfl, ho0, hb⟩; refine ⟨_, rfl, ?_⟩; have n0_ := Aside0.mk (Kd.R_elder' (by (with_reducible repeat (first | apply Kd.R_alloc | apply Kd.R_drewN | apply Kd.R_drew)); exact HO151.out) (Kd.R_base ho0) hb); have n1_ := Aside0.mk (Kd.R_elder' (by (with_reducible repeat (first | apply Kd.R_alloc | apply Kd.R_drewN | apply Kd.R_drew)); exact HO154.out) (Kd.R_base ho0) hb); have n2_ := Aside0.mk (Kd.R_lower (Kd.R_new' (Kd.R_new' ho0 (Kd.R_lt (by (with_reducible repeat (first | apply Kd.R_alloc | apply Kd.R_drewN | apply Kd.R_drew)); exact HO151.out))) (Kd.R_lt (by (with_reducible repeat (first | apply Kd.R_alloc | apply Kd.R_drewN | apply Kd.R_drew)); exact HO154.out))) (below_size (by repeat (first | (with_reducible first | exact HB.out | apply below_alloc | apply pw_below_drewN | apply below_drew1) | exact HB.out)))); have n3_ := Aside0.mk (below_step (by repeat (first | (with_reducible first | exact HB.out | apply below_alloc | apply pw_below_drewN | apply below_drew1) | exact HB.out)) hb); clear HO151; clear HO154; clear HB; have HO151 := n0_; have HO154 := n1_; have HO158 := n2_; have HB := n3_; clear n0_ n1_ n2_ n3_; (try clear hb); (try clear hb2); (try clear hk); (try clear hi); (try clear ho0); obtain ⟨Ao20, co20, eo20⟩ := Kd.R_slice HO158.out; subst eo20) | ((with_reducible refine gate_builtin (b := .append) (xs := #[.tmp 14, .tmp 17]) rfl ?_); at_builtin; refine Kd.R_append_rows (Kd.int .u8) (w0 := w) w.heap.size rfl (.tmp 14) (.tmp 17) 22 5 (.int .u8 0) 1 rfl Try.underlying22 info5 rfl (by decide) (by omega) (.slice Ao17 y152.length co17) y152 t156 _ _ _ (fun k_ => some k_ ≠ (.slice Ao16 t149.length co16 : Value).ownBlock ∧ some k_ ≠ (.slice Ao20 t156.length co20 : Value).ownBlock) (fun _ => False) rfl rfl ?aO ?aR (fun _ _ h => h) (fun _ h => h.elim) ?aF ?aB ?aS ?aL ?_; (case aR => repeat (first | exact (Kd.R_reads' HO158.out).2.2 | (with_reducible refine Kd.C_alloc ?_ _) | (with_reducible refine Kd.C_drewN ?_ _) | (with_reducible refine Kd.C_drew ?_))); (case aB => exact (by repeat (first | (with_reducible first | exact HB.out | apply below_alloc | apply pw_below_drewN | apply below_drew1) | exact HB.out))); (case aF => exact (fun k_ hk => ⟨Kd.fresh' (Kd.R_lt (by (with_reducible repeat (first | apply Kd.R_alloc | apply Kd.R_drewN | apply Kd.R_drew)); exact HO151.out)) k_ hk, Kd.fresh' (Kd.R_lt (by (with_reducible repeat (first | apply Kd.R_alloc | apply Kd.R_drewN | apply Kd.R_drew)); exact HO158.out)) k_ hk⟩)); (case aO => exact (by (with_reducible repeat (first | apply Kd.R_alloc | apply Kd.R_drewN | apply Kd.R_drew)); exact HO154.out)); (case aS => exact (below_size (by repeat (first | (with_reducible first | exact HB.out | apply below_alloc | apply pw_below_drewN | apply below_drew1) | exact HB.out)))); (case aL => have := LMc7.out; omega); intro v160 w19 ho hb hg hat; rw [← Ny159.out] at ho; have n0_ := Aside0.mk (Kd.R_after (ok := (fun k_ => some k_ ≠ (.slice Ao20 t156.length co20 : Value).ownBlock)) (by (with_reducible repeat (first | apply Kd.R_alloc | apply Kd.R_drewN | apply Kd.R_drew)); exact Kd.R_mono HO151.out (fun _ hk => ⟨hk.2, hk.1.2⟩)) hg hat); have n1_ := Aside0.mk (Kd.R_after (ok := (fun k_ => some k_ ≠ (.slice Ao16 t149.length co16 : Value).ownBlock)) (by (with_reducible repeat (first | apply Kd.R_alloc | apply Kd.R_drewN | apply Kd.R_drew)); exact Kd.R_mono HO158.out (fun _ hk => ⟨hk.1.2, hk.2⟩)) hg hat); have n2_ := Aside0.mk (hb); have n3_ := Aside0.mk (ho); clear HO151; clear HO158; clear HB; clear HO154; have HO151 := n0_; have HO158 := n1_; have HB := n2_; have HO161 := n3_; clear n0_ n1_ n2_ n3_; clear ho hb hg hat) | ((with_reducible refine gate_builtin (b := .append) (xs := #[.tmp 19, .tmp 20]) rfl ?_); at_builtin; refine Kd.R_append_rows (Kd.int .u8) (w0 := w) w.heap.size rfl (.tmp 19) (.tmp 20) 22 5 (.int .u8 0) 1 rfl Try.underlying22 info5 rfl (by decide) (by omega) v160 y159 l0 _ _ _ (fun k_ => some k_ ≠ (.slice Ao16 t149.length co16 : Value).ownBlock ∧ some k_ ≠ (.slice Ao20 t156.length co20 : Value).ownBlock) (fun _ => False) rfl rfl ?aO ?aR (fun _ _ h => h) (fun _ h => h.elim) ?aF ?aB ?aS ?aL ?_; (case aR => repeat (first | exact (Kd.C_below HR0.out HB.out) | (with_reducible refine Kd.C_alloc ?_ _) | (with_reducible refine Kd.C_drewN ?_ _) | (with_reducible refine Kd.C_drew ?_))); (case aB => exact (by repeat (first | (with_reducible first | exact HB.out | apply below_alloc | apply pw_below_drewN | apply below_drew1) | exact HB.out))); (case aF => exact (fun k_ hk => ⟨Kd.fresh' (Kd.R_lt (by (with_reducible repeat (first | apply Kd.R_alloc | apply Kd.R_drewN | apply Kd.R_drew)); exact HO151.out)) k_ hk, Kd.fresh' (Kd.R_lt (by (with_reducible repeat (first | apply Kd.R_alloc | apply Kd.R_drewN | apply Kd.R_drew)); exact HO158.out)) k_ hk⟩)); (case aO => exact (by (with_reducible repeat (first | apply Kd.R_alloc | apply Kd.R_drewN | apply Kd.R_drew)); exact HO161.out)); (case aS => exact (below_size (by repeat (first | (with_reducible first | exact HB.out | apply below_alloc | apply pw_below_drewN | apply below_drew1) | exact HB.out)))); (case aL => have := LMc8.out; omega); intro v163 w21 ho hb hg hat; rw [← Ny162.out] at ho; have n0_ := Aside0.mk (Kd.R_after (ok := (fun k_ => some k_ ≠ (.slice Ao20 t156.length co20 : Value).ownBlock)) (by (with_reducible repeat (first | apply Kd.R_alloc | apply Kd.R_drewN | apply Kd.R_drew)); exact HO151.out) hg hat); have n1_ := Aside0.mk (Kd.R_after (ok := (fun k_ => some k_ ≠ (.slice Ao16 t149.length co16 : Value).ownBlock)) (by (with_reducible repeat (first | apply Kd.R_alloc | apply Kd.R_drewN | apply Kd.R_drew)); exact HO158.out) hg hat); have n2_ := Aside0.mk (hb); have n3_ := Aside0.mk (ho); clear HO151; clear HO158; clear HB; clear HO161; have HO151 := n0_; have HO158 := n1_; have HB := n2_; have HO164 := n3_; clear n0_ n1_ n2_ n3_; clear ho hb hg hat; obtain ⟨Ao22, co22, eo22⟩ := Kd.R_slice HO164.out; subst eo22) | ((with_reducible refine gate_callee (f := 24) rfl ?_); refine goesL_ (some 24) rfl rfl Try.func24 (by kernel_rfl) rfl #[.slice Ao22 y162.length co22] rfl (by (try simp only [List.map_toArray, List.map_cons, List.map_nil]); first | done | rfl | (simp only [List.length_drop, List.length_take]; rfl)) ?_; (with_reducible refine (heraldref2_Sum.calls k _ _ y162 t165 _ ?side1 ?side2 A9.out).mono ?_); (case side1 => repeat (first | exact (Kd.R_reads' HO164.out).2.2 | (with_reducible refine Kd.C_alloc ?_ _) | (with_reducible refine Kd.C_drewN ?_ _) | (with_reducible refine Kd.C_drew ?_))); (case side2 => exact (Kd.R_reads' HO164.out).2.1); rintro e w' ⟨rfl, ⟨nd, rfl⟩⟩; refine ⟨_, rfl, ?_⟩) | ((with_reducible refine gate_callee (f := 53) rfl ?_); refine goesL_ (some 25) rfl rfl Try.func53 (by kernel_rfl) rfl #[.int .i64 t165] rfl (by (try simp only [List.map_toArray, List.map_cons, List.map_nil]); first | done | rfl | (simp only [List.length_drop, List.length_take]; rfl)) ?_; (with_reducible refine (heraldref2_four.calls t165 t166 _ A10.out).mono ?_); rintro e w23 ⟨v167, rfl, ho0, hb⟩; refine ⟨_, rfl, ?_⟩; have n0_ := Aside0.mk (Kd.R_elder' (by (with_reducible repeat (first | apply Kd.R_alloc | apply Kd.R_drewN | apply Kd.R_drew)); exact HO151.out) (Kd.R_base ho0) hb); have n1_ := Aside0.mk (Kd.R_elder' (by (with_reducible repeat (first | apply Kd.R_alloc | apply Kd.R_drewN | apply Kd.R_drew)); exact HO158.out) (Kd.R_base ho0) hb); have n2_ := Aside0.mk (Kd.R_elder' (by (with_reducible repeat (first | apply Kd.R_alloc | apply Kd.R_drewN | apply Kd.R_drew)); exact HO164.out) (Kd.R_base ho0) hb); have n3_ := Aside0.mk (Kd.R_lower (Kd.R_new' (Kd.R_new' (Kd.R_new' ho0 (Kd.R_lt (by (with_reducible repeat (first | apply Kd.R_alloc | apply Kd.R_drewN | apply Kd.R_drew)); exact HO151.out))) (Kd.R_lt (by (with_reducible repeat (first | apply Kd.R_alloc | apply Kd.R_drewN | apply Kd.R_drew)); exact HO158.out))) (Kd.R_lt (by (with_reducible repeat (first | apply Kd.R_alloc | apply Kd.R_drewN | apply Kd.R_drew)); exact HO164.out))) (below_size (by repeat (first | (with_reducible first | exact HB.out | apply below_alloc | apply pw_below_drewN | apply below_drew1) | exact HB.out)))); have n4_ := Aside0.mk (below_step (by repeat (first | (with_reducible first | exact HB.out | apply below_alloc | apply pw_below_drewN | apply below_drew1) | exact HB.out)) hb); clear HO151; clear HO158; clear HO164; clear HB; have HO151 := n0_; have HO158 := n1_; have HO164 := n2_; have HO168 := n3_; have HB := n4_; clear n0_ n1_ n2_ n3_ n4_; (try clear hb); (try clear hb2); (try clear hk); (try clear hi); (try clear ho0); obtain ⟨Ao25, co25, eo25⟩ := Kd.R_slice HO168.out; subst eo25) | ((with_reducible refine gate_builtin (b := .append) (xs := #[.tmp 22, .tmp 25]) rfl ?_); at_builtin; refine Kd.R_append_rows (Kd.int .u8) (w0 := w) w.heap.size rfl (.tmp 22) (.tmp 25) 22 5 (.int .u8 0) 1 rfl Try.underlying22 info5 rfl (by decide) (by omega) (.slice Ao22 y162.length co22) y162 t166 _ _ _ (fun k_ => some k_ ≠ (.slice Ao16 t149.length co16 : Value).ownBlock ∧ some k_ ≠ (.slice Ao20 t156.length co20 : Value).ownBlock ∧ some k_ ≠ (.slice Ao25 t166.length co25 : Value).ownBlock) (fun _ => False) rfl rfl ?aO ?aR (fun _ _ h => h) (fun _ h => h.elim) ?aF ?aB ?aS ?aL ?_; (case aR => repeat (first | exact (Kd.R_reads' HO168.out).2.2 | (with_reducible refine Kd.C_alloc ?_ _) | (with_reducible refine Kd.C_drewN ?_ _) | (with_reducible refine Kd.C_drew ?_))); (case aB => exact (by repeat (first | (with_reducible first | exact HB.out | apply below_alloc | apply pw_below_drewN | apply below_drew1) | exact HB.out))); (case aF => exact (fun k_ hk => ⟨Kd.fresh' (Kd.R_lt (by (with_reducible repeat (first | apply Kd.R_alloc | apply Kd.R_drewN | apply Kd.R_drew)); exact HO151.out)) k_ hk, Kd.fresh' (Kd.R_lt (by (with_reducible repeat (first | apply Kd.R_alloc | apply Kd.R_drewN | apply Kd.R_drew)); exact HO158.out)) k_ hk, Kd.fresh' (Kd.R_lt (by (with_reducible repeat (first | apply Kd.R_alloc | apply Kd.R_drewN | apply Kd.R_drew)); exact HO168.out)) k_ hk⟩)); (case aO => exact (by (with_reducible repeat (first | apply Kd.R_alloc | apply Kd.R_drewN | apply Kd.R_drew)); exact Kd.R_mono HO164.out (fun _ hk => ⟨hk.1.1, ⟨hk.1.2, hk.2⟩⟩))); (case aS => exact (below_size (by repeat (first | (with_reducible first | exact HB.out | apply below_alloc | apply pw_below_drewN | apply below_drew1) | exact HB.out)))); (case aL => have := LMc11.out; omega); intro v170 w24 ho hb hg hat; rw [← Ny169.out] at ho; have n0_ := Aside0.mk (Kd.R_after (ok := (fun k_ => some k_ ≠ (.slice Ao20 t156.length co20 : Value).ownBlock ∧ some k_ ≠ (.slice Ao25 t166.length co25 : Value).ownBlock)) (by (with_reducible repeat (first | apply Kd.R_alloc | apply Kd.R_drewN | apply Kd.R_drew)); exact Kd.R_mono HO151.out (fun _ hk => ⟨⟨hk.1.1, hk.2⟩, hk.1.2⟩)) hg hat); have n1_ := Aside0.mk (Kd.R_after (ok := (fun k_ => some k_ ≠ (.slice Ao16 t149.length co16 : Value).ownBlock ∧ some k_ ≠ (.slice Ao25 t166.length co25 : Value).ownBlock)) (by (with_reducible repeat (first | apply Kd.R_alloc | apply Kd.R_drewN | apply Kd.R_drew)); exact Kd.R_mono HO158.out (fun _ hk => ⟨⟨hk.1.1, hk.2⟩, hk.1.2⟩)) hg hat); have n2_ := Aside0.mk (Kd.R_after (ok := (fun k_ => some k_ ≠ (.slice Ao16 t149.length co16 : Value).ownBlock ∧ some k_ ≠ (.slice Ao20 t156.length co20 : Value).ownBlock)) (by (with_reducible repeat (first | apply Kd.R_alloc | apply Kd.R_drewN | apply Kd.R_drew)); exact Kd.R_mono HO168.out (fun _ hk => ⟨⟨hk.1.1.2, hk.1.2⟩, hk.2⟩)) hg hat); have n3_ := Aside0.mk (hb); have n4_ := Aside0.mk (ho); clear HO151; clear HO158; clear HO168; clear HB; clear HO164; have HO151 := n0_; have HO158 := n1_; have HO168 := n2_; have HB := n3_; have HO171 := n4_; clear n0_ n1_ n2_ n3_ n4_; clear ho hb hg hat))
            go_ret2
            exact ⟨_, by first | rfl | (simp [errW_none, errW_some] <;> rfl) | (simp [*, errW_none, errW_some] <;> rfl), by (with_reducible repeat (first | apply Kd.R_alloc | apply Kd.R_drewN | apply Kd.R_drew)); exact Kd.R_mono HO171.out (fun _ hk => trivial), by repeat (first | (with_reducible first | exact HB.out | apply below_alloc | apply pw_below_drewN | apply below_drew1) | exact HB.out)⟩
          · rw [if_neg c11] at H
            exact absurd H (by simp)
        · rw [if_neg c8] at H
          exact absurd H (by simp)
      · rw [if_neg c7] at H
        exact absurd H (by simp)
    · rw [if_neg c4] at H
      exact absurd H (by simp)

end Go.Proofs.Ytnanaojjhmpilaa.PW
