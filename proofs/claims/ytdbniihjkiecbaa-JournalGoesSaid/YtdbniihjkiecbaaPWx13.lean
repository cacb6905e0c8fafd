/- The machine's side of functions, in one namespace: each function's call comes to what its Lean function tells. -/
import Derived.Test.YtdbniihjkiecbaaPWx0
import Derived.Test.YtdbniihjkiecbaaPWx6
import Derived.Test.YtdbniihjkiecbaaPWx12
namespace Go.Proofs.Ytdbniihjkiecbaa.PW
open Go.RowKit Go.Proofs.YtdbniihjkiecbaaW.PrintWords Go.Proofs.YtdbniihjkiecbaaW.PrintLast Go.Proofs.YtdbniihjkiecbaaW.PrintMore
attribute [local go_sem] max2_int min2_int max_two min_two max_three min_three max_four min_four   -- for this text's walks alone
set_option linter.unusedVariables false
set_option linter.unusedSimpArgs false

/-! ### note_mayOp: function 89 -/
def note_mayOp.f (a0_0 : Int) (a0_1 : ByteArray) (a0_2 : ByteArray) (a0_3 : Int) (a0_4 : Int) : Option (Bool) := (note_numbers.f (([a0_0, a0_4] : List Int))).bind fun t272 => (if t272 = true then (if a0_3 = (-1) then (if (a0_1.size : Int) ≤ 256 then (some (decide ((a0_2.size : Int) ≤ 256))) else (some false)) else ((note_numbers.f (([a0_3] : List Int))).bind fun t276 => (if t276 = true then (if (a0_1.size : Int) ≤ 256 then (some (decide ((a0_2.size : Int) ≤ 256))) else (some false)) else (some false)))) else (some false))
set_option maxHeartbeats 8000000 in
set_option maxRecDepth 100000 in
theorem note_mayOp.calls (a0_0 : Int) (a0_1 : ByteArray) (a0_2 : ByteArray) (a0_3 : Int) (a0_4 : Int) (r : Bool) (w : World) (h : note_mayOp.f a0_0 a0_1 a0_2 a0_3 a0_4 = some r) :
    Calls Try.prog 89 #[.agg #[.int .i64 a0_0, .string a0_1, .string a0_2, .int .i64 a0_3, .int .i64 a0_4]] w fun e w' => e = .returned (.bool r) ∧ Below w.heap.size w w' := by
  have hu40 := Try.underlying40
  have HB := Aside0.mk (Below.refl w.heap.size w)
  have H : ((note_numbers.f (([a0_0, a0_4] : List Int))).bind fun t272 => (if t272 = true then (if a0_3 = (-1) then (if (a0_1.size : Int) ≤ 256 then (some (decide ((a0_2.size : Int) ≤ 256))) else (some false)) else ((note_numbers.f (([a0_3] : List Int))).bind fun t276 => (if t276 = true then (if (a0_1.size : Int) ≤ 256 then (some (decide ((a0_2.size : Int) ≤ 256))) else (some false)) else (some false)))) else (some false))) = some r := h
  clear h
  obtain ⟨y269, hy269⟩ : ∃ y_ : List Int, y_ = (([a0_0, a0_4] : List Int)) := ⟨_, rfl⟩
  replace H : ((note_numbers.f y269).bind fun t272 => (if t272 = true then (if a0_3 = (-1) then (if (a0_1.size : Int) ≤ 256 then (some (decide ((a0_2.size : Int) ≤ 256))) else (some false)) else ((note_numbers.f (([a0_3] : List Int))).bind fun t276 => (if t276 = true then (if (a0_1.size : Int) ≤ 256 then (some (decide ((a0_2.size : Int) ≤ 256))) else (some false)) else (some false)))) else (some false))) = some r := by first | (rw [hy269]; with_reducible exact H) | (have H2_ := (Option.bind_some _ _).symm.trans H; rw [hy269]; with_reducible exact H2_) | (have H2_ := (Option.bind_some _ _).symm.trans H; with_reducible exact H2_) | with_reducible exact H | (rw [hy269]; exact H) | exact H
  have Ny269 := Aside0.mk hy269
  clear hy269
  replace H := Option.bind_eq_some_iff.mp H
  obtain ⟨t272, A20, H⟩ := H
  replace H : (if t272 = true then (if a0_3 = (-1) then (if (a0_1.size : Int) ≤ 256 then (some (decide ((a0_2.size : Int) ≤ 256))) else (some false)) else ((note_numbers.f (([a0_3] : List Int))).bind fun t276 => (if t276 = true then (if (a0_1.size : Int) ≤ 256 then (some (decide ((a0_2.size : Int) ≤ 256))) else (some false)) else (some false)))) else (some false)) = some r := H
  have A2 := Aside0.mk A20
  clear A20
  by_cases c3 : t272 = true
  · subst c3
    have H1 : (if a0_3 = (-1) then (if (a0_1.size : Int) ≤ 256 then (some (decide ((a0_2.size : Int) ≤ 256))) else (some false)) else ((note_numbers.f (([a0_3] : List Int))).bind fun t276 => (if t276 = true then (if (a0_1.size : Int) ≤ 256 then (some (decide ((a0_2.size : Int) ≤ 256))) else (some false)) else (some false)))) = some r := by rw [if_pos rfl] at H; exact H
    clear H
    have H := H1
    clear H1
    by_cases c4 : a0_3 = (-1)
    · rw [if_pos c4] at H
      have c4b0 : (a0_3 == (-1)) = true := beq_iff_eq.mpr c4
      have c4b1 : (a0_3 != (-1)) = false := bne_eq_false_iff_eq.mpr c4
      clear c4
      by_cases c5 : (a0_1.size : Int) ≤ 256
      · rw [if_pos c5] at H
        have c5b0 : decide ((a0_1.size : Int) ≤ 256) = true := decide_eq_true c5
        have c5b1 : decide (a0_1.size ≤ 256) = true := decide_eq_true (by omega)
        clear c5
        obtain rfl := Option.some.inj H
        go_enter Try.func89, Try.ntmps89
        go_wp2_with (first | ((with_reducible refine gate_dst (N := 1) rfl ?_); (try (refine gate_guard (by rfl) ?_; dsimp only)); refine box_event ?hg (N := 1) ?hd (cs := #[.int .i64 a0_0, .string a0_1, .string a0_2, .int .i64 a0_3, .int .i64 a0_4]) (t := 40) ?hr ?_; (case hd => rfl); (case hg => rfl); (case hr => first | (go_simp; done) | (go_simp; rfl)); intro gb268 hg w6 hbox hb; have n0_ := Aside0.mk (below_step (by repeat first | exact HB.out | apply below_alloc | apply pw_below_drewN | apply below_drew1) hb); have n1_ := Aside0.mk (hbox); have n2_ := Aside0.mk ((by rw [hg]; exact (below_size (by repeat first | exact HB.out | apply below_alloc | apply pw_below_drewN | apply below_drew1)) : w.heap.size ≤ gb268)); have n3_ := Aside0.mk ((by rw [hg]; exact (below_size (by repeat first | exact HB.out | apply below_alloc | apply pw_below_drewN | apply below_drew1)) : w.heap.size ≤ gb268)); clear HB; have HB := n0_; have BK268 := n1_; have GW268 := n2_; have GE268 := n3_; clear n0_ n1_ n2_ n3_; clear hb hbox hg; have hcz7_0 : ∀ i, w6.cell? ⟨gb268, i, none⟩ = _ := blk_cell BK268.out; have hfz7_0 := blk_frozen BK268.out) | ((with_reducible refine gate_dst (N := 7) rfl ?_); (try (refine gate_guard (by rfl) ?_; dsimp only)); refine Kd.R_lit (Kd.int .i64) _ 3 ?hg (N := 7) ?hd (xs := ([a0_0, a0_4] : List Int)) (inner := [.int .i64 a0_0, .int .i64 a0_4]) (ok := fun _ => True) (okp := fun _ => True) ?hr ?hp (fun _ hk => hk) trivial (Below.refl _ _) (Nat.le_refl _) (by simp) ?_; (case hd => rfl); (case hg => rfl); (case hr => first | (go_simp; done) | (go_simp; rfl)); (case hp => exact (Reps.one (show Kd.M (Kd.int .i64) _ _ _ a0_0 [.int .i64 a0_0] from rfl) (Reps.one (show Kd.M (Kd.int .i64) _ _ _ a0_4 [.int .i64 a0_4] from rfl) (Reps.none _ _)))); intro v270 w8 ho9 hb hg_ hnew_; clear hg_ hnew_; (first | rw [← Ny269.out] at ho9 | (simp only [Int.reduceToNat] at ho9; rw [← Ny269.out] at ho9)); have n0_ := Aside0.mk (Kd.R_lower ho9 (below_size (by repeat first | exact HB.out | apply below_alloc | apply pw_below_drewN | apply below_drew1 | refine below_set ?_ GE268.out))); have n1_ := Aside0.mk (blk_below (g := gb268) (o := .cells #[.int .i64 a0_0, .string a0_1, .string a0_2, .int .i64 a0_3, .int .i64 a0_4] 40 (0, 0)) (by (with_reducible repeat (first | refine blk_drewN ?_ _ | refine blk_drew ?_ | refine blk_alloc ?_ _)); exact BK268.out) hb); have n2_ := Aside0.mk (below_step (by repeat first | exact HB.out | apply below_alloc | apply pw_below_drewN | apply below_drew1 | refine below_set ?_ GE268.out) hb); clear BK268; clear HB; have HO271 := n0_; have BK268 := n1_; have HB := n2_; clear n0_ n1_ n2_; clear hb ho9; obtain ⟨Ao10, co10, eo10⟩ := Kd.R_slice HO271.out; subst eo10) | ((with_reducible refine gate_callee (f := 77) rfl ?_); refine goesL_ (some 8) rfl rfl Try.func77 (by kernel_rfl) rfl #[.slice Ao10 y269.length co10] rfl (by (try simp only [mxx]); first | done | rfl | (simp only [List.length_drop, List.length_take]; rfl)) ?_; (with_reducible refine (note_numbers.calls _ _ y269 true _ ?side1 ?side2 A2.out).mono ?_); (case side1 => repeat (first | exact (Kd.R_reads' HO271.out).2.2 | (with_reducible refine Kd.C_alloc ?_ _) | (with_reducible refine Kd.C_drewN ?_ _) | (with_reducible refine Kd.C_drew ?_))); (case side2 => exact (Kd.R_reads' HO271.out).2.1); rintro e w' ⟨rfl, ⟨nd, rfl⟩⟩; refine ⟨_, rfl, ?_⟩; have hcz11_0 : ∀ i, w8.cell? ⟨gb268, i, none⟩ = _ := blk_cell BK268.out; have hfz11_0 := blk_frozen BK268.out))
        go_ret
        exact ⟨by first | rfl | (simp [errW_none, errW_some] <;> rfl) | (simp [*, errW_none, errW_some] <;> rfl), by repeat (first | (with_reducible first | exact HB.out | apply below_alloc | apply pw_below_drewN | apply below_drew1 | refine below_set ?_ GE268.out) | exact HB.out)⟩
      · rw [if_neg c5] at H
        have c5b0 : decide ((a0_1.size : Int) ≤ 256) = false := decide_eq_false c5
        have c5b1 : decide (a0_1.size ≤ 256) = false := decide_eq_false (by omega)
        clear c5
        obtain rfl := Option.some.inj H
        go_enter Try.func89, Try.ntmps89
        go_wp2_with (first | ((with_reducible refine gate_dst (N := 1) rfl ?_); (try (refine gate_guard (by rfl) ?_; dsimp only)); refine box_event ?hg (N := 1) ?hd (cs := #[.int .i64 a0_0, .string a0_1, .string a0_2, .int .i64 a0_3, .int .i64 a0_4]) (t := 40) ?hr ?_; (case hd => rfl); (case hg => rfl); (case hr => first | (go_simp; done) | (go_simp; rfl)); intro gb268 hg w12 hbox hb; have n0_ := Aside0.mk (below_step (by repeat first | exact HB.out | apply below_alloc | apply pw_below_drewN | apply below_drew1) hb); have n1_ := Aside0.mk (hbox); have n2_ := Aside0.mk ((by rw [hg]; exact (below_size (by repeat first | exact HB.out | apply below_alloc | apply pw_below_drewN | apply below_drew1)) : w.heap.size ≤ gb268)); have n3_ := Aside0.mk ((by rw [hg]; exact (below_size (by repeat first | exact HB.out | apply below_alloc | apply pw_below_drewN | apply below_drew1)) : w.heap.size ≤ gb268)); clear HB; have HB := n0_; have BK268 := n1_; have GW268 := n2_; have GE268 := n3_; clear n0_ n1_ n2_ n3_; clear hb hbox hg; have hcz13_0 : ∀ i, w12.cell? ⟨gb268, i, none⟩ = _ := blk_cell BK268.out; have hfz13_0 := blk_frozen BK268.out) | ((with_reducible refine gate_dst (N := 7) rfl ?_); (try (refine gate_guard (by rfl) ?_; dsimp only)); refine Kd.R_lit (Kd.int .i64) _ 3 ?hg (N := 7) ?hd (xs := ([a0_0, a0_4] : List Int)) (inner := [.int .i64 a0_0, .int .i64 a0_4]) (ok := fun _ => True) (okp := fun _ => True) ?hr ?hp (fun _ hk => hk) trivial (Below.refl _ _) (Nat.le_refl _) (by simp) ?_; (case hd => rfl); (case hg => rfl); (case hr => first | (go_simp; done) | (go_simp; rfl)); (case hp => exact (Reps.one (show Kd.M (Kd.int .i64) _ _ _ a0_0 [.int .i64 a0_0] from rfl) (Reps.one (show Kd.M (Kd.int .i64) _ _ _ a0_4 [.int .i64 a0_4] from rfl) (Reps.none _ _)))); intro v270 w14 ho15 hb hg_ hnew_; clear hg_ hnew_; (first | rw [← Ny269.out] at ho15 | (simp only [Int.reduceToNat] at ho15; rw [← Ny269.out] at ho15)); have n0_ := Aside0.mk (Kd.R_lower ho15 (below_size (by repeat first | exact HB.out | apply below_alloc | apply pw_below_drewN | apply below_drew1 | refine below_set ?_ GE268.out))); have n1_ := Aside0.mk (blk_below (g := gb268) (o := .cells #[.int .i64 a0_0, .string a0_1, .string a0_2, .int .i64 a0_3, .int .i64 a0_4] 40 (0, 0)) (by (with_reducible repeat (first | refine blk_drewN ?_ _ | refine blk_drew ?_ | refine blk_alloc ?_ _)); exact BK268.out) hb); have n2_ := Aside0.mk (below_step (by repeat first | exact HB.out | apply below_alloc | apply pw_below_drewN | apply below_drew1 | refine below_set ?_ GE268.out) hb); clear BK268; clear HB; have HO271 := n0_; have BK268 := n1_; have HB := n2_; clear n0_ n1_ n2_; clear hb ho15; obtain ⟨Ao16, co16, eo16⟩ := Kd.R_slice HO271.out; subst eo16) | ((with_reducible refine gate_callee (f := 77) rfl ?_); refine goesL_ (some 8) rfl rfl Try.func77 (by kernel_rfl) rfl #[.slice Ao16 y269.length co16] rfl (by (try simp only [mxx]); first | done | rfl | (simp only [List.length_drop, List.length_take]; rfl)) ?_; (with_reducible refine (note_numbers.calls _ _ y269 true _ ?side1 ?side2 A2.out).mono ?_); (case side1 => repeat (first | exact (Kd.R_reads' HO271.out).2.2 | (with_reducible refine Kd.C_alloc ?_ _) | (with_reducible refine Kd.C_drewN ?_ _) | (with_reducible refine Kd.C_drew ?_))); (case side2 => exact (Kd.R_reads' HO271.out).2.1); rintro e w' ⟨rfl, ⟨nd, rfl⟩⟩; refine ⟨_, rfl, ?_⟩; have hcz17_0 : ∀ i, w14.cell? ⟨gb268, i, none⟩ = _ := blk_cell BK268.out; have hfz17_0 := blk_frozen BK268.out))
        go_ret
        exact ⟨by first | rfl | (simp [errW_none, errW_some] <;> rfl) | (simp [*, errW_none, errW_some] <;> rfl), by repeat (first | (with_reducible first | exact HB.out | apply below_alloc | apply pw_below_drewN | apply below_drew1 | refine below_set ?_ GE268.out) | exact HB.out)⟩
    · rw [if_neg c4] at H
      have c4b0 : (a0_3 == (-1)) = false := beq_eq_false_iff_ne.mpr c4
      have c4b1 : (a0_3 != (-1)) = true := bne_iff_ne.mpr c4
      obtain ⟨y273, hy273⟩ : ∃ y_ : List Int, y_ = (([a0_3] : List Int)) := ⟨_, rfl⟩
      replace H : ((note_numbers.f y273).bind fun t276 => (if t276 = true then (if (a0_1.size : Int) ≤ 256 then (some (decide ((a0_2.size : Int) ≤ 256))) else (some false)) else (some false))) = some r := by first | (rw [hy273]; with_reducible exact H) | (have H2_ := (Option.bind_some _ _).symm.trans H; rw [hy273]; with_reducible exact H2_) | (have H2_ := (Option.bind_some _ _).symm.trans H; with_reducible exact H2_) | with_reducible exact H | (rw [hy273]; exact H) | exact H
      have Ny273 := Aside0.mk hy273
      clear hy273
      replace H := Option.bind_eq_some_iff.mp H
      obtain ⟨t276, A180, H⟩ := H
      replace H : (if t276 = true then (if (a0_1.size : Int) ≤ 256 then (some (decide ((a0_2.size : Int) ≤ 256))) else (some false)) else (some false)) = some r := H
      have A18 := Aside0.mk A180
      clear A180
      by_cases c19 : t276 = true
      · subst c19
        have H1 : (if (a0_1.size : Int) ≤ 256 then (some (decide ((a0_2.size : Int) ≤ 256))) else (some false)) = some r := by rw [if_pos rfl] at H; exact H
        clear H
        have H := H1
        clear H1
        by_cases c20 : (a0_1.size : Int) ≤ 256
        · rw [if_pos c20] at H
          have c20b0 : decide ((a0_1.size : Int) ≤ 256) = true := decide_eq_true c20
          have c20b1 : decide (a0_1.size ≤ 256) = true := decide_eq_true (by omega)
          clear c20
          obtain rfl := Option.some.inj H
          go_enter Try.func89, Try.ntmps89
          go_wp2_with (first | ((with_reducible refine gate_dst (N := 1) rfl ?_); (try (refine gate_guard (by rfl) ?_; dsimp only)); refine box_event ?hg (N := 1) ?hd (cs := #[.int .i64 a0_0, .string a0_1, .string a0_2, .int .i64 a0_3, .int .i64 a0_4]) (t := 40) ?hr ?_; (case hd => rfl); (case hg => rfl); (case hr => first | (go_simp; done) | (go_simp; rfl)); intro gb268 hg w21 hbox hb; have n0_ := Aside0.mk (below_step (by repeat first | exact HB.out | apply below_alloc | apply pw_below_drewN | apply below_drew1) hb); have n1_ := Aside0.mk (hbox); have n2_ := Aside0.mk ((by rw [hg]; exact (below_size (by repeat first | exact HB.out | apply below_alloc | apply pw_below_drewN | apply below_drew1)) : w.heap.size ≤ gb268)); have n3_ := Aside0.mk ((by rw [hg]; exact (below_size (by repeat first | exact HB.out | apply below_alloc | apply pw_below_drewN | apply below_drew1)) : w.heap.size ≤ gb268)); clear HB; have HB := n0_; have BK268 := n1_; have GW268 := n2_; have GE268 := n3_; clear n0_ n1_ n2_ n3_; clear hb hbox hg; have hcz22_0 : ∀ i, w21.cell? ⟨gb268, i, none⟩ = _ := blk_cell BK268.out; have hfz22_0 := blk_frozen BK268.out) | ((with_reducible refine gate_dst (N := 7) rfl ?_); (try (refine gate_guard (by rfl) ?_; dsimp only)); refine Kd.R_lit (Kd.int .i64) _ 3 ?hg (N := 7) ?hd (xs := ([a0_0, a0_4] : List Int)) (inner := [.int .i64 a0_0, .int .i64 a0_4]) (ok := fun _ => True) (okp := fun _ => True) ?hr ?hp (fun _ hk => hk) trivial (Below.refl _ _) (Nat.le_refl _) (by simp) ?_; (case hd => rfl); (case hg => rfl); (case hr => first | (go_simp; done) | (go_simp; rfl)); (case hp => exact (Reps.one (show Kd.M (Kd.int .i64) _ _ _ a0_0 [.int .i64 a0_0] from rfl) (Reps.one (show Kd.M (Kd.int .i64) _ _ _ a0_4 [.int .i64 a0_4] from rfl) (Reps.none _ _)))); intro v270 w23 ho24 hb hg_ hnew_; clear hg_ hnew_; (first | rw [← Ny269.out] at ho24 | (simp only [Int.reduceToNat] at ho24; rw [← Ny269.out] at ho24)); have n0_ := Aside0.mk (Kd.R_lower ho24 (below_size (by repeat first | exact HB.out | apply below_alloc | apply pw_below_drewN | apply below_drew1 | refine below_set ?_ GE268.out))); have n1_ := Aside0.mk (blk_below (g := gb268) (o := .cells #[.int .i64 a0_0, .string a0_1, .string a0_2, .int .i64 a0_3, .int .i64 a0_4] 40 (0, 0)) (by (with_reducible repeat (first | refine blk_drewN ?_ _ | refine blk_drew ?_ | refine blk_alloc ?_ _)); exact BK268.out) hb); have n2_ := Aside0.mk (below_step (by repeat first | exact HB.out | apply below_alloc | apply pw_below_drewN | apply below_drew1 | refine below_set ?_ GE268.out) hb); clear BK268; clear HB; have HO271 := n0_; have BK268 := n1_; have HB := n2_; clear n0_ n1_ n2_; clear hb ho24; obtain ⟨Ao25, co25, eo25⟩ := Kd.R_slice HO271.out; subst eo25) | ((with_reducible refine gate_callee (f := 77) rfl ?_); refine goesL_ (some 8) rfl rfl Try.func77 (by kernel_rfl) rfl #[.slice Ao25 y269.length co25] rfl (by (try simp only [mxx]); first | done | rfl | (simp only [List.length_drop, List.length_take]; rfl)) ?_; (with_reducible refine (note_numbers.calls _ _ y269 true _ ?side1 ?side2 A2.out).mono ?_); (case side1 => repeat (first | exact (Kd.R_reads' HO271.out).2.2 | (with_reducible refine Kd.C_alloc ?_ _) | (with_reducible refine Kd.C_drewN ?_ _) | (with_reducible refine Kd.C_drew ?_))); (case side2 => exact (Kd.R_reads' HO271.out).2.1); rintro e w' ⟨rfl, ⟨nd, rfl⟩⟩; refine ⟨_, rfl, ?_⟩; have hcz26_0 : ∀ i, w23.cell? ⟨gb268, i, none⟩ = _ := blk_cell BK268.out; have hfz26_0 := blk_frozen BK268.out) | ((with_reducible refine gate_dst (N := 16) rfl ?_); (try (refine gate_guard (by rfl) ?_; dsimp only)); refine Kd.R_lit (Kd.int .i64) _ 3 ?hg (N := 16) ?hd (xs := ([a0_3] : List Int)) (inner := [.int .i64 a0_3]) (ok := fun _ => True) (okp := fun _ => True) ?hr ?hp (fun _ hk => hk) trivial (Below.refl _ _) (Nat.le_refl _) (by simp) ?_; (case hd => rfl); (case hg => rfl); (case hr => first | (go_simp; done) | (go_simp; rfl)); (case hp => exact (Reps.one (show Kd.M (Kd.int .i64) _ _ _ a0_3 [.int .i64 a0_3] from rfl) (Reps.none _ _))); intro v274 w27 ho28 hb hg_ hnew_; clear hg_ hnew_; (first | rw [← Ny273.out] at ho28 | (simp only [Int.reduceToNat] at ho28; rw [← Ny273.out] at ho28)); have n0_ := Aside0.mk (Kd.R_elder' (by (with_reducible repeat (first | apply Kd.R_alloc | apply Kd.R_drewN | apply Kd.R_drew)); exact HO271.out) (Kd.R_base ho28) hb); have n1_ := Aside0.mk (Kd.R_lower (Kd.R_new' ho28 (Kd.R_lt (by (with_reducible repeat (first | apply Kd.R_alloc | apply Kd.R_drewN | apply Kd.R_drew)); exact HO271.out))) (below_size (by repeat first | exact HB.out | apply below_alloc | apply pw_below_drewN | apply below_drew1 | refine below_set ?_ GE268.out))); have n2_ := Aside0.mk (blk_below (g := gb268) (o := .cells #[.int .i64 a0_0, .string a0_1, .string a0_2, .int .i64 a0_3, .int .i64 a0_4] 40 (0, 0)) (by (with_reducible repeat (first | refine blk_drewN ?_ _ | refine blk_drew ?_ | refine blk_alloc ?_ _)); exact BK268.out) hb); have n3_ := Aside0.mk (below_step (by repeat first | exact HB.out | apply below_alloc | apply pw_below_drewN | apply below_drew1 | refine below_set ?_ GE268.out) hb); clear HO271; clear BK268; clear HB; have HO271 := n0_; have HO275 := n1_; have BK268 := n2_; have HB := n3_; clear n0_ n1_ n2_ n3_; clear hb ho28; obtain ⟨Ao29, co29, eo29⟩ := Kd.R_slice HO275.out; subst eo29) | (go_at_call 77; (with_reducible refine (note_numbers.calls _ _ y273 true _ ?side1 ?side2 A18.out).mono ?_); (case side1 => repeat (first | exact (Kd.R_reads' HO275.out).2.2 | (with_reducible refine Kd.C_alloc ?_ _) | (with_reducible refine Kd.C_drewN ?_ _) | (with_reducible refine Kd.C_drew ?_))); (case side2 => exact (Kd.R_reads' HO275.out).2.1); rintro e w' ⟨rfl, ⟨nd, rfl⟩⟩; have hcz30_0 : ∀ i, w27.cell? ⟨gb268, i, none⟩ = _ := blk_cell BK268.out; have hfz30_0 := blk_frozen BK268.out))
          go_ret
          exact ⟨by first | rfl | (simp [errW_none, errW_some] <;> rfl) | (simp [*, errW_none, errW_some] <;> rfl), by repeat (first | (with_reducible first | exact HB.out | apply below_alloc | apply pw_below_drewN | apply below_drew1 | refine below_set ?_ GE268.out) | exact HB.out)⟩
        · rw [if_neg c20] at H
          have c20b0 : decide ((a0_1.size : Int) ≤ 256) = false := decide_eq_false c20
          have c20b1 : decide (a0_1.size ≤ 256) = false := decide_eq_false (by omega)
          clear c20
          obtain rfl := Option.some.inj H
          go_enter Try.func89, Try.ntmps89
          go_wp2_with (first | ((with_reducible refine gate_dst (N := 1) rfl ?_); (try (refine gate_guard (by rfl) ?_; dsimp only)); refine box_event ?hg (N := 1) ?hd (cs := #[.int .i64 a0_0, .string a0_1, .string a0_2, .int .i64 a0_3, .int .i64 a0_4]) (t := 40) ?hr ?_; (case hd => rfl); (case hg => rfl); (case hr => first | (go_simp; done) | (go_simp; rfl)); intro gb268 hg w31 hbox hb; have n0_ := Aside0.mk (below_step (by repeat first | exact HB.out | apply below_alloc | apply pw_below_drewN | apply below_drew1) hb); have n1_ := Aside0.mk (hbox); have n2_ := Aside0.mk ((by rw [hg]; exact (below_size (by repeat first | exact HB.out | apply below_alloc | apply pw_below_drewN | apply below_drew1)) : w.heap.size ≤ gb268)); have n3_ := Aside0.mk ((by rw [hg]; exact (below_size (by repeat first | exact HB.out | apply below_alloc | apply pw_below_drewN | apply below_drew1)) : w.heap.size ≤ gb268)); clear HB; have HB := n0_; have BK268 := n1_; have GW268 := n2_; have GE268 := n3_; clear n0_ n1_ n2_ n3_; clear hb hbox hg; have hcz32_0 : ∀ i, w31.cell? ⟨gb268, i, none⟩ = _ := blk_cell BK268.out; have hfz32_0 := blk_frozen BK268.out) | ((with_reducible refine gate_dst (N := 7) rfl ?_); (try (refine gate_guard (by rfl) ?_; dsimp only)); refine Kd.R_lit (Kd.int .i64) _ 3 ?hg (N := 7) ?hd (xs := ([a0_0, a0_4] : List Int)) (inner := [.int .i64 a0_0, .int .i64 a0_4]) (ok := fun _ => True) (okp := fun _ => True) ?hr ?hp (fun _ hk => hk) trivial (Below.refl _ _) (Nat.le_refl _) (by simp) ?_; (case hd => rfl); (case hg => rfl); (case hr => first | (go_simp; done) | (go_simp; rfl)); (case hp => exact (Reps.one (show Kd.M (Kd.int .i64) _ _ _ a0_0 [.int .i64 a0_0] from rfl) (Reps.one (show Kd.M (Kd.int .i64) _ _ _ a0_4 [.int .i64 a0_4] from rfl) (Reps.none _ _)))); intro v270 w33 ho34 hb hg_ hnew_; clear hg_ hnew_; (first | rw [← Ny269.out] at ho34 | (simp only [Int.reduceToNat] at ho34; rw [← Ny269.out] at ho34)); have n0_ := Aside0.mk (Kd.R_lower ho34 (below_size (by repeat first | exact HB.out | apply below_alloc | apply pw_below_drewN | apply below_drew1 | refine below_set ?_ GE268.out))); have n1_ := Aside0.mk (blk_below (g := gb268) (o := .cells #[.int .i64 a0_0, .string a0_1, .string a0_2, .int .i64 a0_3, .int .i64 a0_4] 40 (0, 0)) (by (with_reducible repeat (first | refine blk_drewN ?_ _ | refine blk_drew ?_ | refine blk_alloc ?_ _)); exact BK268.out) hb); have n2_ := Aside0.mk (below_step (by repeat first | exact HB.out | apply below_alloc | apply pw_below_drewN | apply below_drew1 | refine below_set ?_ GE268.out) hb); clear BK268; clear HB; have HO271 := n0_; have BK268 := n1_; have HB := n2_; clear n0_ n1_ n2_; clear hb ho34; obtain ⟨Ao35, co35, eo35⟩ := Kd.R_slice HO271.out; subst eo35) | ((with_reducible refine gate_callee (f := 77) rfl ?_); refine goesL_ (some 8) rfl rfl Try.func77 (by kernel_rfl) rfl #[.slice Ao35 y269.length co35] rfl (by (try simp only [mxx]); first | done | rfl | (simp only [List.length_drop, List.length_take]; rfl)) ?_; (with_reducible refine (note_numbers.calls _ _ y269 true _ ?side1 ?side2 A2.out).mono ?_); (case side1 => repeat (first | exact (Kd.R_reads' HO271.out).2.2 | (with_reducible refine Kd.C_alloc ?_ _) | (with_reducible refine Kd.C_drewN ?_ _) | (with_reducible refine Kd.C_drew ?_))); (case side2 => exact (Kd.R_reads' HO271.out).2.1); rintro e w' ⟨rfl, ⟨nd, rfl⟩⟩; refine ⟨_, rfl, ?_⟩; have hcz36_0 : ∀ i, w33.cell? ⟨gb268, i, none⟩ = _ := blk_cell BK268.out; have hfz36_0 := blk_frozen BK268.out) | ((with_reducible refine gate_dst (N := 16) rfl ?_); (try (refine gate_guard (by rfl) ?_; dsimp only)); refine Kd.R_lit (Kd.int .i64) _ 3 ?hg (N := 16) ?hd (xs := ([a0_3] : List Int)) (inner := [.int .i64 a0_3]) (ok := fun _ => True) (okp := fun _ => True) ?hr ?hp (fun _ hk => hk) trivial (Below.refl _ _) (Nat.le_refl _) (by simp) ?_; (case hd => rfl); (case hg => rfl); (case hr => first | (go_simp; done) | (go_simp; rfl)); (case hp => exact (Reps.one (show Kd.M (Kd.int .i64) _ _ _ a0_3 [.int .i64 a0_3] from rfl) (Reps.none _ _))); intro v274 w37 ho38 hb hg_ hnew_; clear hg_ hnew_; (first | rw [← Ny273.out] at ho38 | (simp only [Int.reduceToNat] at ho38; rw [← Ny273.out] at ho38)); have n0_ := Aside0.mk (Kd.R_elder' (by (with_reducible repeat (first | apply Kd.R_alloc | apply Kd.R_drewN | apply Kd.R_drew)); exact HO271.out) (Kd.R_base ho38) hb); have n1_ := Aside0.mk (Kd.R_lower (Kd.R_new' ho38 (Kd.R_lt (by (with_reducible repeat (first | apply Kd.R_alloc | apply Kd.R_drewN | apply Kd.R_drew)); exact HO271.out))) (below_size (by repeat first | exact HB.out | apply below_alloc | apply pw_below_drewN | apply below_drew1 | refine below_set ?_ GE268.out))); have n2_ := Aside0.mk (blk_below (g := gb268) (o := .cells #[.int .i64 a0_0, .string a0_1, .string a0_2, .int .i64 a0_3, .int .i64 a0_4] 40 (0, 0)) (by (with_reducible repeat (first | refine blk_drewN ?_ _ | refine blk_drew ?_ | refine blk_alloc ?_ _)); exact BK268.out) hb); have n3_ := Aside0.mk (below_step (by repeat first | exact HB.out | apply below_alloc | apply pw_below_drewN | apply below_drew1 | refine below_set ?_ GE268.out) hb); clear HO271; clear BK268; clear HB; have HO271 := n0_; have HO275 := n1_; have BK268 := n2_; have HB := n3_; clear n0_ n1_ n2_ n3_; clear hb ho38; obtain ⟨Ao39, co39, eo39⟩ := Kd.R_slice HO275.out; subst eo39) | (go_at_call 77; (with_reducible refine (note_numbers.calls _ _ y273 true _ ?side1 ?side2 A18.out).mono ?_); (case side1 => repeat (first | exact (Kd.R_reads' HO275.out).2.2 | (with_reducible refine Kd.C_alloc ?_ _) | (with_reducible refine Kd.C_drewN ?_ _) | (with_reducible refine Kd.C_drew ?_))); (case side2 => exact (Kd.R_reads' HO275.out).2.1); rintro e w' ⟨rfl, ⟨nd, rfl⟩⟩; have hcz40_0 : ∀ i, w37.cell? ⟨gb268, i, none⟩ = _ := blk_cell BK268.out; have hfz40_0 := blk_frozen BK268.out))
          go_ret
          exact ⟨by first | rfl | (simp [errW_none, errW_some] <;> rfl) | (simp [*, errW_none, errW_some] <;> rfl), by repeat (first | (with_reducible first | exact HB.out | apply below_alloc | apply pw_below_drewN | apply below_drew1 | refine below_set ?_ GE268.out) | exact HB.out)⟩
      · replace c19 := Bool.eq_false_iff.mpr c19
        subst c19
        have H1 : (some false) = some r := by rw [if_neg (show ¬ (false = true) by decide)] at H; exact H
        clear H
        have H := H1
        clear H1
        obtain rfl := Option.some.inj H
        go_enter Try.func89, Try.ntmps89
        go_wp2_with (first | ((with_reducible refine gate_dst (N := 1) rfl ?_); (try (refine gate_guard (by rfl) ?_; dsimp only)); refine box_event ?hg (N := 1) ?hd (cs := #[.int .i64 a0_0, .string a0_1, .string a0_2, .int .i64 a0_3, .int .i64 a0_4]) (t := 40) ?hr ?_; (case hd => rfl); (case hg => rfl); (case hr => first | (go_simp; done) | (go_simp; rfl)); intro gb268 hg w41 hbox hb; have n0_ := Aside0.mk (below_step (by repeat first | exact HB.out | apply below_alloc | apply pw_below_drewN | apply below_drew1) hb); have n1_ := Aside0.mk (hbox); have n2_ := Aside0.mk ((by rw [hg]; exact (below_size (by repeat first | exact HB.out | apply below_alloc | apply pw_below_drewN | apply below_drew1)) : w.heap.size ≤ gb268)); have n3_ := Aside0.mk ((by rw [hg]; exact (below_size (by repeat first | exact HB.out | apply below_alloc | apply pw_below_drewN | apply below_drew1)) : w.heap.size ≤ gb268)); clear HB; have HB := n0_; have BK268 := n1_; have GW268 := n2_; have GE268 := n3_; clear n0_ n1_ n2_ n3_; clear hb hbox hg; have hcz42_0 : ∀ i, w41.cell? ⟨gb268, i, none⟩ = _ := blk_cell BK268.out; have hfz42_0 := blk_frozen BK268.out) | ((with_reducible refine gate_dst (N := 7) rfl ?_); (try (refine gate_guard (by rfl) ?_; dsimp only)); refine Kd.R_lit (Kd.int .i64) _ 3 ?hg (N := 7) ?hd (xs := ([a0_0, a0_4] : List Int)) (inner := [.int .i64 a0_0, .int .i64 a0_4]) (ok := fun _ => True) (okp := fun _ => True) ?hr ?hp (fun _ hk => hk) trivial (Below.refl _ _) (Nat.le_refl _) (by simp) ?_; (case hd => rfl); (case hg => rfl); (case hr => first | (go_simp; done) | (go_simp; rfl)); (case hp => exact (Reps.one (show Kd.M (Kd.int .i64) _ _ _ a0_0 [.int .i64 a0_0] from rfl) (Reps.one (show Kd.M (Kd.int .i64) _ _ _ a0_4 [.int .i64 a0_4] from rfl) (Reps.none _ _)))); intro v270 w43 ho44 hb hg_ hnew_; clear hg_ hnew_; (first | rw [← Ny269.out] at ho44 | (simp only [Int.reduceToNat] at ho44; rw [← Ny269.out] at ho44)); have n0_ := Aside0.mk (Kd.R_lower ho44 (below_size (by repeat first | exact HB.out | apply below_alloc | apply pw_below_drewN | apply below_drew1 | refine below_set ?_ GE268.out))); have n1_ := Aside0.mk (blk_below (g := gb268) (o := .cells #[.int .i64 a0_0, .string a0_1, .string a0_2, .int .i64 a0_3, .int .i64 a0_4] 40 (0, 0)) (by (with_reducible repeat (first | refine blk_drewN ?_ _ | refine blk_drew ?_ | refine blk_alloc ?_ _)); exact BK268.out) hb); have n2_ := Aside0.mk (below_step (by repeat first | exact HB.out | apply below_alloc | apply pw_below_drewN | apply below_drew1 | refine below_set ?_ GE268.out) hb); clear BK268; clear HB; have HO271 := n0_; have BK268 := n1_; have HB := n2_; clear n0_ n1_ n2_; clear hb ho44; obtain ⟨Ao45, co45, eo45⟩ := Kd.R_slice HO271.out; subst eo45) | ((with_reducible refine gate_callee (f := 77) rfl ?_); refine goesL_ (some 8) rfl rfl Try.func77 (by kernel_rfl) rfl #[.slice Ao45 y269.length co45] rfl (by (try simp only [mxx]); first | done | rfl | (simp only [List.length_drop, List.length_take]; rfl)) ?_; (with_reducible refine (note_numbers.calls _ _ y269 true _ ?side1 ?side2 A2.out).mono ?_); (case side1 => repeat (first | exact (Kd.R_reads' HO271.out).2.2 | (with_reducible refine Kd.C_alloc ?_ _) | (with_reducible refine Kd.C_drewN ?_ _) | (with_reducible refine Kd.C_drew ?_))); (case side2 => exact (Kd.R_reads' HO271.out).2.1); rintro e w' ⟨rfl, ⟨nd, rfl⟩⟩; refine ⟨_, rfl, ?_⟩; have hcz46_0 : ∀ i, w43.cell? ⟨gb268, i, none⟩ = _ := blk_cell BK268.out; have hfz46_0 := blk_frozen BK268.out) | ((with_reducible refine gate_dst (N := 16) rfl ?_); (try (refine gate_guard (by rfl) ?_; dsimp only)); refine Kd.R_lit (Kd.int .i64) _ 3 ?hg (N := 16) ?hd (xs := ([a0_3] : List Int)) (inner := [.int .i64 a0_3]) (ok := fun _ => True) (okp := fun _ => True) ?hr ?hp (fun _ hk => hk) trivial (Below.refl _ _) (Nat.le_refl _) (by simp) ?_; (case hd => rfl); (case hg => rfl); (case hr => first | (go_simp; done) | (go_simp; rfl)); (case hp => exact (Reps.one (show Kd.M (Kd.int .i64) _ _ _ a0_3 [.int .i64 a0_3] from rfl) (Reps.none _ _))); intro v274 w47 ho48 hb hg_ hnew_; clear hg_ hnew_; (first | rw [← Ny273.out] at ho48 | (simp only [Int.reduceToNat] at ho48; rw [← Ny273.out] at ho48)); have n0_ := Aside0.mk (Kd.R_elder' (by (with_reducible repeat (first | apply Kd.R_alloc | apply Kd.R_drewN | apply Kd.R_drew)); exact HO271.out) (Kd.R_base ho48) hb); have n1_ := Aside0.mk (Kd.R_lower (Kd.R_new' ho48 (Kd.R_lt (by (with_reducible repeat (first | apply Kd.R_alloc | apply Kd.R_drewN | apply Kd.R_drew)); exact HO271.out))) (below_size (by repeat first | exact HB.out | apply below_alloc | apply pw_below_drewN | apply below_drew1 | refine below_set ?_ GE268.out))); have n2_ := Aside0.mk (blk_below (g := gb268) (o := .cells #[.int .i64 a0_0, .string a0_1, .string a0_2, .int .i64 a0_3, .int .i64 a0_4] 40 (0, 0)) (by (with_reducible repeat (first | refine blk_drewN ?_ _ | refine blk_drew ?_ | refine blk_alloc ?_ _)); exact BK268.out) hb); have n3_ := Aside0.mk (below_step (by repeat first | exact HB.out | apply below_alloc | apply pw_below_drewN | apply below_drew1 | refine below_set ?_ GE268.out) hb); clear HO271; clear BK268; clear HB; have HO271 := n0_; have HO275 := n1_; have BK268 := n2_; have HB := n3_; clear n0_ n1_ n2_ n3_; clear hb ho48; obtain ⟨Ao49, co49, eo49⟩ := Kd.R_slice HO275.out; subst eo49) | (go_at_call 77; (with_reducible refine (note_numbers.calls _ _ y273 false _ ?side1 ?side2 A18.out).mono ?_); (case side1 => repeat (first | exact (Kd.R_reads' HO275.out).2.2 | (with_reducible refine Kd.C_alloc ?_ _) | (with_reducible refine Kd.C_drewN ?_ _) | (with_reducible refine Kd.C_drew ?_))); (case side2 => exact (Kd.R_reads' HO275.out).2.1); rintro e w' ⟨rfl, ⟨nd, rfl⟩⟩))
        go_ret
        exact ⟨by first | rfl | (simp [errW_none, errW_some] <;> rfl) | (simp [*, errW_none, errW_some] <;> rfl), by repeat (first | (with_reducible first | exact HB.out | apply below_alloc | apply pw_below_drewN | apply below_drew1 | refine below_set ?_ GE268.out) | exact HB.out)⟩
  · replace c3 := Bool.eq_false_iff.mpr c3
    subst c3
    have H1 : (some false) = some r := by rw [if_neg (show ¬ (false = true) by decide)] at H; exact H
    clear H
    have H := H1
    clear H1
    obtain rfl := Option.some.inj H
    go_enter Try.func89, Try.ntmps89
    go_wp2_with (first | ((with_reducible refine gate_dst (N := 1) rfl ?_); (try (refine gate_guard (by rfl) ?_; dsimp only)); refine box_event ?hg (N := 1) ?hd (cs := #[.int .i64 a0_0, .string a0_1, .string a0_2, .int .i64 a0_3, .int .i64 a0_4]) (t := 40) ?hr ?_; (case hd => rfl); (case hg => rfl); (case hr => first | (go_simp; done) | (go_simp; rfl)); intro gb268 hg w50 hbox hb; have n0_ := Aside0.mk (below_step (by repeat first | exact HB.out | apply below_alloc | apply pw_below_drewN | apply below_drew1) hb); have n1_ := Aside0.mk (hbox); have n2_ := Aside0.mk ((by rw [hg]; exact (below_size (by repeat first | exact HB.out | apply below_alloc | apply pw_below_drewN | apply below_drew1)) : w.heap.size ≤ gb268)); have n3_ := Aside0.mk ((by rw [hg]; exact (below_size (by repeat first | exact HB.out | apply below_alloc | apply pw_below_drewN | apply below_drew1)) : w.heap.size ≤ gb268)); clear HB; have HB := n0_; have BK268 := n1_; have GW268 := n2_; have GE268 := n3_; clear n0_ n1_ n2_ n3_; clear hb hbox hg; have hcz51_0 : ∀ i, w50.cell? ⟨gb268, i, none⟩ = _ := blk_cell BK268.out; have hfz51_0 := blk_frozen BK268.out) | ((with_reducible refine gate_dst (N := 7) rfl ?_); (try (refine gate_guard (by rfl) ?_; dsimp only)); refine Kd.R_lit (Kd.int .i64) _ 3 ?hg (N := 7) ?hd (xs := ([a0_0, a0_4] : List Int)) (inner := [.int .i64 a0_0, .int .i64 a0_4]) (ok := fun _ => True) (okp := fun _ => True) ?hr ?hp (fun _ hk => hk) trivial (Below.refl _ _) (Nat.le_refl _) (by simp) ?_; (case hd => rfl); (case hg => rfl); (case hr => first | (go_simp; done) | (go_simp; rfl)); (case hp => exact (Reps.one (show Kd.M (Kd.int .i64) _ _ _ a0_0 [.int .i64 a0_0] from rfl) (Reps.one (show Kd.M (Kd.int .i64) _ _ _ a0_4 [.int .i64 a0_4] from rfl) (Reps.none _ _)))); intro v270 w52 ho53 hb hg_ hnew_; clear hg_ hnew_; (first | rw [← Ny269.out] at ho53 | (simp only [Int.reduceToNat] at ho53; rw [← Ny269.out] at ho53)); have n0_ := Aside0.mk (Kd.R_lower ho53 (below_size (by repeat first | exact HB.out | apply below_alloc | apply pw_below_drewN | apply below_drew1 | refine below_set ?_ GE268.out))); have n1_ := Aside0.mk (blk_below (g := gb268) (o := .cells #[.int .i64 a0_0, .string a0_1, .string a0_2, .int .i64 a0_3, .int .i64 a0_4] 40 (0, 0)) (by (with_reducible repeat (first | refine blk_drewN ?_ _ | refine blk_drew ?_ | refine blk_alloc ?_ _)); exact BK268.out) hb); have n2_ := Aside0.mk (below_step (by repeat first | exact HB.out | apply below_alloc | apply pw_below_drewN | apply below_drew1 | refine below_set ?_ GE268.out) hb); clear BK268; clear HB; have HO271 := n0_; have BK268 := n1_; have HB := n2_; clear n0_ n1_ n2_; clear hb ho53; obtain ⟨Ao54, co54, eo54⟩ := Kd.R_slice HO271.out; subst eo54) | ((with_reducible refine gate_callee (f := 77) rfl ?_); refine goesL_ (some 8) rfl rfl Try.func77 (by kernel_rfl) rfl #[.slice Ao54 y269.length co54] rfl (by (try simp only [mxx]); first | done | rfl | (simp only [List.length_drop, List.length_take]; rfl)) ?_; (with_reducible refine (note_numbers.calls _ _ y269 false _ ?side1 ?side2 A2.out).mono ?_); (case side1 => repeat (first | exact (Kd.R_reads' HO271.out).2.2 | (with_reducible refine Kd.C_alloc ?_ _) | (with_reducible refine Kd.C_drewN ?_ _) | (with_reducible refine Kd.C_drew ?_))); (case side2 => exact (Kd.R_reads' HO271.out).2.1); rintro e w' ⟨rfl, ⟨nd, rfl⟩⟩; refine ⟨_, rfl, ?_⟩))
    go_ret
    exact ⟨by first | rfl | (simp [errW_none, errW_some] <;> rfl) | (simp [*, errW_none, errW_some] <;> rfl), by repeat (first | (with_reducible first | exact HB.out | apply below_alloc | apply pw_below_drewN | apply below_drew1 | refine below_set ?_ GE268.out) | exact HB.out)⟩

/-! ### note_mayOps: function 78 -/
theorem mayOp_eq (o : S40) : note_mayOp.f o.f0 o.f1 o.f2 o.f3 o.f4 = some (opOk o) := by
  unfold note_mayOp.f note_numbers.f opOk
  have s1 : ((o.f1.size : Int) ≤ 256) ↔ o.f1.size ≤ 256 := by omega
  have s2 : ((o.f2.size : Int) ≤ 256) ↔ o.f2.size ≤ 256 := by omega
  simp only [Option.bind_some, List.all_cons, List.all_nil, Bool.and_true]
  cases numOk o.f0 <;> cases numOk o.f4 <;> cases numOk o.f3 <;> by_cases h3 : o.f3 = -1 <;> by_cases h1 : o.f1.size ≤ 256 <;> by_cases h2 : o.f2.size ≤ 256 <;> simp [h3, h1, h2, s1, s2]
theorem mayOp_C (o : S40) (w : World) : Calls Try.prog 89 #[.agg #[.int .i64 o.f0, .string o.f1, .string o.f2, .int .i64 o.f3, .int .i64 o.f4]] w fun e w' => e = .returned (.bool (opOk o)) ∧ Below w.heap.size w w' :=
  note_mayOp.calls _ _ _ _ _ _ w (mayOp_eq o)
set_option maxHeartbeats 4000000 in
set_option maxRecDepth 100000 in
theorem opOut_C (q : Nat) (o : S40) (w : World) (hq : w.cell? ⟨q, 0, none⟩ = some (.func (.func 89) #[] #[])) :
    Calls Try.prog 96 #[.agg #[.int .i64 o.f0, .string o.f1, .string o.f2, .int .i64 o.f3, .int .i64 o.f4], .pointer (some ⟨q, 0, none⟩)] w fun e w' => e = .returned (.bool (!opOk o)) ∧ Below w.heap.size w w' := by
  have hu40 := Try.underlying40
  have hq1 : (w.alloc (.cells #[.int .i64 o.f0, .string o.f1, .string o.f2, .int .i64 o.f3, .int .i64 o.f4] 40)).cell? ⟨q, 0, none⟩ = some (.func (.func 89) #[] #[]) := pw_cell_below (below_alloc (Below.refl _ _) _) hq
  clear hq
  go_enter Try.func96, Try.ntmps96
  go_wp2_with fail
  refine (mayOp_C o _).mono ?_
  rintro e1 w1 ⟨rfl, hb⟩
  have HB := Aside0.mk (below_step (below_alloc (Below.refl w.heap.size w) _) hb)
  obtain ⟨r, hr⟩ : ∃ r, opOk o = r := ⟨_, rfl⟩
  have HR := Aside0.mk hr
  rw [hr]
  clear hb hr hq1
  go_wp2; go_ret
  exact ⟨by rw [HR.out]; rfl, HB.out⟩
set_option maxHeartbeats 8000000 in
set_option maxRecDepth 100000 in
theorem index103_C (q : Nat) (A : Option Addr) (c n : Nat) (l : List S40) (w : World) (hn : l.length = n) (hC : Kd.C k40 w A n l) (hq : w.cell? ⟨q, 0, none⟩ = some (.func (.func 89) #[] #[])) :
    Calls Try.prog 103 #[.slice A n c, .func (.func 96) #[] #[.pointer (some ⟨q, 0, none⟩)]] w fun e w' => (∃ r : Int, e = .returned (.int .i64 r) ∧ decide (0 ≤ r) = !l.all opOk) ∧ Below w.heap.size w w' := by
  have hu40 := Try.underlying40
  have hm : n ≤ 9223372036854775807 := by rw [← hn]; exact Kd.C_max (hn ▸ hC)
  have HC := Aside0.mk hC
  have HN := Aside0.mk hn
  have HQ := Aside0.mk hq
  clear hC hn hq
  go_enter Try.func103, Try.ntmps103
  go_wp2
  go_loopw [5, 8] (fun v5 v8 wr => ∃ k : Nat, k ≤ n ∧ v8 = .int .i64 (k : Int) ∧ Aside0 ((l.take k).all opOk = true) ∧ Aside0 (Below w.heap.size w wr)) (fun _ v8 _ => n + 1 - (intOf v8).toNat)
  case atStart => exact ⟨0, Nat.zero_le _, rfl, ⟨by simp⟩, ⟨Below.refl _ _⟩⟩
  case round =>
    obtain ⟨k, hk, rfl, HK, HB⟩ := hrel
    by_cases hlt : k < n
    · have hd1 : decide ((k : Int) < (n : Int)) = true := decide_eq_true (by omega)
      have hd2 : decide (k < n) = true := decide_eq_true hlt
      obtain ⟨ad, rfl, f0, f1, f2, f3, f4⟩ := at_T40 HC.out (k : Int) (by omega) (by omega)
      obtain ⟨o, ho⟩ : ∃ o, rd_T40 l (k : Int) = o := ⟨_, rfl⟩
      rw [ho, Int.toNat_natCast] at f0 f1 f2 f3 f4
      have hxs : l[k]? = some o := by
        have hkl : k < l.length := by rw [HN.out]; exact hlt
        rw [List.getElem?_eq_getElem hkl, ← ho]
        simp [rd_T40, hkl]
      replace f0 := pw_cell_below HB.out f0
      replace f1 := pw_cell_below HB.out f1
      replace f2 := pw_cell_below HB.out f2
      replace f3 := pw_cell_below HB.out f3
      replace f4 := pw_cell_below HB.out f4
      have HX := Aside0.mk hxs
      obtain ⟨b, hb⟩ : ∃ b, opOk o = b := ⟨_, rfl⟩
      have HBB := Aside0.mk hb
      clear hxs hb ho
      go_wp2_with fail
      refine (opOut_C q o wr (pw_cell_below HB.out HQ.out)).mono ?_
      rintro e1 w1 ⟨rfl, hb1⟩
      have HB1 := Aside0.mk (below_step HB.out hb1)
      rw [HBB.out]
      clear f0 f1 f2 f3 f4 hb1
      cases b
      · have hall : l.all opOk = false := by
          rw [List.all_eq_false]
          exact ⟨o, List.mem_of_getElem? HX.out, by rw [HBB.out]; simp⟩
        have HALL := Aside0.mk hall
        clear hall
        go_wp2; go_ret
        exact ⟨⟨_, rfl, by rw [HALL.out]; simp⟩, HB1.out⟩
      · go_wp2
        go_roundw
        case rel =>
          refine ⟨k + 1, by omega, by go_num, ⟨?_⟩, HB1⟩
          rw [List.take_add_one, List.all_append, HK.out, HX.out]
          simp [HBB.out]
        case measure => simp [intOf]; omega
    · have hd1 : decide ((k : Int) < (n : Int)) = false := decide_eq_false (by omega)
      have hd2 : decide (k < n) = false := decide_eq_false hlt
      have HALL := Aside0.mk (show l.all opOk = true by have h := HK.out; rwa [List.take_of_length_le (by rw [HN.out]; omega)] at h)
      go_wp2; go_ret
      exact ⟨⟨_, rfl, by rw [HALL.out]; simp⟩, HB.out⟩
set_option maxHeartbeats 4000000 in
set_option maxRecDepth 100000 in
theorem contains95_C (q : Nat) (A : Option Addr) (c n : Nat) (l : List S40) (w : World) (hn : l.length = n) (hC : Kd.C k40 w A n l) (hq : w.cell? ⟨q, 0, none⟩ = some (.func (.func 89) #[] #[])) :
    Calls Try.prog 95 #[.slice A n c, .func (.func 96) #[] #[.pointer (some ⟨q, 0, none⟩)]] w fun e w' => e = .returned (.bool (!l.all opOk)) ∧ Below w.heap.size w w' := by
  have HC := Aside0.mk hC
  have HN := Aside0.mk hn
  have HQ := Aside0.mk hq
  clear hC hn hq
  go_enter Try.func95, Try.ntmps95
  go_wp2_with fail
  refine (index103_C q A c n l w HN.out HC.out HQ.out).mono ?_
  rintro e1 w1 ⟨⟨r, rfl, hr⟩, hb⟩
  have HB := Aside0.mk hb
  clear hb
  go_wp2; go_ret
  exact ⟨rfl, HB.out⟩
set_option maxHeartbeats 4000000 in
set_option maxRecDepth 100000 in
theorem all88_C (A : Option Addr) (c n : Nat) (l : List S40) (w : World) (hn : l.length = n) (hC : Kd.C k40 w A n l) :
    Calls Try.prog 88 #[.slice A n c, .int .i64 4, .func (.func 89) #[] #[]] w fun e w' => e = .returned (.bool (opsOk l)) ∧ Below w.heap.size w w' := by
  have HC := Aside0.mk hC
  have HN := Aside0.mk hn
  clear hC hn
  by_cases h4 : n ≤ 4
  · have d1 : decide ((n : Int) ≤ 4) = true := decide_eq_true (by omega)
    have HOK := Aside0.mk (show opsOk l = l.all opOk by unfold opsOk; rw [decide_eq_true (by rw [HN.out]; exact h4), Bool.and_true])
    go_enter Try.func88, Try.ntmps88
    go_wp2_with fail
    have hq : (w.alloc (.cells #[.func (.func 89) #[] #[]] 152)).cell? ⟨w.heap.size, 0, none⟩ = some (.func (.func 89) #[] #[]) := blk_cell (heap_alloc_new w _) 0
    refine (contains95_C w.heap.size A c n l _ HN.out (Kd.C_below HC.out (below_alloc (Below.refl _ _) _)) hq).mono ?_
    rintro e1 w1 ⟨rfl, hb⟩
    have HB := Aside0.mk (below_step (below_alloc (Below.refl w.heap.size w) _) hb)
    obtain ⟨r, hr⟩ : ∃ r, l.all opOk = r := ⟨_, rfl⟩
    have HR := Aside0.mk hr
    rw [hr]
    clear hb hr hq
    go_wp2; go_ret
    exact ⟨by rw [HOK.out, HR.out]; simp, HB.out⟩
  · have d1 : decide ((n : Int) ≤ 4) = false := decide_eq_false (by omega)
    have HOK := Aside0.mk (show opsOk l = false by unfold opsOk; rw [decide_eq_false (by rw [HN.out]; exact h4), Bool.and_false])
    go_enter Try.func88, Try.ntmps88
    go_wp2; go_ret
    exact ⟨by rw [HOK.out]; rfl, below_alloc (Below.refl _ _) _⟩
def note_mayOps.f (l0 : List S40) : Option Bool := some (opsOk l0)
set_option maxHeartbeats 4000000 in
set_option maxRecDepth 100000 in
theorem note_mayOps.calls (A0 : Option Addr) (c0 : Nat) (l0 : List (S40)) (r : Bool) (w : World) (hr0 : Kd.C k40 w A0 l0.length l0) (hc0 : l0.length ≤ c0) (h : note_mayOps.f l0 = some r) :
    Calls Try.prog 78 #[.slice A0 l0.length c0] w fun e w' => e = .returned (.bool r) ∧ Below w.heap.size w w' := by
  obtain rfl := Option.some.inj h
  obtain ⟨n, hn⟩ : ∃ n, l0.length = n := ⟨_, rfl⟩
  rw [hn] at hr0 hc0 ⊢
  have HC := Aside0.mk hr0
  have HN := Aside0.mk hn
  clear h hr0 hn hc0
  go_enter Try.func78, Try.ntmps78
  go_wp2_with fail
  refine (all88_C A0 c0 n l0 w HN.out HC.out).mono ?_
  rintro e1 w1 ⟨rfl, hb⟩
  obtain ⟨r, hr⟩ : ∃ r, opsOk l0 = r := ⟨_, rfl⟩
  have HR := Aside0.mk hr
  have HB := Aside0.mk hb
  rw [hr]
  clear hr hb
  go_wp2; go_ret
  exact ⟨by rw [HR.out]; rfl, HB.out⟩

end Go.Proofs.Ytdbniihjkiecbaa.PW
