/- The machine's side of functions, in one namespace: each function's call comes to what its Lean function tells. -/
import Derived.Test.YtdbniihjkiecbaaPWx0
import Derived.Test.YtdbniihjkiecbaaPWx3
namespace Go.Proofs.Ytdbniihjkiecbaa.PW
open Go.RowKit Go.Proofs.YtdbniihjkiecbaaW.PrintWords Go.Proofs.YtdbniihjkiecbaaW.PrintLast Go.Proofs.YtdbniihjkiecbaaW.PrintMore
attribute [local go_sem] max2_int min2_int max_two min_two max_three min_three max_four min_four   -- for this text's walks alone
set_option linter.unusedVariables false
set_option linter.unusedSimpArgs false

/-! ### heraldref3_EntryRight: function 63 -/
def heraldref3_EntryRight.j0 : Nat → Bool → Int → Int → Int → Int → Int → List (S40) → Option (Bool)
  | 0, _, _, _, _, _, _, _ => none
  | k + 1, x34, x108000, x108001, x108002, x108003, x108004, x108005 => if x34 = true then (some false) else (if x108002 = 1 then (if x108004 ≥ 1 then ((heraldref3_opsRight.f k x108005).bind fun t112 => (some t112)) else (some false)) else (if x108004 = 0 then (some ((x108005.length : Int) == 0)) else (some false)))
def heraldref3_EntryRight.f (k : Nat) (a0_0 : Int) (a0_1 : Int) (a0_2 : Int) (a0_3 : Int) (a0_4 : Int) (l0_5 : List (S40)) : Option (Bool) := (heraldref3_count.f a0_0).bind fun t108 => (if t108 = true then ((heraldref3_number.f a0_1).bind fun t109 => (if t109 = true then ((heraldref3_count.f a0_3).bind fun t110 => (if t110 = true then ((heraldref3_number.f a0_4).bind fun t111 => (if t111 = true then (if a0_2 < 1 then (heraldref3_EntryRight.j0 k true a0_0 a0_1 a0_2 a0_3 a0_4 l0_5) else (heraldref3_EntryRight.j0 k (decide (a0_2 > 4)) a0_0 a0_1 a0_2 a0_3 a0_4 l0_5)) else (heraldref3_EntryRight.j0 k true a0_0 a0_1 a0_2 a0_3 a0_4 l0_5))) else (heraldref3_EntryRight.j0 k true a0_0 a0_1 a0_2 a0_3 a0_4 l0_5))) else (heraldref3_EntryRight.j0 k true a0_0 a0_1 a0_2 a0_3 a0_4 l0_5))) else (heraldref3_EntryRight.j0 k true a0_0 a0_1 a0_2 a0_3 a0_4 l0_5))
set_option maxHeartbeats 8000000 in
set_option maxRecDepth 100000 in
theorem heraldref3_EntryRight.calls (k : Nat) (a0_0 : Int) (a0_1 : Int) (a0_2 : Int) (a0_3 : Int) (a0_4 : Int) (A0_5 : Option Addr) (c0_5 : Nat) (l0_5 : List (S40)) (r : Bool) (w : World) (hr0_5 : Kd.C k40 w A0_5 l0_5.length l0_5) (hc0_5 : l0_5.length ≤ c0_5) (h : heraldref3_EntryRight.f k a0_0 a0_1 a0_2 a0_3 a0_4 l0_5 = some r) :
    Calls Try.prog 63 #[.agg #[.int .i64 a0_0, .int .i64 a0_1, .int .i64 a0_2, .int .i64 a0_3, .int .i64 a0_4, .slice A0_5 l0_5.length c0_5]] w fun e w' => e = .returned (.bool r) ∧ Below w.heap.size w w' := by
  have hu24 := Try.underlying24
  have HR0_5 := Aside0.mk hr0_5
  have HC0_5 := Aside0.mk hc0_5
  clear hr0_5 hc0_5
  have HB := Aside0.mk (Below.refl w.heap.size w)
  have H : ((heraldref3_count.f a0_0).bind fun t108 => (if t108 = true then ((heraldref3_number.f a0_1).bind fun t109 => (if t109 = true then ((heraldref3_count.f a0_3).bind fun t110 => (if t110 = true then ((heraldref3_number.f a0_4).bind fun t111 => (if t111 = true then (if a0_2 < 1 then (heraldref3_EntryRight.j0 k true a0_0 a0_1 a0_2 a0_3 a0_4 l0_5) else (heraldref3_EntryRight.j0 k (decide (a0_2 > 4)) a0_0 a0_1 a0_2 a0_3 a0_4 l0_5)) else (heraldref3_EntryRight.j0 k true a0_0 a0_1 a0_2 a0_3 a0_4 l0_5))) else (heraldref3_EntryRight.j0 k true a0_0 a0_1 a0_2 a0_3 a0_4 l0_5))) else (heraldref3_EntryRight.j0 k true a0_0 a0_1 a0_2 a0_3 a0_4 l0_5))) else (heraldref3_EntryRight.j0 k true a0_0 a0_1 a0_2 a0_3 a0_4 l0_5))) = some r := h
  clear h
  have HC2 := Aside0.mk H
  clear H
  go_enter Try.func63, Try.ntmps63
  go_upto_region 1 with (first | ((with_reducible refine gate_dst (N := 1) rfl ?_); (try (refine gate_guard (by rfl) ?_; dsimp only)); refine box_event ?hg (N := 1) ?hd (cs := #[.int .i64 a0_0, .int .i64 a0_1, .int .i64 a0_2, .int .i64 a0_3, .int .i64 a0_4, .slice A0_5 l0_5.length c0_5]) (t := 24) ?hr ?_; (case hd => rfl); (case hg => rfl); (case hr => first | (go_simp; done) | (go_simp; rfl)); intro gb107 hg w3 hbox hb; have n0_ := Aside0.mk (below_step (by repeat first | exact HB.out | apply below_alloc | apply pw_below_drewN | apply below_drew1) hb); have n1_ := Aside0.mk (hbox); have n2_ := Aside0.mk ((by rw [hg]; exact (below_size (by repeat first | exact HB.out | apply below_alloc | apply pw_below_drewN | apply below_drew1)) : w.heap.size ≤ gb107)); have n3_ := Aside0.mk ((by rw [hg]; exact (below_size (by repeat first | exact HB.out | apply below_alloc | apply pw_below_drewN | apply below_drew1)) : w.heap.size ≤ gb107)); clear HB; have HB := n0_; have BK107 := n1_; have GW107 := n2_; have GE107 := n3_; clear n0_ n1_ n2_ n3_; clear hb hbox hg))
  (try simp only [Act.put, sx1, sx2, sx3])
  go_cut [34] (fun v34 wc => ∃ (kq : Nat) (x34_1 : Bool), v34 = .bool x34_1 ∧ Aside0 (heraldref3_EntryRight.j0 kq x34_1 a0_0 a0_1 a0_2 a0_3 a0_4 l0_5 = some r) ∧ Aside0 (kq ≤ k) ∧ Aside0 (wc.heap[gb107]? = some (.cells #[.int .i64 a0_0, .int .i64 a0_1, .int .i64 a0_2, .int .i64 a0_3, .int .i64 a0_4, (.slice A0_5 l0_5.length c0_5)] 24 (0, 0))) ∧ Aside0 (Below w.heap.size w wc))
  case first =>
    have H := HC2.out
    clear HC2
    replace H := Option.bind_eq_some_iff.mp H
    obtain ⟨t108, A40, H⟩ := H
    replace H : (if t108 = true then ((heraldref3_number.f a0_1).bind fun t109 => (if t109 = true then ((heraldref3_count.f a0_3).bind fun t110 => (if t110 = true then ((heraldref3_number.f a0_4).bind fun t111 => (if t111 = true then (if a0_2 < 1 then (heraldref3_EntryRight.j0 k true a0_0 a0_1 a0_2 a0_3 a0_4 l0_5) else (heraldref3_EntryRight.j0 k (decide (a0_2 > 4)) a0_0 a0_1 a0_2 a0_3 a0_4 l0_5)) else (heraldref3_EntryRight.j0 k true a0_0 a0_1 a0_2 a0_3 a0_4 l0_5))) else (heraldref3_EntryRight.j0 k true a0_0 a0_1 a0_2 a0_3 a0_4 l0_5))) else (heraldref3_EntryRight.j0 k true a0_0 a0_1 a0_2 a0_3 a0_4 l0_5))) else (heraldref3_EntryRight.j0 k true a0_0 a0_1 a0_2 a0_3 a0_4 l0_5)) = some r := H
    have A4 := Aside0.mk A40
    clear A40
    by_cases c5 : t108 = true
    · subst c5
      have H1 : ((heraldref3_number.f a0_1).bind fun t109 => (if t109 = true then ((heraldref3_count.f a0_3).bind fun t110 => (if t110 = true then ((heraldref3_number.f a0_4).bind fun t111 => (if t111 = true then (if a0_2 < 1 then (heraldref3_EntryRight.j0 k true a0_0 a0_1 a0_2 a0_3 a0_4 l0_5) else (heraldref3_EntryRight.j0 k (decide (a0_2 > 4)) a0_0 a0_1 a0_2 a0_3 a0_4 l0_5)) else (heraldref3_EntryRight.j0 k true a0_0 a0_1 a0_2 a0_3 a0_4 l0_5))) else (heraldref3_EntryRight.j0 k true a0_0 a0_1 a0_2 a0_3 a0_4 l0_5))) else (heraldref3_EntryRight.j0 k true a0_0 a0_1 a0_2 a0_3 a0_4 l0_5))) = some r := by rw [if_pos rfl] at H; exact H
      clear H
      have H := H1
      clear H1
      replace H := Option.bind_eq_some_iff.mp H
      obtain ⟨t109, A60, H⟩ := H
      replace H : (if t109 = true then ((heraldref3_count.f a0_3).bind fun t110 => (if t110 = true then ((heraldref3_number.f a0_4).bind fun t111 => (if t111 = true then (if a0_2 < 1 then (heraldref3_EntryRight.j0 k true a0_0 a0_1 a0_2 a0_3 a0_4 l0_5) else (heraldref3_EntryRight.j0 k (decide (a0_2 > 4)) a0_0 a0_1 a0_2 a0_3 a0_4 l0_5)) else (heraldref3_EntryRight.j0 k true a0_0 a0_1 a0_2 a0_3 a0_4 l0_5))) else (heraldref3_EntryRight.j0 k true a0_0 a0_1 a0_2 a0_3 a0_4 l0_5))) else (heraldref3_EntryRight.j0 k true a0_0 a0_1 a0_2 a0_3 a0_4 l0_5)) = some r := H
      have A6 := Aside0.mk A60
      clear A60
      by_cases c7 : t109 = true
      · subst c7
        have H1 : ((heraldref3_count.f a0_3).bind fun t110 => (if t110 = true then ((heraldref3_number.f a0_4).bind fun t111 => (if t111 = true then (if a0_2 < 1 then (heraldref3_EntryRight.j0 k true a0_0 a0_1 a0_2 a0_3 a0_4 l0_5) else (heraldref3_EntryRight.j0 k (decide (a0_2 > 4)) a0_0 a0_1 a0_2 a0_3 a0_4 l0_5)) else (heraldref3_EntryRight.j0 k true a0_0 a0_1 a0_2 a0_3 a0_4 l0_5))) else (heraldref3_EntryRight.j0 k true a0_0 a0_1 a0_2 a0_3 a0_4 l0_5))) = some r := by rw [if_pos rfl] at H; exact H
        clear H
        have H := H1
        clear H1
        replace H := Option.bind_eq_some_iff.mp H
        obtain ⟨t110, A80, H⟩ := H
        replace H : (if t110 = true then ((heraldref3_number.f a0_4).bind fun t111 => (if t111 = true then (if a0_2 < 1 then (heraldref3_EntryRight.j0 k true a0_0 a0_1 a0_2 a0_3 a0_4 l0_5) else (heraldref3_EntryRight.j0 k (decide (a0_2 > 4)) a0_0 a0_1 a0_2 a0_3 a0_4 l0_5)) else (heraldref3_EntryRight.j0 k true a0_0 a0_1 a0_2 a0_3 a0_4 l0_5))) else (heraldref3_EntryRight.j0 k true a0_0 a0_1 a0_2 a0_3 a0_4 l0_5)) = some r := H
        have A8 := Aside0.mk A80
        clear A80
        by_cases c9 : t110 = true
        · subst c9
          have H1 : ((heraldref3_number.f a0_4).bind fun t111 => (if t111 = true then (if a0_2 < 1 then (heraldref3_EntryRight.j0 k true a0_0 a0_1 a0_2 a0_3 a0_4 l0_5) else (heraldref3_EntryRight.j0 k (decide (a0_2 > 4)) a0_0 a0_1 a0_2 a0_3 a0_4 l0_5)) else (heraldref3_EntryRight.j0 k true a0_0 a0_1 a0_2 a0_3 a0_4 l0_5))) = some r := by rw [if_pos rfl] at H; exact H
          clear H
          have H := H1
          clear H1
          replace H := Option.bind_eq_some_iff.mp H
          obtain ⟨t111, A100, H⟩ := H
          replace H : (if t111 = true then (if a0_2 < 1 then (heraldref3_EntryRight.j0 k true a0_0 a0_1 a0_2 a0_3 a0_4 l0_5) else (heraldref3_EntryRight.j0 k (decide (a0_2 > 4)) a0_0 a0_1 a0_2 a0_3 a0_4 l0_5)) else (heraldref3_EntryRight.j0 k true a0_0 a0_1 a0_2 a0_3 a0_4 l0_5)) = some r := H
          have A10 := Aside0.mk A100
          clear A100
          by_cases c11 : t111 = true
          · subst c11
            have H1 : (if a0_2 < 1 then (heraldref3_EntryRight.j0 k true a0_0 a0_1 a0_2 a0_3 a0_4 l0_5) else (heraldref3_EntryRight.j0 k (decide (a0_2 > 4)) a0_0 a0_1 a0_2 a0_3 a0_4 l0_5)) = some r := by rw [if_pos rfl] at H; exact H
            clear H
            have H := H1
            clear H1
            by_cases c12 : a0_2 < 1
            · rw [if_pos c12] at H
              have c12b0 : decide (a0_2 < 1) = true := decide_eq_true c12
              clear c12
              (first | rw [c12b0] | (simp only [i64_w, i32_w]; rw [c12b0]) | skip)
              have H' := Aside0.mk H
              clear H
              have hcz13_0 : ∀ i, w3.cell? ⟨gb107, i, none⟩ = _ := blk_cell BK107.out
              have hfz13_0 := blk_frozen BK107.out
              go_wp2_with (first | ((with_reducible refine gate_callee (f := 72) rfl ?_); refine goesL_ (some 5) rfl rfl Try.func72 (by kernel_rfl) rfl #[.int .i64 a0_0] rfl (by (try simp only [List.map_toArray, List.map_cons, List.map_nil]); first | done | rfl | (simp only [List.length_drop, List.length_take]; rfl)) ?_; (with_reducible refine (heraldref3_count.calls a0_0 true _ A4.out).mono ?_); rintro e w' ⟨rfl, ⟨nd, rfl⟩⟩; refine ⟨_, rfl, ?_⟩) | (go_at_call 73; (with_reducible refine (heraldref3_number.calls a0_1 true _ A6.out).mono ?_); rintro e w' ⟨rfl, ⟨nd, rfl⟩⟩) | (go_at_call 72; (with_reducible refine (heraldref3_count.calls a0_3 true _ A8.out).mono ?_); rintro e w' ⟨rfl, ⟨nd, rfl⟩⟩) | (go_at_call 73; (with_reducible refine (heraldref3_number.calls a0_4 true _ A10.out).mono ?_); rintro e w' ⟨rfl, ⟨nd, rfl⟩⟩))
              go_meet
              case rel => exact ⟨_, (true), (by first | rfl | (simp; done) | (simp [*]; done)), H', ⟨by first | omega | exact Nat.le_refl _⟩, ⟨by (with_reducible repeat (first | refine blk_drewN ?_ _ | refine blk_drew ?_ | refine blk_alloc ?_ _)); exact BK107.out⟩, ⟨by repeat (first | (with_reducible first | exact HB.out | apply below_alloc | apply pw_below_drewN | apply below_drew1 | refine below_set ?_ GE107.out) | exact HB.out)⟩⟩
            · rw [if_neg c12] at H
              have c12b0 : decide (a0_2 < 1) = false := decide_eq_false c12
              clear c12
              (first | rw [c12b0] | (simp only [i64_w, i32_w]; rw [c12b0]) | skip)
              have H' := Aside0.mk H
              clear H
              have hcz14_0 : ∀ i, w3.cell? ⟨gb107, i, none⟩ = _ := blk_cell BK107.out
              have hfz14_0 := blk_frozen BK107.out
              go_wp2_with (first | ((with_reducible refine gate_callee (f := 72) rfl ?_); refine goesL_ (some 5) rfl rfl Try.func72 (by kernel_rfl) rfl #[.int .i64 a0_0] rfl (by (try simp only [List.map_toArray, List.map_cons, List.map_nil]); first | done | rfl | (simp only [List.length_drop, List.length_take]; rfl)) ?_; (with_reducible refine (heraldref3_count.calls a0_0 true _ A4.out).mono ?_); rintro e w' ⟨rfl, ⟨nd, rfl⟩⟩; refine ⟨_, rfl, ?_⟩) | (go_at_call 73; (with_reducible refine (heraldref3_number.calls a0_1 true _ A6.out).mono ?_); rintro e w' ⟨rfl, ⟨nd, rfl⟩⟩) | (go_at_call 72; (with_reducible refine (heraldref3_count.calls a0_3 true _ A8.out).mono ?_); rintro e w' ⟨rfl, ⟨nd, rfl⟩⟩) | (go_at_call 73; (with_reducible refine (heraldref3_number.calls a0_4 true _ A10.out).mono ?_); rintro e w' ⟨rfl, ⟨nd, rfl⟩⟩))
              go_meet
              case rel => exact ⟨_, (decide (a0_2 > 4)), (by first | rfl | (simp; done) | (simp [*]; done)), H', ⟨by first | omega | exact Nat.le_refl _⟩, ⟨by (with_reducible repeat (first | refine blk_drewN ?_ _ | refine blk_drew ?_ | refine blk_alloc ?_ _)); exact BK107.out⟩, ⟨by repeat (first | (with_reducible first | exact HB.out | apply below_alloc | apply pw_below_drewN | apply below_drew1 | refine below_set ?_ GE107.out) | exact HB.out)⟩⟩
          · replace c11 := Bool.eq_false_iff.mpr c11
            subst c11
            have H1 : (heraldref3_EntryRight.j0 k true a0_0 a0_1 a0_2 a0_3 a0_4 l0_5) = some r := by rw [if_neg (show ¬ (false = true) by decide)] at H; exact H
            clear H
            have H := H1
            clear H1
            have H' := Aside0.mk H
            clear H
            have hcz15_0 : ∀ i, w3.cell? ⟨gb107, i, none⟩ = _ := blk_cell BK107.out
            have hfz15_0 := blk_frozen BK107.out
            go_wp2_with (first | ((with_reducible refine gate_callee (f := 72) rfl ?_); refine goesL_ (some 5) rfl rfl Try.func72 (by kernel_rfl) rfl #[.int .i64 a0_0] rfl (by (try simp only [List.map_toArray, List.map_cons, List.map_nil]); first | done | rfl | (simp only [List.length_drop, List.length_take]; rfl)) ?_; (with_reducible refine (heraldref3_count.calls a0_0 true _ A4.out).mono ?_); rintro e w' ⟨rfl, ⟨nd, rfl⟩⟩; refine ⟨_, rfl, ?_⟩) | (go_at_call 73; (with_reducible refine (heraldref3_number.calls a0_1 true _ A6.out).mono ?_); rintro e w' ⟨rfl, ⟨nd, rfl⟩⟩) | (go_at_call 72; (with_reducible refine (heraldref3_count.calls a0_3 true _ A8.out).mono ?_); rintro e w' ⟨rfl, ⟨nd, rfl⟩⟩) | (go_at_call 73; (with_reducible refine (heraldref3_number.calls a0_4 false _ A10.out).mono ?_); rintro e w' ⟨rfl, ⟨nd, rfl⟩⟩))
            go_meet
            case rel => exact ⟨_, (true), (by first | rfl | (simp; done) | (simp [*]; done)), H', ⟨by first | omega | exact Nat.le_refl _⟩, ⟨by (with_reducible repeat (first | refine blk_drewN ?_ _ | refine blk_drew ?_ | refine blk_alloc ?_ _)); exact BK107.out⟩, ⟨by repeat (first | (with_reducible first | exact HB.out | apply below_alloc | apply pw_below_drewN | apply below_drew1 | refine below_set ?_ GE107.out) | exact HB.out)⟩⟩
        · replace c9 := Bool.eq_false_iff.mpr c9
          subst c9
          have H1 : (heraldref3_EntryRight.j0 k true a0_0 a0_1 a0_2 a0_3 a0_4 l0_5) = some r := by rw [if_neg (show ¬ (false = true) by decide)] at H; exact H
          clear H
          have H := H1
          clear H1
          have H' := Aside0.mk H
          clear H
          have hcz16_0 : ∀ i, w3.cell? ⟨gb107, i, none⟩ = _ := blk_cell BK107.out
          have hfz16_0 := blk_frozen BK107.out
          go_wp2_with (first | ((with_reducible refine gate_callee (f := 72) rfl ?_); refine goesL_ (some 5) rfl rfl Try.func72 (by kernel_rfl) rfl #[.int .i64 a0_0] rfl (by (try simp only [List.map_toArray, List.map_cons, List.map_nil]); first | done | rfl | (simp only [List.length_drop, List.length_take]; rfl)) ?_; (with_reducible refine (heraldref3_count.calls a0_0 true _ A4.out).mono ?_); rintro e w' ⟨rfl, ⟨nd, rfl⟩⟩; refine ⟨_, rfl, ?_⟩) | (go_at_call 73; (with_reducible refine (heraldref3_number.calls a0_1 true _ A6.out).mono ?_); rintro e w' ⟨rfl, ⟨nd, rfl⟩⟩) | (go_at_call 72; (with_reducible refine (heraldref3_count.calls a0_3 false _ A8.out).mono ?_); rintro e w' ⟨rfl, ⟨nd, rfl⟩⟩))
          go_meet
          case rel => exact ⟨_, (true), (by first | rfl | (simp; done) | (simp [*]; done)), H', ⟨by first | omega | exact Nat.le_refl _⟩, ⟨by (with_reducible repeat (first | refine blk_drewN ?_ _ | refine blk_drew ?_ | refine blk_alloc ?_ _)); exact BK107.out⟩, ⟨by repeat (first | (with_reducible first | exact HB.out | apply below_alloc | apply pw_below_drewN | apply below_drew1 | refine below_set ?_ GE107.out) | exact HB.out)⟩⟩
      · replace c7 := Bool.eq_false_iff.mpr c7
        subst c7
        have H1 : (heraldref3_EntryRight.j0 k true a0_0 a0_1 a0_2 a0_3 a0_4 l0_5) = some r := by rw [if_neg (show ¬ (false = true) by decide)] at H; exact H
        clear H
        have H := H1
        clear H1
        have H' := Aside0.mk H
        clear H
        have hcz17_0 : ∀ i, w3.cell? ⟨gb107, i, none⟩ = _ := blk_cell BK107.out
        have hfz17_0 := blk_frozen BK107.out
        go_wp2_with (first | ((with_reducible refine gate_callee (f := 72) rfl ?_); refine goesL_ (some 5) rfl rfl Try.func72 (by kernel_rfl) rfl #[.int .i64 a0_0] rfl (by (try simp only [List.map_toArray, List.map_cons, List.map_nil]); first | done | rfl | (simp only [List.length_drop, List.length_take]; rfl)) ?_; (with_reducible refine (heraldref3_count.calls a0_0 true _ A4.out).mono ?_); rintro e w' ⟨rfl, ⟨nd, rfl⟩⟩; refine ⟨_, rfl, ?_⟩) | (go_at_call 73; (with_reducible refine (heraldref3_number.calls a0_1 false _ A6.out).mono ?_); rintro e w' ⟨rfl, ⟨nd, rfl⟩⟩))
        go_meet
        case rel => exact ⟨_, (true), (by first | rfl | (simp; done) | (simp [*]; done)), H', ⟨by first | omega | exact Nat.le_refl _⟩, ⟨by (with_reducible repeat (first | refine blk_drewN ?_ _ | refine blk_drew ?_ | refine blk_alloc ?_ _)); exact BK107.out⟩, ⟨by repeat (first | (with_reducible first | exact HB.out | apply below_alloc | apply pw_below_drewN | apply below_drew1 | refine below_set ?_ GE107.out) | exact HB.out)⟩⟩
    · replace c5 := Bool.eq_false_iff.mpr c5
      subst c5
      have H1 : (heraldref3_EntryRight.j0 k true a0_0 a0_1 a0_2 a0_3 a0_4 l0_5) = some r := by rw [if_neg (show ¬ (false = true) by decide)] at H; exact H
      clear H
      have H := H1
      clear H1
      have H' := Aside0.mk H
      clear H
      have hcz18_0 : ∀ i, w3.cell? ⟨gb107, i, none⟩ = _ := blk_cell BK107.out
      have hfz18_0 := blk_frozen BK107.out
      go_wp2_with (first | ((with_reducible refine gate_callee (f := 72) rfl ?_); refine goesL_ (some 5) rfl rfl Try.func72 (by kernel_rfl) rfl #[.int .i64 a0_0] rfl (by (try simp only [List.map_toArray, List.map_cons, List.map_nil]); first | done | rfl | (simp only [List.length_drop, List.length_take]; rfl)) ?_; (with_reducible refine (heraldref3_count.calls a0_0 false _ A4.out).mono ?_); rintro e w' ⟨rfl, ⟨nd, rfl⟩⟩; refine ⟨_, rfl, ?_⟩))
      go_meet
      case rel => exact ⟨_, (true), (by first | rfl | (simp; done) | (simp [*]; done)), H', ⟨by first | omega | exact Nat.le_refl _⟩, ⟨by (with_reducible repeat (first | refine blk_drewN ?_ _ | refine blk_drew ?_ | refine blk_alloc ?_ _)); exact BK107.out⟩, ⟨by repeat (first | (with_reducible first | exact HB.out | apply below_alloc | apply pw_below_drewN | apply below_drew1 | refine below_set ?_ GE107.out) | exact HB.out)⟩⟩
  case rest =>
    clear HC2
    try clear c1
    try clear p2
    try clear c5
    try clear c6
    try clear c7
    try clear c9
    try clear c11
    try clear c12
    try clear c12b0
    try clear hcz13_0
    try clear hcz14_0
    try clear hcz15_0
    try clear hcz16_0
    try clear hcz17_0
    try clear hcz18_0
    try clear hfz13_0
    try clear hfz14_0
    try clear hfz15_0
    try clear hfz16_0
    try clear hfz17_0
    try clear hfz18_0
    obtain ⟨kq, x34_1, rfl, HA, HJ1, BK107, HB⟩ := hcut
    cases kq with
    | zero => exact absurd HA.out (by simp [heraldref3_EntryRight.j0])
    | succ kj1 =>
      have H := HA.out
      clear HA
      simp only [heraldref3_EntryRight.j0] at H
      by_cases c19 : x34_1 = true
      · subst c19
        have H1 : (some false) = some r := by rw [if_pos rfl] at H; exact H
        clear H
        have H := H1
        clear H1
        obtain rfl := Option.some.inj H
        go_wp2
        go_ret
        exact ⟨by first | rfl | (simp [errW_none, errW_some] <;> rfl) | (simp [*, errW_none, errW_some] <;> rfl), by repeat (first | (with_reducible first | exact HB.out | apply below_alloc | apply pw_below_drewN | apply below_drew1 | refine below_set ?_ GE107.out) | exact HB.out)⟩
      · replace c19 := Bool.eq_false_iff.mpr c19
        subst c19
        have H1 : (if a0_2 = 1 then (if a0_4 ≥ 1 then ((heraldref3_opsRight.f kj1 l0_5).bind fun t112 => (some t112)) else (some false)) else (if a0_4 = 0 then (some ((l0_5.length : Int) == 0)) else (some false))) = some r := by rw [if_neg (show ¬ (false = true) by decide)] at H; exact H
        clear H
        have H := H1
        clear H1
        by_cases c20 : a0_2 = 1
        · rw [if_pos c20] at H
          have c20b0 : (a0_2 == 1) = true := beq_iff_eq.mpr c20
          have c20b1 : (a0_2 != 1) = false := bne_eq_false_iff_eq.mpr c20
          clear c20
          by_cases c21 : a0_4 ≥ 1
          · rw [if_pos c21] at H
            have c21b0 : decide (1 ≤ a0_4) = true := decide_eq_true c21
            clear c21
            replace H := Option.bind_eq_some_iff.mp H
            obtain ⟨t112, A220, H⟩ := H
            replace H : (some t112) = some r := H
            have A22 := Aside0.mk A220
            clear A220
            obtain rfl := Option.some.inj H
            have hcz23_0 : ∀ i, wc.cell? ⟨gb107, i, none⟩ = _ := blk_cell BK107.out
            have hfz23_0 := blk_frozen BK107.out
            go_wp2_with (first | (go_at_call 74; (with_reducible refine (heraldref3_opsRight.calls kj1 _ _ l0_5 t112 _ ?side1 ?side2 A22.out).mono ?_); (case side1 => repeat (first | exact (Kd.C_below HR0_5.out HB.out) | (with_reducible refine Kd.C_alloc ?_ _) | (with_reducible refine Kd.C_drewN ?_ _) | (with_reducible refine Kd.C_drew ?_))); (case side2 => exact HC0_5.out); rintro e w24 ⟨rfl, hb⟩; have n0_ := Aside0.mk (blk_below (g := gb107) (o := .cells #[.int .i64 a0_0, .int .i64 a0_1, .int .i64 a0_2, .int .i64 a0_3, .int .i64 a0_4, .slice A0_5 l0_5.length c0_5] 24 (0, 0)) (by (with_reducible repeat (first | refine blk_drewN ?_ _ | refine blk_drew ?_ | refine blk_alloc ?_ _)); exact BK107.out) hb); have n1_ := Aside0.mk (below_step (by repeat first | exact HB.out | apply below_alloc | apply pw_below_drewN | apply below_drew1 | refine below_set ?_ GE107.out) hb); clear BK107; clear HB; have BK107 := n0_; have HB := n1_; clear n0_ n1_; (try clear hb); (try clear hb2); (try clear hk); (try clear hi)))
            go_ret
            exact ⟨by first | rfl | (simp [errW_none, errW_some] <;> rfl) | (simp [*, errW_none, errW_some] <;> rfl), by repeat (first | (with_reducible first | exact HB.out | apply below_alloc | apply pw_below_drewN | apply below_drew1 | refine below_set ?_ GE107.out) | exact HB.out)⟩
          · rw [if_neg c21] at H
            have c21b0 : decide (1 ≤ a0_4) = false := decide_eq_false c21
            clear c21
            obtain rfl := Option.some.inj H
            have hcz25_0 : ∀ i, wc.cell? ⟨gb107, i, none⟩ = _ := blk_cell BK107.out
            have hfz25_0 := blk_frozen BK107.out
            go_wp2
            go_ret
            exact ⟨by first | rfl | (simp [errW_none, errW_some] <;> rfl) | (simp [*, errW_none, errW_some] <;> rfl), by repeat (first | (with_reducible first | exact HB.out | apply below_alloc | apply pw_below_drewN | apply below_drew1 | refine below_set ?_ GE107.out) | exact HB.out)⟩
        · rw [if_neg c20] at H
          have c20b0 : (a0_2 == 1) = false := beq_eq_false_iff_ne.mpr c20
          have c20b1 : (a0_2 != 1) = true := bne_iff_ne.mpr c20
          by_cases c26 : a0_4 = 0
          · rw [if_pos c26] at H
            have c26b0 : (a0_4 == 0) = true := beq_iff_eq.mpr c26
            have c26b1 : (a0_4 != 0) = false := bne_eq_false_iff_eq.mpr c26
            clear c26
            obtain rfl := Option.some.inj H
            have hcz27_0 : ∀ i, wc.cell? ⟨gb107, i, none⟩ = _ := blk_cell BK107.out
            have hfz27_0 := blk_frozen BK107.out
            go_wp2
            go_ret
            exact ⟨by first | rfl | (simp [errW_none, errW_some] <;> rfl) | (simp [*, errW_none, errW_some] <;> rfl), by repeat (first | (with_reducible first | exact HB.out | apply below_alloc | apply pw_below_drewN | apply below_drew1 | refine below_set ?_ GE107.out) | exact HB.out)⟩
          · rw [if_neg c26] at H
            have c26b0 : (a0_4 == 0) = false := beq_eq_false_iff_ne.mpr c26
            have c26b1 : (a0_4 != 0) = true := bne_iff_ne.mpr c26
            obtain rfl := Option.some.inj H
            have hcz28_0 : ∀ i, wc.cell? ⟨gb107, i, none⟩ = _ := blk_cell BK107.out
            have hfz28_0 := blk_frozen BK107.out
            go_wp2
            go_ret
            exact ⟨by first | rfl | (simp [errW_none, errW_some] <;> rfl) | (simp [*, errW_none, errW_some] <;> rfl), by repeat (first | (with_reducible first | exact HB.out | apply below_alloc | apply pw_below_drewN | apply below_drew1 | refine below_set ?_ GE107.out) | exact HB.out)⟩

end Go.Proofs.Ytdbniihjkiecbaa.PW
