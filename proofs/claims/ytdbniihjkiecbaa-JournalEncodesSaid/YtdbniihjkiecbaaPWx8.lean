/- The machine's side of functions, in one namespace: each function's call comes to what its Lean function tells. -/
import Derived.Test.YtdbniihjkiecbaaPWx0
import Derived.Test.YtdbniihjkiecbaaPWx1
import Derived.Test.YtdbniihjkiecbaaPWx3
import Derived.Test.YtdbniihjkiecbaaPWx6
import Derived.Test.YtdbniihjkiecbaaPWx7
namespace Go.Proofs.Ytdbniihjkiecbaa.PW
open Go.RowKit Go.Proofs.YtdbniihjkiecbaaW.PrintWords Go.Proofs.YtdbniihjkiecbaaW.PrintLast Go.Proofs.YtdbniihjkiecbaaW.PrintMore
attribute [local go_sem] max2_int min2_int max_two min_two max_three min_three max_four min_four   -- for this text's walks alone
set_option linter.unusedVariables false
set_option linter.unusedSimpArgs false

attribute [local go_sem high] eqA26
/-! ### heraldref7_RecordMay: function 25 -/
mutual
def heraldref7_RecordMay.j0 : Nat → Bool → Bool → Bool → Int → Int → Int → Int → Int → Int → List (S40) → Int → Int → Int → Int → Int → ByteArray → Option (Bool)
  | 0, _, _, _, _, _, _, _, _, _, _, _, _, _, _, _, _ => none
  | k + 1, x3, x4, x5, x138000, x138001, x138002, x138003, x138004, x138005, x138006, x138007, x138008, x138009, x138010, x138011, x138012 => if x138012.toList = ([] : List UInt8) then (heraldref7_RecordMay.j1 k x3 x4 x5 (x138011 == 0) x138000 x138001 x138002 x138003 x138004 x138005 x138006 x138007 x138008 x138009 x138010 x138011 x138012) else (heraldref7_RecordMay.j1 k x3 x4 x5 false x138000 x138001 x138002 x138003 x138004 x138005 x138006 x138007 x138008 x138009 x138010 x138011 x138012)
def heraldref7_RecordMay.j1 : Nat → Bool → Bool → Bool → Bool → Int → Int → Int → Int → Int → Int → List (S40) → Int → Int → Int → Int → Int → ByteArray → Option (Bool)
  | 0, _, _, _, _, _, _, _, _, _, _, _, _, _, _, _, _, _ => none
  | k + 1, x3, x4, x5, x6, x138000, x138001, x138002, x138003, x138004, x138005, x138006, x138007, x138008, x138009, x138010, x138011, x138012 => if x138000 = 1 then ((heraldref3_EncodeEntry.f x138001 x138002 x138003 x138004 x138005 x138006).bind fun bt140 => (if bt140.2 = 0 then (if x4 = true then (if x6 = true then (some (x138010 == 0)) else (some false)) else (some false)) else (some false))) else (if x138000 = 2 then ((heraldref7_ViewMay.f x138007 x138008 x138009).bind fun t144 => (if t144 = true then (if x3 = true then (if x6 = true then (some (x138010 == 0)) else (some false)) else (some false)) else (some false))) else (if x138000 = 3 then (if x5 = true then (if x3 = true then (if x6 = true then (some (x138010 == 0)) else (some false)) else (some false)) else (some false)) else (if x138000 = 4 then (if x5 = true then (if x3 = true then ((heraldref7_in.f x138010 0).bind fun t145 => (if t145 = true then ((heraldref7_in.f x138011 0).bind fun t146 => (if t146 = true then (some (decide ((x138012.size : Int) ≤ 200000))) else (some false))) else (some false))) else (some false)) else (some false)) else (if x138000 = 5 then (if x4 = true then (if x3 = true then ((heraldref7_in.f x138010 0).bind fun t147 => (if t147 = true then ((heraldref7_in.f x138011 0).bind fun t148 => (if t148 = true then (some (decide ((x138012.size : Int) ≤ 200000))) else (some false))) else (some false))) else (some false)) else (some false)) else (if x138000 = 6 then (if x4 = true then (if x3 = true then (if x6 = true then ((heraldref7_in.f x138010 0).bind fun t149 => (some t149)) else (some false)) else (some false)) else (some false)) else (some false))))))
end
def heraldref7_RecordMay.f (k : Nat) (a0_0 : Int) (a0_1 : Int) (a0_2 : Int) (a0_3 : Int) (a0_4 : Int) (a0_5 : Int) (l0_6 : List (S40)) (a0_7 : Int) (a0_8 : Int) (a0_9 : Int) (a0_10 : Int) (a0_11 : Int) (a0_12 : ByteArray) : Option (Bool) := (heraldref7_blank.f a0_1 a0_2 a0_3 a0_4 a0_5 l0_6).bind fun t138 => ((heraldref7_in.f a0_7 1).bind fun t139 => (if t139 = true then (if a0_8 = 0 then (heraldref7_RecordMay.j0 k t138 (a0_7 == 0 && (a0_8 == 0 && (a0_9 == 0))) (a0_9 == 0) a0_0 a0_1 a0_2 a0_3 a0_4 a0_5 l0_6 a0_7 a0_8 a0_9 a0_10 a0_11 a0_12) else (heraldref7_RecordMay.j0 k t138 (a0_7 == 0 && (a0_8 == 0 && (a0_9 == 0))) false a0_0 a0_1 a0_2 a0_3 a0_4 a0_5 l0_6 a0_7 a0_8 a0_9 a0_10 a0_11 a0_12)) else (heraldref7_RecordMay.j0 k t138 (a0_7 == 0 && (a0_8 == 0 && (a0_9 == 0))) false a0_0 a0_1 a0_2 a0_3 a0_4 a0_5 l0_6 a0_7 a0_8 a0_9 a0_10 a0_11 a0_12)))
set_option maxHeartbeats 8000000 in
set_option maxRecDepth 100000 in
theorem heraldref7_RecordMay.calls (k : Nat) (a0_0 : Int) (a0_1 : Int) (a0_2 : Int) (a0_3 : Int) (a0_4 : Int) (a0_5 : Int) (A0_6 : Option Addr) (c0_6 : Nat) (l0_6 : List (S40)) (a0_7 : Int) (a0_8 : Int) (a0_9 : Int) (a0_10 : Int) (a0_11 : Int) (a0_12 : ByteArray) (r : Bool) (w : World) (hr0_6 : Kd.C k40 w A0_6 l0_6.length l0_6) (hc0_6 : l0_6.length ≤ c0_6) (h : heraldref7_RecordMay.f k a0_0 a0_1 a0_2 a0_3 a0_4 a0_5 l0_6 a0_7 a0_8 a0_9 a0_10 a0_11 a0_12 = some r) :
    Calls Try.prog 25 #[.agg #[.int .i64 a0_0, .int .i64 a0_1, .int .i64 a0_2, .int .i64 a0_3, .int .i64 a0_4, .int .i64 a0_5, .slice A0_6 l0_6.length c0_6, .int .i64 a0_7, .int .i64 a0_8, .int .i64 a0_9, .int .i64 a0_10, .int .i64 a0_11, .string a0_12]] w fun e w' => e = .returned (.bool r) ∧ Below w.heap.size w w' := by
  have hu28 := Try.underlying28
  have hu24 := Try.underlying24
  have hu26 := Try.underlying26
  have HR0_6 := Aside0.mk hr0_6
  have HC0_6 := Aside0.mk hc0_6
  clear hr0_6 hc0_6
  have HB := Aside0.mk (Below.refl w.heap.size w)
  have H : ((heraldref7_blank.f a0_1 a0_2 a0_3 a0_4 a0_5 l0_6).bind fun t138 => ((heraldref7_in.f a0_7 1).bind fun t139 => (if t139 = true then (if a0_8 = 0 then (heraldref7_RecordMay.j0 k t138 (a0_7 == 0 && (a0_8 == 0 && (a0_9 == 0))) (a0_9 == 0) a0_0 a0_1 a0_2 a0_3 a0_4 a0_5 l0_6 a0_7 a0_8 a0_9 a0_10 a0_11 a0_12) else (heraldref7_RecordMay.j0 k t138 (a0_7 == 0 && (a0_8 == 0 && (a0_9 == 0))) false a0_0 a0_1 a0_2 a0_3 a0_4 a0_5 l0_6 a0_7 a0_8 a0_9 a0_10 a0_11 a0_12)) else (heraldref7_RecordMay.j0 k t138 (a0_7 == 0 && (a0_8 == 0 && (a0_9 == 0))) false a0_0 a0_1 a0_2 a0_3 a0_4 a0_5 l0_6 a0_7 a0_8 a0_9 a0_10 a0_11 a0_12)))) = some r := h
  clear h
  replace H := Option.bind_eq_some_iff.mp H
  obtain ⟨t138, A20, H⟩ := H
  replace H : ((heraldref7_in.f a0_7 1).bind fun t139 => (if t139 = true then (if a0_8 = 0 then (heraldref7_RecordMay.j0 k t138 (a0_7 == 0 && (a0_8 == 0 && (a0_9 == 0))) (a0_9 == 0) a0_0 a0_1 a0_2 a0_3 a0_4 a0_5 l0_6 a0_7 a0_8 a0_9 a0_10 a0_11 a0_12) else (heraldref7_RecordMay.j0 k t138 (a0_7 == 0 && (a0_8 == 0 && (a0_9 == 0))) false a0_0 a0_1 a0_2 a0_3 a0_4 a0_5 l0_6 a0_7 a0_8 a0_9 a0_10 a0_11 a0_12)) else (heraldref7_RecordMay.j0 k t138 (a0_7 == 0 && (a0_8 == 0 && (a0_9 == 0))) false a0_0 a0_1 a0_2 a0_3 a0_4 a0_5 l0_6 a0_7 a0_8 a0_9 a0_10 a0_11 a0_12))) = some r := H
  have A2 := Aside0.mk A20
  clear A20
  have HC3 := Aside0.mk H
  clear H
  go_enter Try.func25, Try.ntmps25
  go_upto_region 3 with (first | ((with_reducible refine gate_dst (N := 1) rfl ?_); (try (refine gate_guard (by rfl) ?_; dsimp only)); refine box_event ?hg (N := 1) ?hd (cs := #[.int .i64 a0_0, .int .i64 a0_1, .int .i64 a0_2, .int .i64 a0_3, .int .i64 a0_4, .int .i64 a0_5, .slice A0_6 l0_6.length c0_6, .int .i64 a0_7, .int .i64 a0_8, .int .i64 a0_9, .int .i64 a0_10, .int .i64 a0_11, .string a0_12]) (t := 28) ?hr ?_; (case hd => rfl); (case hg => rfl); (case hr => first | (go_simp; done) | (go_simp; rfl)); intro gb137 hg w4 hbox hb; have n0_ := Aside0.mk (below_step (by repeat first | exact HB.out | apply below_alloc | apply pw_below_drewN | apply below_drew1) hb); have n1_ := Aside0.mk (hbox); have n2_ := Aside0.mk ((by rw [hg]; exact (below_size (by repeat first | exact HB.out | apply below_alloc | apply pw_below_drewN | apply below_drew1)) : w.heap.size ≤ gb137)); have n3_ := Aside0.mk ((by rw [hg]; exact (below_size (by repeat first | exact HB.out | apply below_alloc | apply pw_below_drewN | apply below_drew1)) : w.heap.size ≤ gb137)); clear HB; have HB := n0_; have BK137 := n1_; have GW137 := n2_; have GE137 := n3_; clear n0_ n1_ n2_ n3_; clear hb hbox hg; have hcz5_0 : ∀ i, w4.cell? ⟨gb137, i, none⟩ = _ := blk_cell BK137.out; have hfz5_0 := blk_frozen BK137.out) | ((with_reducible refine gate_callee (f := 46) rfl ?_); refine goesL_ (some 12) rfl rfl Try.func46 (by kernel_rfl) rfl #[.agg #[.int .i64 a0_1, .int .i64 a0_2, .int .i64 a0_3, .int .i64 a0_4, .int .i64 a0_5, .slice A0_6 l0_6.length c0_6]] rfl (by (try simp only [List.map_toArray, List.map_cons, List.map_nil]); first | done | rfl | (simp only [List.length_drop, List.length_take]; rfl)) ?_; (with_reducible refine (heraldref7_blank.calls a0_1 a0_2 a0_3 a0_4 a0_5 _ _ l0_6 t138 _ ?side1 ?side2 A2.out).mono ?_); (case side1 => repeat (first | exact (Kd.C_below HR0_6.out HB.out) | (with_reducible refine Kd.C_alloc ?_ _) | (with_reducible refine Kd.C_drewN ?_ _) | (with_reducible refine Kd.C_drew ?_))); (case side2 => exact HC0_6.out); rintro e w6 ⟨rfl, hb⟩; refine ⟨_, rfl, ?_⟩; have n0_ := Aside0.mk (blk_below (g := gb137) (o := .cells #[.int .i64 a0_0, .int .i64 a0_1, .int .i64 a0_2, .int .i64 a0_3, .int .i64 a0_4, .int .i64 a0_5, .slice A0_6 l0_6.length c0_6, .int .i64 a0_7, .int .i64 a0_8, .int .i64 a0_9, .int .i64 a0_10, .int .i64 a0_11, .string a0_12] 28 (0, 0)) (by (with_reducible repeat (first | refine blk_drewN ?_ _ | refine blk_drew ?_ | refine blk_alloc ?_ _)); exact BK137.out) hb); have n1_ := Aside0.mk (below_step (by repeat first | exact HB.out | apply below_alloc | apply pw_below_drewN | apply below_drew1 | refine below_set ?_ GE137.out) hb); clear BK137; clear HB; have BK137 := n0_; have HB := n1_; clear n0_ n1_; (try clear hb); (try clear hb2); (try clear hk); (try clear hi); have hcz7_0 : ∀ i, w6.cell? ⟨gb137, i, none⟩ = _ := blk_cell BK137.out; have hfz7_0 := blk_frozen BK137.out))
  (try simp only [Act.put, sx1, sx2, sx3])
  obtain ⟨nv_, hnv_⟩ : ∃ nv_, nv_ = (a0_7 == 0 && (a0_8 == 0 && a0_9 == 0)) := ⟨_, rfl⟩
  have HC3_ := HC3.out
  clear HC3
  rw [← hnv_] at HC3_ ⊢
  have HC3 := Aside0.mk HC3_
  clear HC3_ hnv_
  go_cut [5] (fun v5 wc => ∃ (kq : Nat) (x5_2 : Bool), v5 = .bool x5_2 ∧ Aside0 (heraldref7_RecordMay.j0 kq t138 nv_ x5_2 a0_0 a0_1 a0_2 a0_3 a0_4 a0_5 l0_6 a0_7 a0_8 a0_9 a0_10 a0_11 a0_12 = some r) ∧ Aside0 (kq ≤ k) ∧ Aside0 (wc.heap[gb137]? = some (.cells #[.int .i64 a0_0, .int .i64 a0_1, .int .i64 a0_2, .int .i64 a0_3, .int .i64 a0_4, .int .i64 a0_5, (.slice A0_6 l0_6.length c0_6), .int .i64 a0_7, .int .i64 a0_8, .int .i64 a0_9, .int .i64 a0_10, .int .i64 a0_11, .string a0_12] 28 (0, 0))) ∧ Aside0 (Below w.heap.size w wc))
  case first =>
    have H := HC3.out
    clear HC3
    replace H := Option.bind_eq_some_iff.mp H
    obtain ⟨t139, A80, H⟩ := H
    replace H : (if t139 = true then (if a0_8 = 0 then (heraldref7_RecordMay.j0 k t138 nv_ (a0_9 == 0) a0_0 a0_1 a0_2 a0_3 a0_4 a0_5 l0_6 a0_7 a0_8 a0_9 a0_10 a0_11 a0_12) else (heraldref7_RecordMay.j0 k t138 nv_ false a0_0 a0_1 a0_2 a0_3 a0_4 a0_5 l0_6 a0_7 a0_8 a0_9 a0_10 a0_11 a0_12)) else (heraldref7_RecordMay.j0 k t138 nv_ false a0_0 a0_1 a0_2 a0_3 a0_4 a0_5 l0_6 a0_7 a0_8 a0_9 a0_10 a0_11 a0_12)) = some r := H
    have A8 := Aside0.mk A80
    clear A80
    by_cases c9 : t139 = true
    · subst c9
      have H1 : (if a0_8 = 0 then (heraldref7_RecordMay.j0 k t138 nv_ (a0_9 == 0) a0_0 a0_1 a0_2 a0_3 a0_4 a0_5 l0_6 a0_7 a0_8 a0_9 a0_10 a0_11 a0_12) else (heraldref7_RecordMay.j0 k t138 nv_ false a0_0 a0_1 a0_2 a0_3 a0_4 a0_5 l0_6 a0_7 a0_8 a0_9 a0_10 a0_11 a0_12)) = some r := by rw [if_pos rfl] at H; exact H
      clear H
      have H := H1
      clear H1
      by_cases c10 : a0_8 = 0
      · rw [if_pos c10] at H
        have c10b0 : (a0_8 == 0) = true := beq_iff_eq.mpr c10
        have c10b1 : (a0_8 != 0) = false := bne_eq_false_iff_eq.mpr c10
        clear c10
        (first | rw [c10b0] | (simp only [i64_w, i32_w]; rw [c10b0]) | skip)
        have H' := Aside0.mk H
        clear H
        have hcz11_0 : ∀ i, w6.cell? ⟨gb137, i, none⟩ = _ := blk_cell BK137.out
        have hfz11_0 := blk_frozen BK137.out
        go_wp2_with (first | ((with_reducible refine gate_callee (f := 26) rfl ?_); refine goesL_ (some 20) rfl rfl Try.func26 (by kernel_rfl) rfl #[.int .i64 a0_7, .int .i64 1] rfl (by (try simp only [List.map_toArray, List.map_cons, List.map_nil]); first | done | rfl | (simp only [List.length_drop, List.length_take]; rfl)) ?_; (with_reducible refine (heraldref7_in.calls a0_7 1 true _ A8.out).mono ?_); rintro e w' ⟨rfl, ⟨nd, rfl⟩⟩; refine ⟨_, rfl, ?_⟩))
        go_meet
        case rel => exact ⟨_, ((a0_9 == 0)), (by first | rfl | (simp; done) | (simp [*]; done)), H', ⟨by first | omega | exact Nat.le_refl _⟩, ⟨by (with_reducible repeat (first | refine blk_drewN ?_ _ | refine blk_drew ?_ | refine blk_alloc ?_ _)); exact BK137.out⟩, ⟨by repeat (first | (with_reducible first | exact HB.out | apply below_alloc | apply pw_below_drewN | apply below_drew1 | refine below_set ?_ GE137.out) | exact HB.out)⟩⟩
      · rw [if_neg c10] at H
        have c10b0 : (a0_8 == 0) = false := beq_eq_false_iff_ne.mpr c10
        have c10b1 : (a0_8 != 0) = true := bne_iff_ne.mpr c10
        (first | rw [c10b0] | (simp only [i64_w, i32_w]; rw [c10b0]) | skip)
        have H' := Aside0.mk H
        clear H
        have hcz12_0 : ∀ i, w6.cell? ⟨gb137, i, none⟩ = _ := blk_cell BK137.out
        have hfz12_0 := blk_frozen BK137.out
        go_wp2_with (first | ((with_reducible refine gate_callee (f := 26) rfl ?_); refine goesL_ (some 20) rfl rfl Try.func26 (by kernel_rfl) rfl #[.int .i64 a0_7, .int .i64 1] rfl (by (try simp only [List.map_toArray, List.map_cons, List.map_nil]); first | done | rfl | (simp only [List.length_drop, List.length_take]; rfl)) ?_; (with_reducible refine (heraldref7_in.calls a0_7 1 true _ A8.out).mono ?_); rintro e w' ⟨rfl, ⟨nd, rfl⟩⟩; refine ⟨_, rfl, ?_⟩))
        go_meet
        case rel => exact ⟨_, (false), (by first | rfl | (simp; done) | (simp [*]; done)), H', ⟨by first | omega | exact Nat.le_refl _⟩, ⟨by (with_reducible repeat (first | refine blk_drewN ?_ _ | refine blk_drew ?_ | refine blk_alloc ?_ _)); exact BK137.out⟩, ⟨by repeat (first | (with_reducible first | exact HB.out | apply below_alloc | apply pw_below_drewN | apply below_drew1 | refine below_set ?_ GE137.out) | exact HB.out)⟩⟩
    · replace c9 := Bool.eq_false_iff.mpr c9
      subst c9
      have H1 : (heraldref7_RecordMay.j0 k t138 nv_ false a0_0 a0_1 a0_2 a0_3 a0_4 a0_5 l0_6 a0_7 a0_8 a0_9 a0_10 a0_11 a0_12) = some r := by rw [if_neg (show ¬ (false = true) by decide)] at H; exact H
      clear H
      have H := H1
      clear H1
      have H' := Aside0.mk H
      clear H
      have hcz13_0 : ∀ i, w6.cell? ⟨gb137, i, none⟩ = _ := blk_cell BK137.out
      have hfz13_0 := blk_frozen BK137.out
      go_wp2_with (first | ((with_reducible refine gate_callee (f := 26) rfl ?_); refine goesL_ (some 20) rfl rfl Try.func26 (by kernel_rfl) rfl #[.int .i64 a0_7, .int .i64 1] rfl (by (try simp only [List.map_toArray, List.map_cons, List.map_nil]); first | done | rfl | (simp only [List.length_drop, List.length_take]; rfl)) ?_; (with_reducible refine (heraldref7_in.calls a0_7 1 false _ A8.out).mono ?_); rintro e w' ⟨rfl, ⟨nd, rfl⟩⟩; refine ⟨_, rfl, ?_⟩))
      go_meet
      case rel => exact ⟨_, (false), (by first | rfl | (simp; done) | (simp [*]; done)), H', ⟨by first | omega | exact Nat.le_refl _⟩, ⟨by (with_reducible repeat (first | refine blk_drewN ?_ _ | refine blk_drew ?_ | refine blk_alloc ?_ _)); exact BK137.out⟩, ⟨by repeat (first | (with_reducible first | exact HB.out | apply below_alloc | apply pw_below_drewN | apply below_drew1 | refine below_set ?_ GE137.out) | exact HB.out)⟩⟩
  case rest =>
    clear HC3
    try clear c1
    try clear c2
    try clear p2
    try clear c4
    try clear c9
    try clear c10
    try clear c10b0
    try clear c10b1
    try clear hcz11_0
    try clear hcz12_0
    try clear hcz13_0
    try clear hcz5_0
    try clear hcz7_0
    try clear hfz11_0
    try clear hfz12_0
    try clear hfz13_0
    try clear hfz5_0
    try clear hfz7_0
    obtain ⟨kq, x5_2, rfl, HA, HJ2, BK137, HB⟩ := hcut
    cases kq with
    | zero => exact absurd HA.out (by simp [heraldref7_RecordMay.j0])
    | succ kj2 =>
      have H := HA.out
      clear HA
      simp only [heraldref7_RecordMay.j0] at H
      have HC14 := Aside0.mk H
      clear H
      go_upto_region 4 with (fail)
      go_cut [6] (fun v6 wc => ∃ (kq : Nat) (x6_13 : Bool), v6 = .bool x6_13 ∧ Aside0 (heraldref7_RecordMay.j1 kq t138 nv_ x5_2 x6_13 a0_0 a0_1 a0_2 a0_3 a0_4 a0_5 l0_6 a0_7 a0_8 a0_9 a0_10 a0_11 a0_12 = some r) ∧ Aside0 (kq ≤ kj2) ∧ Aside0 (wc.heap[gb137]? = some (.cells #[.int .i64 a0_0, .int .i64 a0_1, .int .i64 a0_2, .int .i64 a0_3, .int .i64 a0_4, .int .i64 a0_5, (.slice A0_6 l0_6.length c0_6), .int .i64 a0_7, .int .i64 a0_8, .int .i64 a0_9, .int .i64 a0_10, .int .i64 a0_11, .string a0_12] 28 (0, 0))) ∧ Aside0 (Below w.heap.size w wc))
      case first =>
        have H := HC14.out
        clear HC14
        by_cases c15 : a0_12.toList = ([] : List UInt8)
        · rw [if_pos c15] at H
          have c15b0 : (a0_12.toList == ([] : List UInt8)) = true := beq_iff_eq.mpr c15
          have c15b1 : (a0_12.toList != ([] : List UInt8)) = false := bne_eq_false_iff_eq.mpr c15
          clear c15
          (first | rw [c15b0] | (simp only [i64_w, i32_w]; rw [c15b0]) | skip)
          have H' := Aside0.mk H
          clear H
          have hcz16_0 : ∀ i, wc.cell? ⟨gb137, i, none⟩ = _ := blk_cell BK137.out
          have hfz16_0 := blk_frozen BK137.out
          go_wp2
          go_meet
          case rel => exact ⟨_, ((a0_11 == 0)), (by first | rfl | (simp; done) | (simp [*]; done)), H', ⟨by have := HJ2.out; first | omega | exact Nat.le_refl _⟩, ⟨by (with_reducible repeat (first | refine blk_drewN ?_ _ | refine blk_drew ?_ | refine blk_alloc ?_ _)); exact BK137.out⟩, ⟨by repeat (first | (with_reducible first | exact HB.out | apply below_alloc | apply pw_below_drewN | apply below_drew1 | refine below_set ?_ GE137.out) | exact HB.out)⟩⟩
        · rw [if_neg c15] at H
          have c15b0 : (a0_12.toList == ([] : List UInt8)) = false := beq_eq_false_iff_ne.mpr c15
          have c15b1 : (a0_12.toList != ([] : List UInt8)) = true := bne_iff_ne.mpr c15
          (first | rw [c15b0] | (simp only [i64_w, i32_w]; rw [c15b0]) | skip)
          have H' := Aside0.mk H
          clear H
          have hcz17_0 : ∀ i, wc.cell? ⟨gb137, i, none⟩ = _ := blk_cell BK137.out
          have hfz17_0 := blk_frozen BK137.out
          go_wp2
          go_meet
          case rel => exact ⟨_, (false), (by first | rfl | (simp; done) | (simp [*]; done)), H', ⟨by have := HJ2.out; first | omega | exact Nat.le_refl _⟩, ⟨by (with_reducible repeat (first | refine blk_drewN ?_ _ | refine blk_drew ?_ | refine blk_alloc ?_ _)); exact BK137.out⟩, ⟨by repeat (first | (with_reducible first | exact HB.out | apply below_alloc | apply pw_below_drewN | apply below_drew1 | refine below_set ?_ GE137.out) | exact HB.out)⟩⟩
      case rest =>
        clear HC14
        try clear c1
        try clear c2
        try clear p2
        try clear c4
        try clear c9
        try clear c10
        try clear c10b0
        try clear c10b1
        try clear c15
        try clear c15b0
        try clear c15b1
        try clear hcz11_0
        try clear hcz12_0
        try clear hcz13_0
        try clear hcz16_0
        try clear hcz17_0
        try clear hcz5_0
        try clear hcz7_0
        try clear hfz11_0
        try clear hfz12_0
        try clear hfz13_0
        try clear hfz16_0
        try clear hfz17_0
        try clear hfz5_0
        try clear hfz7_0
        try clear p2
        obtain ⟨kq, x6_13, rfl, HA, HJ13, BK137, HB⟩ := hcut
        cases kq with
        | zero => exact absurd HA.out (by simp [heraldref7_RecordMay.j1])
        | succ kj13 =>
          have H := HA.out
          clear HA
          simp only [heraldref7_RecordMay.j1] at H
          by_cases c18 : a0_0 = 1
          · rw [if_pos c18] at H
            have c18b0 : (a0_0 == 1) = true := beq_iff_eq.mpr c18
            have c18b1 : (a0_0 != 1) = false := bne_eq_false_iff_eq.mpr c18
            clear c18
            replace H := Option.bind_eq_some_iff.mp H
            obtain ⟨⟨t140, t143⟩, A190, H⟩ := H
            replace H : (if t143 = 0 then (if nv_ = true then (if x6_13 = true then (some (a0_10 == 0)) else (some false)) else (some false)) else (some false)) = some r := H
            have A19 := Aside0.mk A190
            clear A190
            by_cases c20 : t143 = 0
            · rw [if_pos c20] at H
              have c20b0 : (t143 == 0) = true := beq_iff_eq.mpr c20
              have c20b1 : (t143 != 0) = false := bne_eq_false_iff_eq.mpr c20
              clear c20
              by_cases c21 : nv_ = true
              · rw [if_pos c21] at H
                have c21b0 : nv_ = true := c21
                (try (have c21b1 : decide (a0_7 = 0 && (a0_8 == 0 && (a0_9 == 0))) = true := by simpa using c21))
                (try (have c21b2 : nv_ = true := by simpa using c21))
                clear c21
                by_cases c22 : x6_13 = true
                · subst c22
                  have H1 : (some (a0_10 == 0)) = some r := by rw [if_pos rfl] at H; exact H
                  clear H
                  have H := H1
                  clear H1
                  obtain rfl := Option.some.inj H
                  have hcz23_0 : ∀ i, wc.cell? ⟨gb137, i, none⟩ = _ := blk_cell BK137.out
                  have hfz23_0 := blk_frozen BK137.out
                  go_wp2_with (first | ((with_reducible refine gate_callee (f := 47) rfl ?_); refine goesL_ (some 48) rfl rfl Try.func47 (by kernel_rfl) rfl #[.agg #[.int .i64 a0_1, .int .i64 a0_2, .int .i64 a0_3, .int .i64 a0_4, .int .i64 a0_5, .slice A0_6 l0_6.length c0_6]] rfl (by (try simp only [List.map_toArray, List.map_cons, List.map_nil]); first | done | rfl | (simp only [List.length_drop, List.length_take]; rfl)) ?_; (with_reducible refine (heraldref3_EncodeEntry.calls a0_1 a0_2 a0_3 a0_4 a0_5 _ _ l0_6 t140 t143 _ ?side1 ?side2 A19.out).mono ?_); (case side1 => repeat (first | exact (Kd.C_below HR0_6.out HB.out) | (with_reducible refine Kd.C_alloc ?_ _) | (with_reducible refine Kd.C_drewN ?_ _) | (with_reducible refine Kd.C_drew ?_))); (case side2 => exact HC0_6.out); rintro e w24 ⟨v141, rfl, ho0, hb⟩; refine ⟨_, rfl, ?_⟩; have n0_ := Aside0.mk (Kd.R_lower ho0 (below_size (by repeat first | exact HB.out | apply below_alloc | apply pw_below_drewN | apply below_drew1 | refine below_set ?_ GE137.out))); have n1_ := Aside0.mk (blk_below (g := gb137) (o := .cells #[.int .i64 a0_0, .int .i64 a0_1, .int .i64 a0_2, .int .i64 a0_3, .int .i64 a0_4, .int .i64 a0_5, .slice A0_6 l0_6.length c0_6, .int .i64 a0_7, .int .i64 a0_8, .int .i64 a0_9, .int .i64 a0_10, .int .i64 a0_11, .string a0_12] 28 (0, 0)) (by (with_reducible repeat (first | refine blk_drewN ?_ _ | refine blk_drew ?_ | refine blk_alloc ?_ _)); exact BK137.out) hb); have n2_ := Aside0.mk (below_step (by repeat first | exact HB.out | apply below_alloc | apply pw_below_drewN | apply below_drew1 | refine below_set ?_ GE137.out) hb); clear BK137; clear HB; have HO142 := n0_; have BK137 := n1_; have HB := n2_; clear n0_ n1_ n2_; (try clear hb); (try clear hb2); (try clear hk); (try clear hi); (try clear ho0); have hcz25_0 : ∀ i, w24.cell? ⟨gb137, i, none⟩ = _ := blk_cell BK137.out; have hfz25_0 := blk_frozen BK137.out))
                  go_ret
                  exact ⟨by first | rfl | (simp [errW_none, errW_some] <;> rfl) | (simp [*, errW_none, errW_some] <;> rfl), by repeat (first | (with_reducible first | exact HB.out | apply below_alloc | apply pw_below_drewN | apply below_drew1 | refine below_set ?_ GE137.out) | exact HB.out)⟩
                · replace c22 := Bool.eq_false_iff.mpr c22
                  subst c22
                  have H1 : (some false) = some r := by rw [if_neg (show ¬ (false = true) by decide)] at H; exact H
                  clear H
                  have H := H1
                  clear H1
                  obtain rfl := Option.some.inj H
                  have hcz26_0 : ∀ i, wc.cell? ⟨gb137, i, none⟩ = _ := blk_cell BK137.out
                  have hfz26_0 := blk_frozen BK137.out
                  go_wp2_with (first | ((with_reducible refine gate_callee (f := 47) rfl ?_); refine goesL_ (some 48) rfl rfl Try.func47 (by kernel_rfl) rfl #[.agg #[.int .i64 a0_1, .int .i64 a0_2, .int .i64 a0_3, .int .i64 a0_4, .int .i64 a0_5, .slice A0_6 l0_6.length c0_6]] rfl (by (try simp only [List.map_toArray, List.map_cons, List.map_nil]); first | done | rfl | (simp only [List.length_drop, List.length_take]; rfl)) ?_; (with_reducible refine (heraldref3_EncodeEntry.calls a0_1 a0_2 a0_3 a0_4 a0_5 _ _ l0_6 t140 t143 _ ?side1 ?side2 A19.out).mono ?_); (case side1 => repeat (first | exact (Kd.C_below HR0_6.out HB.out) | (with_reducible refine Kd.C_alloc ?_ _) | (with_reducible refine Kd.C_drewN ?_ _) | (with_reducible refine Kd.C_drew ?_))); (case side2 => exact HC0_6.out); rintro e w27 ⟨v141, rfl, ho0, hb⟩; refine ⟨_, rfl, ?_⟩; have n0_ := Aside0.mk (Kd.R_lower ho0 (below_size (by repeat first | exact HB.out | apply below_alloc | apply pw_below_drewN | apply below_drew1 | refine below_set ?_ GE137.out))); have n1_ := Aside0.mk (blk_below (g := gb137) (o := .cells #[.int .i64 a0_0, .int .i64 a0_1, .int .i64 a0_2, .int .i64 a0_3, .int .i64 a0_4, .int .i64 a0_5, .slice A0_6 l0_6.length c0_6, .int .i64 a0_7, .int .i64 a0_8, .int .i64 a0_9, .int .i64 a0_10, .int .i64 a0_11, .string a0_12] 28 (0, 0)) (by (with_reducible repeat (first | refine blk_drewN ?_ _ | refine blk_drew ?_ | refine blk_alloc ?_ _)); exact BK137.out) hb); have n2_ := Aside0.mk (below_step (by repeat first | exact HB.out | apply below_alloc | apply pw_below_drewN | apply below_drew1 | refine below_set ?_ GE137.out) hb); clear BK137; clear HB; have HO142 := n0_; have BK137 := n1_; have HB := n2_; clear n0_ n1_ n2_; (try clear hb); (try clear hb2); (try clear hk); (try clear hi); (try clear ho0)))
                  go_ret
                  exact ⟨by first | rfl | (simp [errW_none, errW_some] <;> rfl) | (simp [*, errW_none, errW_some] <;> rfl), by repeat (first | (with_reducible first | exact HB.out | apply below_alloc | apply pw_below_drewN | apply below_drew1 | refine below_set ?_ GE137.out) | exact HB.out)⟩
              · rw [if_neg c21] at H
                have c21b0 : nv_ = false := by simpa using c21
                (try (have c21b1 : decide (a0_7 = 0 && (a0_8 == 0 && (a0_9 == 0))) = false := by simpa using c21))
                (try (have c21b2 : nv_ = false := by simpa using c21))
                (try (have c21b3 : ¬ (a0_7 = 0 && (a0_8 == 0 && (a0_9 == 0))) := by simpa using c21))
                clear c21
                obtain rfl := Option.some.inj H
                have hcz28_0 : ∀ i, wc.cell? ⟨gb137, i, none⟩ = _ := blk_cell BK137.out
                have hfz28_0 := blk_frozen BK137.out
                go_wp2_with (first | ((with_reducible refine gate_callee (f := 47) rfl ?_); refine goesL_ (some 48) rfl rfl Try.func47 (by kernel_rfl) rfl #[.agg #[.int .i64 a0_1, .int .i64 a0_2, .int .i64 a0_3, .int .i64 a0_4, .int .i64 a0_5, .slice A0_6 l0_6.length c0_6]] rfl (by (try simp only [List.map_toArray, List.map_cons, List.map_nil]); first | done | rfl | (simp only [List.length_drop, List.length_take]; rfl)) ?_; (with_reducible refine (heraldref3_EncodeEntry.calls a0_1 a0_2 a0_3 a0_4 a0_5 _ _ l0_6 t140 t143 _ ?side1 ?side2 A19.out).mono ?_); (case side1 => repeat (first | exact (Kd.C_below HR0_6.out HB.out) | (with_reducible refine Kd.C_alloc ?_ _) | (with_reducible refine Kd.C_drewN ?_ _) | (with_reducible refine Kd.C_drew ?_))); (case side2 => exact HC0_6.out); rintro e w29 ⟨v141, rfl, ho0, hb⟩; refine ⟨_, rfl, ?_⟩; have n0_ := Aside0.mk (Kd.R_lower ho0 (below_size (by repeat first | exact HB.out | apply below_alloc | apply pw_below_drewN | apply below_drew1 | refine below_set ?_ GE137.out))); have n1_ := Aside0.mk (blk_below (g := gb137) (o := .cells #[.int .i64 a0_0, .int .i64 a0_1, .int .i64 a0_2, .int .i64 a0_3, .int .i64 a0_4, .int .i64 a0_5, .slice A0_6 l0_6.length c0_6, .int .i64 a0_7, .int .i64 a0_8, .int .i64 a0_9, .int .i64 a0_10, .int .i64 a0_11, .string a0_12] 28 (0, 0)) (by (with_reducible repeat (first | refine blk_drewN ?_ _ | refine blk_drew ?_ | refine blk_alloc ?_ _)); exact BK137.out) hb); have n2_ := Aside0.mk (below_step (by repeat first | exact HB.out | apply below_alloc | apply pw_below_drewN | apply below_drew1 | refine below_set ?_ GE137.out) hb); clear BK137; clear HB; have HO142 := n0_; have BK137 := n1_; have HB := n2_; clear n0_ n1_ n2_; (try clear hb); (try clear hb2); (try clear hk); (try clear hi); (try clear ho0)))
                go_ret
                exact ⟨by first | rfl | (simp [errW_none, errW_some] <;> rfl) | (simp [*, errW_none, errW_some] <;> rfl), by repeat (first | (with_reducible first | exact HB.out | apply below_alloc | apply pw_below_drewN | apply below_drew1 | refine below_set ?_ GE137.out) | exact HB.out)⟩
            · rw [if_neg c20] at H
              have c20b0 : (t143 == 0) = false := beq_eq_false_iff_ne.mpr c20
              have c20b1 : (t143 != 0) = true := bne_iff_ne.mpr c20
              obtain rfl := Option.some.inj H
              have hcz30_0 : ∀ i, wc.cell? ⟨gb137, i, none⟩ = _ := blk_cell BK137.out
              have hfz30_0 := blk_frozen BK137.out
              go_wp2_with (first | ((with_reducible refine gate_callee (f := 47) rfl ?_); refine goesL_ (some 48) rfl rfl Try.func47 (by kernel_rfl) rfl #[.agg #[.int .i64 a0_1, .int .i64 a0_2, .int .i64 a0_3, .int .i64 a0_4, .int .i64 a0_5, .slice A0_6 l0_6.length c0_6]] rfl (by (try simp only [List.map_toArray, List.map_cons, List.map_nil]); first | done | rfl | (simp only [List.length_drop, List.length_take]; rfl)) ?_; (with_reducible refine (heraldref3_EncodeEntry.calls a0_1 a0_2 a0_3 a0_4 a0_5 _ _ l0_6 t140 t143 _ ?side1 ?side2 A19.out).mono ?_); (case side1 => repeat (first | exact (Kd.C_below HR0_6.out HB.out) | (with_reducible refine Kd.C_alloc ?_ _) | (with_reducible refine Kd.C_drewN ?_ _) | (with_reducible refine Kd.C_drew ?_))); (case side2 => exact HC0_6.out); rintro e w31 ⟨v141, rfl, ho0, hb⟩; refine ⟨_, rfl, ?_⟩; have n0_ := Aside0.mk (Kd.R_lower ho0 (below_size (by repeat first | exact HB.out | apply below_alloc | apply pw_below_drewN | apply below_drew1 | refine below_set ?_ GE137.out))); have n1_ := Aside0.mk (blk_below (g := gb137) (o := .cells #[.int .i64 a0_0, .int .i64 a0_1, .int .i64 a0_2, .int .i64 a0_3, .int .i64 a0_4, .int .i64 a0_5, .slice A0_6 l0_6.length c0_6, .int .i64 a0_7, .int .i64 a0_8, .int .i64 a0_9, .int .i64 a0_10, .int .i64 a0_11, .string a0_12] 28 (0, 0)) (by (with_reducible repeat (first | refine blk_drewN ?_ _ | refine blk_drew ?_ | refine blk_alloc ?_ _)); exact BK137.out) hb); have n2_ := Aside0.mk (below_step (by repeat first | exact HB.out | apply below_alloc | apply pw_below_drewN | apply below_drew1 | refine below_set ?_ GE137.out) hb); clear BK137; clear HB; have HO142 := n0_; have BK137 := n1_; have HB := n2_; clear n0_ n1_ n2_; (try clear hb); (try clear hb2); (try clear hk); (try clear hi); (try clear ho0)))
              go_ret
              exact ⟨by first | rfl | (simp [errW_none, errW_some] <;> rfl) | (simp [*, errW_none, errW_some] <;> rfl), by repeat (first | (with_reducible first | exact HB.out | apply below_alloc | apply pw_below_drewN | apply below_drew1 | refine below_set ?_ GE137.out) | exact HB.out)⟩
          · rw [if_neg c18] at H
            have c18b0 : (a0_0 == 1) = false := beq_eq_false_iff_ne.mpr c18
            have c18b1 : (a0_0 != 1) = true := bne_iff_ne.mpr c18
            by_cases c32 : a0_0 = 2
            · rw [if_pos c32] at H
              have c32b0 : (a0_0 == 2) = true := beq_iff_eq.mpr c32
              have c32b1 : (a0_0 != 2) = false := bne_eq_false_iff_eq.mpr c32
              clear c32
              replace H := Option.bind_eq_some_iff.mp H
              obtain ⟨t144, A330, H⟩ := H
              replace H : (if t144 = true then (if t138 = true then (if x6_13 = true then (some (a0_10 == 0)) else (some false)) else (some false)) else (some false)) = some r := H
              have A33 := Aside0.mk A330
              clear A330
              by_cases c34 : t144 = true
              · subst c34
                have H1 : (if t138 = true then (if x6_13 = true then (some (a0_10 == 0)) else (some false)) else (some false)) = some r := by rw [if_pos rfl] at H; exact H
                clear H
                have H := H1
                clear H1
                by_cases c35 : t138 = true
                · subst c35
                  have H1 : (if x6_13 = true then (some (a0_10 == 0)) else (some false)) = some r := by rw [if_pos rfl] at H; exact H
                  clear H
                  have H := H1
                  clear H1
                  by_cases c36 : x6_13 = true
                  · subst c36
                    have H1 : (some (a0_10 == 0)) = some r := by rw [if_pos rfl] at H; exact H
                    clear H
                    have H := H1
                    clear H1
                    obtain rfl := Option.some.inj H
                    have hcz37_0 : ∀ i, wc.cell? ⟨gb137, i, none⟩ = _ := blk_cell BK137.out
                    have hfz37_0 := blk_frozen BK137.out
                    go_wp2_with (first | ((with_reducible refine gate_callee (f := 48) rfl ?_); refine goesL_ (some 68) rfl rfl Try.func48 (by kernel_rfl) rfl #[.agg #[.int .i64 a0_7, .int .i64 a0_8, .int .i64 a0_9]] rfl (by (try simp only [List.map_toArray, List.map_cons, List.map_nil]); first | done | rfl | (simp only [List.length_drop, List.length_take]; rfl)) ?_; (with_reducible refine (heraldref7_ViewMay.calls a0_7 a0_8 a0_9 true _ A33.out).mono ?_); rintro e w38 ⟨rfl, hb⟩; refine ⟨_, rfl, ?_⟩; have n0_ := Aside0.mk (blk_below (g := gb137) (o := .cells #[.int .i64 a0_0, .int .i64 a0_1, .int .i64 a0_2, .int .i64 a0_3, .int .i64 a0_4, .int .i64 a0_5, .slice A0_6 l0_6.length c0_6, .int .i64 a0_7, .int .i64 a0_8, .int .i64 a0_9, .int .i64 a0_10, .int .i64 a0_11, .string a0_12] 28 (0, 0)) (by (with_reducible repeat (first | refine blk_drewN ?_ _ | refine blk_drew ?_ | refine blk_alloc ?_ _)); exact BK137.out) hb); have n1_ := Aside0.mk (below_step (by repeat first | exact HB.out | apply below_alloc | apply pw_below_drewN | apply below_drew1 | refine below_set ?_ GE137.out) hb); clear BK137; clear HB; have BK137 := n0_; have HB := n1_; clear n0_ n1_; (try clear hb); (try clear hb2); (try clear hk); (try clear hi); have hcz39_0 : ∀ i, w38.cell? ⟨gb137, i, none⟩ = _ := blk_cell BK137.out; have hfz39_0 := blk_frozen BK137.out))
                    go_ret
                    exact ⟨by first | rfl | (simp [errW_none, errW_some] <;> rfl) | (simp [*, errW_none, errW_some] <;> rfl), by repeat (first | (with_reducible first | exact HB.out | apply below_alloc | apply pw_below_drewN | apply below_drew1 | refine below_set ?_ GE137.out) | exact HB.out)⟩
                  · replace c36 := Bool.eq_false_iff.mpr c36
                    subst c36
                    have H1 : (some false) = some r := by rw [if_neg (show ¬ (false = true) by decide)] at H; exact H
                    clear H
                    have H := H1
                    clear H1
                    obtain rfl := Option.some.inj H
                    have hcz40_0 : ∀ i, wc.cell? ⟨gb137, i, none⟩ = _ := blk_cell BK137.out
                    have hfz40_0 := blk_frozen BK137.out
                    go_wp2_with (first | ((with_reducible refine gate_callee (f := 48) rfl ?_); refine goesL_ (some 68) rfl rfl Try.func48 (by kernel_rfl) rfl #[.agg #[.int .i64 a0_7, .int .i64 a0_8, .int .i64 a0_9]] rfl (by (try simp only [List.map_toArray, List.map_cons, List.map_nil]); first | done | rfl | (simp only [List.length_drop, List.length_take]; rfl)) ?_; (with_reducible refine (heraldref7_ViewMay.calls a0_7 a0_8 a0_9 true _ A33.out).mono ?_); rintro e w41 ⟨rfl, hb⟩; refine ⟨_, rfl, ?_⟩; have n0_ := Aside0.mk (blk_below (g := gb137) (o := .cells #[.int .i64 a0_0, .int .i64 a0_1, .int .i64 a0_2, .int .i64 a0_3, .int .i64 a0_4, .int .i64 a0_5, .slice A0_6 l0_6.length c0_6, .int .i64 a0_7, .int .i64 a0_8, .int .i64 a0_9, .int .i64 a0_10, .int .i64 a0_11, .string a0_12] 28 (0, 0)) (by (with_reducible repeat (first | refine blk_drewN ?_ _ | refine blk_drew ?_ | refine blk_alloc ?_ _)); exact BK137.out) hb); have n1_ := Aside0.mk (below_step (by repeat first | exact HB.out | apply below_alloc | apply pw_below_drewN | apply below_drew1 | refine below_set ?_ GE137.out) hb); clear BK137; clear HB; have BK137 := n0_; have HB := n1_; clear n0_ n1_; (try clear hb); (try clear hb2); (try clear hk); (try clear hi)))
                    go_ret
                    exact ⟨by first | rfl | (simp [errW_none, errW_some] <;> rfl) | (simp [*, errW_none, errW_some] <;> rfl), by repeat (first | (with_reducible first | exact HB.out | apply below_alloc | apply pw_below_drewN | apply below_drew1 | refine below_set ?_ GE137.out) | exact HB.out)⟩
                · replace c35 := Bool.eq_false_iff.mpr c35
                  subst c35
                  have H1 : (some false) = some r := by rw [if_neg (show ¬ (false = true) by decide)] at H; exact H
                  clear H
                  have H := H1
                  clear H1
                  obtain rfl := Option.some.inj H
                  have hcz42_0 : ∀ i, wc.cell? ⟨gb137, i, none⟩ = _ := blk_cell BK137.out
                  have hfz42_0 := blk_frozen BK137.out
                  go_wp2_with (first | ((with_reducible refine gate_callee (f := 48) rfl ?_); refine goesL_ (some 68) rfl rfl Try.func48 (by kernel_rfl) rfl #[.agg #[.int .i64 a0_7, .int .i64 a0_8, .int .i64 a0_9]] rfl (by (try simp only [List.map_toArray, List.map_cons, List.map_nil]); first | done | rfl | (simp only [List.length_drop, List.length_take]; rfl)) ?_; (with_reducible refine (heraldref7_ViewMay.calls a0_7 a0_8 a0_9 true _ A33.out).mono ?_); rintro e w43 ⟨rfl, hb⟩; refine ⟨_, rfl, ?_⟩; have n0_ := Aside0.mk (blk_below (g := gb137) (o := .cells #[.int .i64 a0_0, .int .i64 a0_1, .int .i64 a0_2, .int .i64 a0_3, .int .i64 a0_4, .int .i64 a0_5, .slice A0_6 l0_6.length c0_6, .int .i64 a0_7, .int .i64 a0_8, .int .i64 a0_9, .int .i64 a0_10, .int .i64 a0_11, .string a0_12] 28 (0, 0)) (by (with_reducible repeat (first | refine blk_drewN ?_ _ | refine blk_drew ?_ | refine blk_alloc ?_ _)); exact BK137.out) hb); have n1_ := Aside0.mk (below_step (by repeat first | exact HB.out | apply below_alloc | apply pw_below_drewN | apply below_drew1 | refine below_set ?_ GE137.out) hb); clear BK137; clear HB; have BK137 := n0_; have HB := n1_; clear n0_ n1_; (try clear hb); (try clear hb2); (try clear hk); (try clear hi)))
                  go_ret
                  exact ⟨by first | rfl | (simp [errW_none, errW_some] <;> rfl) | (simp [*, errW_none, errW_some] <;> rfl), by repeat (first | (with_reducible first | exact HB.out | apply below_alloc | apply pw_below_drewN | apply below_drew1 | refine below_set ?_ GE137.out) | exact HB.out)⟩
              · replace c34 := Bool.eq_false_iff.mpr c34
                subst c34
                have H1 : (some false) = some r := by rw [if_neg (show ¬ (false = true) by decide)] at H; exact H
                clear H
                have H := H1
                clear H1
                obtain rfl := Option.some.inj H
                have hcz44_0 : ∀ i, wc.cell? ⟨gb137, i, none⟩ = _ := blk_cell BK137.out
                have hfz44_0 := blk_frozen BK137.out
                go_wp2_with (first | ((with_reducible refine gate_callee (f := 48) rfl ?_); refine goesL_ (some 68) rfl rfl Try.func48 (by kernel_rfl) rfl #[.agg #[.int .i64 a0_7, .int .i64 a0_8, .int .i64 a0_9]] rfl (by (try simp only [List.map_toArray, List.map_cons, List.map_nil]); first | done | rfl | (simp only [List.length_drop, List.length_take]; rfl)) ?_; (with_reducible refine (heraldref7_ViewMay.calls a0_7 a0_8 a0_9 false _ A33.out).mono ?_); rintro e w45 ⟨rfl, hb⟩; refine ⟨_, rfl, ?_⟩; have n0_ := Aside0.mk (blk_below (g := gb137) (o := .cells #[.int .i64 a0_0, .int .i64 a0_1, .int .i64 a0_2, .int .i64 a0_3, .int .i64 a0_4, .int .i64 a0_5, .slice A0_6 l0_6.length c0_6, .int .i64 a0_7, .int .i64 a0_8, .int .i64 a0_9, .int .i64 a0_10, .int .i64 a0_11, .string a0_12] 28 (0, 0)) (by (with_reducible repeat (first | refine blk_drewN ?_ _ | refine blk_drew ?_ | refine blk_alloc ?_ _)); exact BK137.out) hb); have n1_ := Aside0.mk (below_step (by repeat first | exact HB.out | apply below_alloc | apply pw_below_drewN | apply below_drew1 | refine below_set ?_ GE137.out) hb); clear BK137; clear HB; have BK137 := n0_; have HB := n1_; clear n0_ n1_; (try clear hb); (try clear hb2); (try clear hk); (try clear hi)))
                go_ret
                exact ⟨by first | rfl | (simp [errW_none, errW_some] <;> rfl) | (simp [*, errW_none, errW_some] <;> rfl), by repeat (first | (with_reducible first | exact HB.out | apply below_alloc | apply pw_below_drewN | apply below_drew1 | refine below_set ?_ GE137.out) | exact HB.out)⟩
            · rw [if_neg c32] at H
              have c32b0 : (a0_0 == 2) = false := beq_eq_false_iff_ne.mpr c32
              have c32b1 : (a0_0 != 2) = true := bne_iff_ne.mpr c32
              by_cases c46 : a0_0 = 3
              · rw [if_pos c46] at H
                have c46b0 : (a0_0 == 3) = true := beq_iff_eq.mpr c46
                have c46b1 : (a0_0 != 3) = false := bne_eq_false_iff_eq.mpr c46
                clear c46
                by_cases c47 : x5_2 = true
                · subst c47
                  have H1 : (if t138 = true then (if x6_13 = true then (some (a0_10 == 0)) else (some false)) else (some false)) = some r := by rw [if_pos rfl] at H; exact H
                  clear H
                  have H := H1
                  clear H1
                  by_cases c48 : t138 = true
                  · subst c48
                    have H1 : (if x6_13 = true then (some (a0_10 == 0)) else (some false)) = some r := by rw [if_pos rfl] at H; exact H
                    clear H
                    have H := H1
                    clear H1
                    by_cases c49 : x6_13 = true
                    · subst c49
                      have H1 : (some (a0_10 == 0)) = some r := by rw [if_pos rfl] at H; exact H
                      clear H
                      have H := H1
                      clear H1
                      obtain rfl := Option.some.inj H
                      have hcz50_0 : ∀ i, wc.cell? ⟨gb137, i, none⟩ = _ := blk_cell BK137.out
                      have hfz50_0 := blk_frozen BK137.out
                      go_wp2
                      go_ret
                      exact ⟨by first | rfl | (simp [errW_none, errW_some] <;> rfl) | (simp [*, errW_none, errW_some] <;> rfl), by repeat (first | (with_reducible first | exact HB.out | apply below_alloc | apply pw_below_drewN | apply below_drew1 | refine below_set ?_ GE137.out) | exact HB.out)⟩
                    · replace c49 := Bool.eq_false_iff.mpr c49
                      subst c49
                      have H1 : (some false) = some r := by rw [if_neg (show ¬ (false = true) by decide)] at H; exact H
                      clear H
                      have H := H1
                      clear H1
                      obtain rfl := Option.some.inj H
                      have hcz51_0 : ∀ i, wc.cell? ⟨gb137, i, none⟩ = _ := blk_cell BK137.out
                      have hfz51_0 := blk_frozen BK137.out
                      go_wp2
                      go_ret
                      exact ⟨by first | rfl | (simp [errW_none, errW_some] <;> rfl) | (simp [*, errW_none, errW_some] <;> rfl), by repeat (first | (with_reducible first | exact HB.out | apply below_alloc | apply pw_below_drewN | apply below_drew1 | refine below_set ?_ GE137.out) | exact HB.out)⟩
                  · replace c48 := Bool.eq_false_iff.mpr c48
                    subst c48
                    have H1 : (some false) = some r := by rw [if_neg (show ¬ (false = true) by decide)] at H; exact H
                    clear H
                    have H := H1
                    clear H1
                    obtain rfl := Option.some.inj H
                    have hcz52_0 : ∀ i, wc.cell? ⟨gb137, i, none⟩ = _ := blk_cell BK137.out
                    have hfz52_0 := blk_frozen BK137.out
                    go_wp2
                    go_ret
                    exact ⟨by first | rfl | (simp [errW_none, errW_some] <;> rfl) | (simp [*, errW_none, errW_some] <;> rfl), by repeat (first | (with_reducible first | exact HB.out | apply below_alloc | apply pw_below_drewN | apply below_drew1 | refine below_set ?_ GE137.out) | exact HB.out)⟩
                · replace c47 := Bool.eq_false_iff.mpr c47
                  subst c47
                  have H1 : (some false) = some r := by rw [if_neg (show ¬ (false = true) by decide)] at H; exact H
                  clear H
                  have H := H1
                  clear H1
                  obtain rfl := Option.some.inj H
                  have hcz53_0 : ∀ i, wc.cell? ⟨gb137, i, none⟩ = _ := blk_cell BK137.out
                  have hfz53_0 := blk_frozen BK137.out
                  go_wp2
                  go_ret
                  exact ⟨by first | rfl | (simp [errW_none, errW_some] <;> rfl) | (simp [*, errW_none, errW_some] <;> rfl), by repeat (first | (with_reducible first | exact HB.out | apply below_alloc | apply pw_below_drewN | apply below_drew1 | refine below_set ?_ GE137.out) | exact HB.out)⟩
              · rw [if_neg c46] at H
                have c46b0 : (a0_0 == 3) = false := beq_eq_false_iff_ne.mpr c46
                have c46b1 : (a0_0 != 3) = true := bne_iff_ne.mpr c46
                by_cases c54 : a0_0 = 4
                · rw [if_pos c54] at H
                  have c54b0 : (a0_0 == 4) = true := beq_iff_eq.mpr c54
                  have c54b1 : (a0_0 != 4) = false := bne_eq_false_iff_eq.mpr c54
                  clear c54
                  by_cases c55 : x5_2 = true
                  · subst c55
                    have H1 : (if t138 = true then ((heraldref7_in.f a0_10 0).bind fun t145 => (if t145 = true then ((heraldref7_in.f a0_11 0).bind fun t146 => (if t146 = true then (some (decide ((a0_12.size : Int) ≤ 200000))) else (some false))) else (some false))) else (some false)) = some r := by rw [if_pos rfl] at H; exact H
                    clear H
                    have H := H1
                    clear H1
                    by_cases c56 : t138 = true
                    · subst c56
                      have H1 : ((heraldref7_in.f a0_10 0).bind fun t145 => (if t145 = true then ((heraldref7_in.f a0_11 0).bind fun t146 => (if t146 = true then (some (decide ((a0_12.size : Int) ≤ 200000))) else (some false))) else (some false))) = some r := by rw [if_pos rfl] at H; exact H
                      clear H
                      have H := H1
                      clear H1
                      replace H := Option.bind_eq_some_iff.mp H
                      obtain ⟨t145, A570, H⟩ := H
                      replace H : (if t145 = true then ((heraldref7_in.f a0_11 0).bind fun t146 => (if t146 = true then (some (decide ((a0_12.size : Int) ≤ 200000))) else (some false))) else (some false)) = some r := H
                      have A57 := Aside0.mk A570
                      clear A570
                      by_cases c58 : t145 = true
                      · subst c58
                        have H1 : ((heraldref7_in.f a0_11 0).bind fun t146 => (if t146 = true then (some (decide ((a0_12.size : Int) ≤ 200000))) else (some false))) = some r := by rw [if_pos rfl] at H; exact H
                        clear H
                        have H := H1
                        clear H1
                        replace H := Option.bind_eq_some_iff.mp H
                        obtain ⟨t146, A590, H⟩ := H
                        replace H : (if t146 = true then (some (decide ((a0_12.size : Int) ≤ 200000))) else (some false)) = some r := H
                        have A59 := Aside0.mk A590
                        clear A590
                        by_cases c60 : t146 = true
                        · subst c60
                          have H1 : (some (decide ((a0_12.size : Int) ≤ 200000))) = some r := by rw [if_pos rfl] at H; exact H
                          clear H
                          have H := H1
                          clear H1
                          obtain rfl := Option.some.inj H
                          have hcz61_0 : ∀ i, wc.cell? ⟨gb137, i, none⟩ = _ := blk_cell BK137.out
                          have hfz61_0 := blk_frozen BK137.out
                          go_wp2_with (first | (go_at_call 26; (with_reducible refine (heraldref7_in.calls a0_10 0 true _ A57.out).mono ?_); rintro e w' ⟨rfl, ⟨nd, rfl⟩⟩) | (go_at_call 26; (with_reducible refine (heraldref7_in.calls a0_11 0 true _ A59.out).mono ?_); rintro e w' ⟨rfl, ⟨nd, rfl⟩⟩))
                          go_ret
                          exact ⟨by first | rfl | (simp [errW_none, errW_some] <;> rfl) | (simp [*, errW_none, errW_some] <;> rfl), by repeat (first | (with_reducible first | exact HB.out | apply below_alloc | apply pw_below_drewN | apply below_drew1 | refine below_set ?_ GE137.out) | exact HB.out)⟩
                        · replace c60 := Bool.eq_false_iff.mpr c60
                          subst c60
                          have H1 : (some false) = some r := by rw [if_neg (show ¬ (false = true) by decide)] at H; exact H
                          clear H
                          have H := H1
                          clear H1
                          obtain rfl := Option.some.inj H
                          have hcz62_0 : ∀ i, wc.cell? ⟨gb137, i, none⟩ = _ := blk_cell BK137.out
                          have hfz62_0 := blk_frozen BK137.out
                          go_wp2_with (first | (go_at_call 26; (with_reducible refine (heraldref7_in.calls a0_10 0 true _ A57.out).mono ?_); rintro e w' ⟨rfl, ⟨nd, rfl⟩⟩) | (go_at_call 26; (with_reducible refine (heraldref7_in.calls a0_11 0 false _ A59.out).mono ?_); rintro e w' ⟨rfl, ⟨nd, rfl⟩⟩))
                          go_ret
                          exact ⟨by first | rfl | (simp [errW_none, errW_some] <;> rfl) | (simp [*, errW_none, errW_some] <;> rfl), by repeat (first | (with_reducible first | exact HB.out | apply below_alloc | apply pw_below_drewN | apply below_drew1 | refine below_set ?_ GE137.out) | exact HB.out)⟩
                      · replace c58 := Bool.eq_false_iff.mpr c58
                        subst c58
                        have H1 : (some false) = some r := by rw [if_neg (show ¬ (false = true) by decide)] at H; exact H
                        clear H
                        have H := H1
                        clear H1
                        obtain rfl := Option.some.inj H
                        have hcz63_0 : ∀ i, wc.cell? ⟨gb137, i, none⟩ = _ := blk_cell BK137.out
                        have hfz63_0 := blk_frozen BK137.out
                        go_wp2_with (first | (go_at_call 26; (with_reducible refine (heraldref7_in.calls a0_10 0 false _ A57.out).mono ?_); rintro e w' ⟨rfl, ⟨nd, rfl⟩⟩))
                        go_ret
                        exact ⟨by first | rfl | (simp [errW_none, errW_some] <;> rfl) | (simp [*, errW_none, errW_some] <;> rfl), by repeat (first | (with_reducible first | exact HB.out | apply below_alloc | apply pw_below_drewN | apply below_drew1 | refine below_set ?_ GE137.out) | exact HB.out)⟩
                    · replace c56 := Bool.eq_false_iff.mpr c56
                      subst c56
                      have H1 : (some false) = some r := by rw [if_neg (show ¬ (false = true) by decide)] at H; exact H
                      clear H
                      have H := H1
                      clear H1
                      obtain rfl := Option.some.inj H
                      have hcz64_0 : ∀ i, wc.cell? ⟨gb137, i, none⟩ = _ := blk_cell BK137.out
                      have hfz64_0 := blk_frozen BK137.out
                      go_wp2
                      go_ret
                      exact ⟨by first | rfl | (simp [errW_none, errW_some] <;> rfl) | (simp [*, errW_none, errW_some] <;> rfl), by repeat (first | (with_reducible first | exact HB.out | apply below_alloc | apply pw_below_drewN | apply below_drew1 | refine below_set ?_ GE137.out) | exact HB.out)⟩
                  · replace c55 := Bool.eq_false_iff.mpr c55
                    subst c55
                    have H1 : (some false) = some r := by rw [if_neg (show ¬ (false = true) by decide)] at H; exact H
                    clear H
                    have H := H1
                    clear H1
                    obtain rfl := Option.some.inj H
                    have hcz65_0 : ∀ i, wc.cell? ⟨gb137, i, none⟩ = _ := blk_cell BK137.out
                    have hfz65_0 := blk_frozen BK137.out
                    go_wp2
                    go_ret
                    exact ⟨by first | rfl | (simp [errW_none, errW_some] <;> rfl) | (simp [*, errW_none, errW_some] <;> rfl), by repeat (first | (with_reducible first | exact HB.out | apply below_alloc | apply pw_below_drewN | apply below_drew1 | refine below_set ?_ GE137.out) | exact HB.out)⟩
                · rw [if_neg c54] at H
                  have c54b0 : (a0_0 == 4) = false := beq_eq_false_iff_ne.mpr c54
                  have c54b1 : (a0_0 != 4) = true := bne_iff_ne.mpr c54
                  by_cases c66 : a0_0 = 5
                  · rw [if_pos c66] at H
                    have c66b0 : (a0_0 == 5) = true := beq_iff_eq.mpr c66
                    have c66b1 : (a0_0 != 5) = false := bne_eq_false_iff_eq.mpr c66
                    clear c66
                    by_cases c67 : nv_ = true
                    · rw [if_pos c67] at H
                      have c67b0 : nv_ = true := c67
                      (try (have c67b1 : decide (a0_7 = 0 && (a0_8 == 0 && (a0_9 == 0))) = true := by simpa using c67))
                      (try (have c67b2 : nv_ = true := by simpa using c67))
                      clear c67
                      by_cases c68 : t138 = true
                      · subst c68
                        have H1 : ((heraldref7_in.f a0_10 0).bind fun t147 => (if t147 = true then ((heraldref7_in.f a0_11 0).bind fun t148 => (if t148 = true then (some (decide ((a0_12.size : Int) ≤ 200000))) else (some false))) else (some false))) = some r := by rw [if_pos rfl] at H; exact H
                        clear H
                        have H := H1
                        clear H1
                        replace H := Option.bind_eq_some_iff.mp H
                        obtain ⟨t147, A690, H⟩ := H
                        replace H : (if t147 = true then ((heraldref7_in.f a0_11 0).bind fun t148 => (if t148 = true then (some (decide ((a0_12.size : Int) ≤ 200000))) else (some false))) else (some false)) = some r := H
                        have A69 := Aside0.mk A690
                        clear A690
                        by_cases c70 : t147 = true
                        · subst c70
                          have H1 : ((heraldref7_in.f a0_11 0).bind fun t148 => (if t148 = true then (some (decide ((a0_12.size : Int) ≤ 200000))) else (some false))) = some r := by rw [if_pos rfl] at H; exact H
                          clear H
                          have H := H1
                          clear H1
                          replace H := Option.bind_eq_some_iff.mp H
                          obtain ⟨t148, A710, H⟩ := H
                          replace H : (if t148 = true then (some (decide ((a0_12.size : Int) ≤ 200000))) else (some false)) = some r := H
                          have A71 := Aside0.mk A710
                          clear A710
                          by_cases c72 : t148 = true
                          · subst c72
                            have H1 : (some (decide ((a0_12.size : Int) ≤ 200000))) = some r := by rw [if_pos rfl] at H; exact H
                            clear H
                            have H := H1
                            clear H1
                            obtain rfl := Option.some.inj H
                            have hcz73_0 : ∀ i, wc.cell? ⟨gb137, i, none⟩ = _ := blk_cell BK137.out
                            have hfz73_0 := blk_frozen BK137.out
                            go_wp2_with (first | (go_at_call 26; (with_reducible refine (heraldref7_in.calls a0_10 0 true _ A69.out).mono ?_); rintro e w' ⟨rfl, ⟨nd, rfl⟩⟩) | (go_at_call 26; (with_reducible refine (heraldref7_in.calls a0_11 0 true _ A71.out).mono ?_); rintro e w' ⟨rfl, ⟨nd, rfl⟩⟩))
                            go_ret
                            exact ⟨by first | rfl | (simp [errW_none, errW_some] <;> rfl) | (simp [*, errW_none, errW_some] <;> rfl), by repeat (first | (with_reducible first | exact HB.out | apply below_alloc | apply pw_below_drewN | apply below_drew1 | refine below_set ?_ GE137.out) | exact HB.out)⟩
                          · replace c72 := Bool.eq_false_iff.mpr c72
                            subst c72
                            have H1 : (some false) = some r := by rw [if_neg (show ¬ (false = true) by decide)] at H; exact H
                            clear H
                            have H := H1
                            clear H1
                            obtain rfl := Option.some.inj H
                            have hcz74_0 : ∀ i, wc.cell? ⟨gb137, i, none⟩ = _ := blk_cell BK137.out
                            have hfz74_0 := blk_frozen BK137.out
                            go_wp2_with (first | (go_at_call 26; (with_reducible refine (heraldref7_in.calls a0_10 0 true _ A69.out).mono ?_); rintro e w' ⟨rfl, ⟨nd, rfl⟩⟩) | (go_at_call 26; (with_reducible refine (heraldref7_in.calls a0_11 0 false _ A71.out).mono ?_); rintro e w' ⟨rfl, ⟨nd, rfl⟩⟩))
                            go_ret
                            exact ⟨by first | rfl | (simp [errW_none, errW_some] <;> rfl) | (simp [*, errW_none, errW_some] <;> rfl), by repeat (first | (with_reducible first | exact HB.out | apply below_alloc | apply pw_below_drewN | apply below_drew1 | refine below_set ?_ GE137.out) | exact HB.out)⟩
                        · replace c70 := Bool.eq_false_iff.mpr c70
                          subst c70
                          have H1 : (some false) = some r := by rw [if_neg (show ¬ (false = true) by decide)] at H; exact H
                          clear H
                          have H := H1
                          clear H1
                          obtain rfl := Option.some.inj H
                          have hcz75_0 : ∀ i, wc.cell? ⟨gb137, i, none⟩ = _ := blk_cell BK137.out
                          have hfz75_0 := blk_frozen BK137.out
                          go_wp2_with (first | (go_at_call 26; (with_reducible refine (heraldref7_in.calls a0_10 0 false _ A69.out).mono ?_); rintro e w' ⟨rfl, ⟨nd, rfl⟩⟩))
                          go_ret
                          exact ⟨by first | rfl | (simp [errW_none, errW_some] <;> rfl) | (simp [*, errW_none, errW_some] <;> rfl), by repeat (first | (with_reducible first | exact HB.out | apply below_alloc | apply pw_below_drewN | apply below_drew1 | refine below_set ?_ GE137.out) | exact HB.out)⟩
                      · replace c68 := Bool.eq_false_iff.mpr c68
                        subst c68
                        have H1 : (some false) = some r := by rw [if_neg (show ¬ (false = true) by decide)] at H; exact H
                        clear H
                        have H := H1
                        clear H1
                        obtain rfl := Option.some.inj H
                        have hcz76_0 : ∀ i, wc.cell? ⟨gb137, i, none⟩ = _ := blk_cell BK137.out
                        have hfz76_0 := blk_frozen BK137.out
                        go_wp2
                        go_ret
                        exact ⟨by first | rfl | (simp [errW_none, errW_some] <;> rfl) | (simp [*, errW_none, errW_some] <;> rfl), by repeat (first | (with_reducible first | exact HB.out | apply below_alloc | apply pw_below_drewN | apply below_drew1 | refine below_set ?_ GE137.out) | exact HB.out)⟩
                    · rw [if_neg c67] at H
                      have c67b0 : nv_ = false := by simpa using c67
                      (try (have c67b1 : decide (a0_7 = 0 && (a0_8 == 0 && (a0_9 == 0))) = false := by simpa using c67))
                      (try (have c67b2 : nv_ = false := by simpa using c67))
                      (try (have c67b3 : ¬ (a0_7 = 0 && (a0_8 == 0 && (a0_9 == 0))) := by simpa using c67))
                      clear c67
                      obtain rfl := Option.some.inj H
                      have hcz77_0 : ∀ i, wc.cell? ⟨gb137, i, none⟩ = _ := blk_cell BK137.out
                      have hfz77_0 := blk_frozen BK137.out
                      go_wp2
                      go_ret
                      exact ⟨by first | rfl | (simp [errW_none, errW_some] <;> rfl) | (simp [*, errW_none, errW_some] <;> rfl), by repeat (first | (with_reducible first | exact HB.out | apply below_alloc | apply pw_below_drewN | apply below_drew1 | refine below_set ?_ GE137.out) | exact HB.out)⟩
                  · rw [if_neg c66] at H
                    have c66b0 : (a0_0 == 5) = false := beq_eq_false_iff_ne.mpr c66
                    have c66b1 : (a0_0 != 5) = true := bne_iff_ne.mpr c66
                    by_cases c78 : a0_0 = 6
                    · rw [if_pos c78] at H
                      have c78b0 : (a0_0 == 6) = true := beq_iff_eq.mpr c78
                      have c78b1 : (a0_0 != 6) = false := bne_eq_false_iff_eq.mpr c78
                      clear c78
                      by_cases c79 : nv_ = true
                      · rw [if_pos c79] at H
                        have c79b0 : nv_ = true := c79
                        (try (have c79b1 : decide (a0_7 = 0 && (a0_8 == 0 && (a0_9 == 0))) = true := by simpa using c79))
                        (try (have c79b2 : nv_ = true := by simpa using c79))
                        clear c79
                        by_cases c80 : t138 = true
                        · subst c80
                          have H1 : (if x6_13 = true then ((heraldref7_in.f a0_10 0).bind fun t149 => (some t149)) else (some false)) = some r := by rw [if_pos rfl] at H; exact H
                          clear H
                          have H := H1
                          clear H1
                          by_cases c81 : x6_13 = true
                          · subst c81
                            have H1 : ((heraldref7_in.f a0_10 0).bind fun t149 => (some t149)) = some r := by rw [if_pos rfl] at H; exact H
                            clear H
                            have H := H1
                            clear H1
                            replace H := Option.bind_eq_some_iff.mp H
                            obtain ⟨t149, A820, H⟩ := H
                            replace H : (some t149) = some r := H
                            have A82 := Aside0.mk A820
                            clear A820
                            obtain rfl := Option.some.inj H
                            have hcz83_0 : ∀ i, wc.cell? ⟨gb137, i, none⟩ = _ := blk_cell BK137.out
                            have hfz83_0 := blk_frozen BK137.out
                            go_wp2_with (first | (go_at_call 26; (with_reducible refine (heraldref7_in.calls a0_10 0 t149 _ A82.out).mono ?_); rintro e w' ⟨rfl, ⟨nd, rfl⟩⟩))
                            go_ret
                            exact ⟨by first | rfl | (simp [errW_none, errW_some] <;> rfl) | (simp [*, errW_none, errW_some] <;> rfl), by repeat (first | (with_reducible first | exact HB.out | apply below_alloc | apply pw_below_drewN | apply below_drew1 | refine below_set ?_ GE137.out) | exact HB.out)⟩
                          · replace c81 := Bool.eq_false_iff.mpr c81
                            subst c81
                            have H1 : (some false) = some r := by rw [if_neg (show ¬ (false = true) by decide)] at H; exact H
                            clear H
                            have H := H1
                            clear H1
                            obtain rfl := Option.some.inj H
                            have hcz84_0 : ∀ i, wc.cell? ⟨gb137, i, none⟩ = _ := blk_cell BK137.out
                            have hfz84_0 := blk_frozen BK137.out
                            go_wp2
                            go_ret
                            exact ⟨by first | rfl | (simp [errW_none, errW_some] <;> rfl) | (simp [*, errW_none, errW_some] <;> rfl), by repeat (first | (with_reducible first | exact HB.out | apply below_alloc | apply pw_below_drewN | apply below_drew1 | refine below_set ?_ GE137.out) | exact HB.out)⟩
                        · replace c80 := Bool.eq_false_iff.mpr c80
                          subst c80
                          have H1 : (some false) = some r := by rw [if_neg (show ¬ (false = true) by decide)] at H; exact H
                          clear H
                          have H := H1
                          clear H1
                          obtain rfl := Option.some.inj H
                          have hcz85_0 : ∀ i, wc.cell? ⟨gb137, i, none⟩ = _ := blk_cell BK137.out
                          have hfz85_0 := blk_frozen BK137.out
                          go_wp2
                          go_ret
                          exact ⟨by first | rfl | (simp [errW_none, errW_some] <;> rfl) | (simp [*, errW_none, errW_some] <;> rfl), by repeat (first | (with_reducible first | exact HB.out | apply below_alloc | apply pw_below_drewN | apply below_drew1 | refine below_set ?_ GE137.out) | exact HB.out)⟩
                      · rw [if_neg c79] at H
                        have c79b0 : nv_ = false := by simpa using c79
                        (try (have c79b1 : decide (a0_7 = 0 && (a0_8 == 0 && (a0_9 == 0))) = false := by simpa using c79))
                        (try (have c79b2 : nv_ = false := by simpa using c79))
                        (try (have c79b3 : ¬ (a0_7 = 0 && (a0_8 == 0 && (a0_9 == 0))) := by simpa using c79))
                        clear c79
                        obtain rfl := Option.some.inj H
                        have hcz86_0 : ∀ i, wc.cell? ⟨gb137, i, none⟩ = _ := blk_cell BK137.out
                        have hfz86_0 := blk_frozen BK137.out
                        go_wp2
                        go_ret
                        exact ⟨by first | rfl | (simp [errW_none, errW_some] <;> rfl) | (simp [*, errW_none, errW_some] <;> rfl), by repeat (first | (with_reducible first | exact HB.out | apply below_alloc | apply pw_below_drewN | apply below_drew1 | refine below_set ?_ GE137.out) | exact HB.out)⟩
                    · rw [if_neg c78] at H
                      have c78b0 : (a0_0 == 6) = false := beq_eq_false_iff_ne.mpr c78
                      have c78b1 : (a0_0 != 6) = true := bne_iff_ne.mpr c78
                      obtain rfl := Option.some.inj H
                      have hcz87_0 : ∀ i, wc.cell? ⟨gb137, i, none⟩ = _ := blk_cell BK137.out
                      have hfz87_0 := blk_frozen BK137.out
                      go_wp2
                      go_ret
                      exact ⟨by first | rfl | (simp [errW_none, errW_some] <;> rfl) | (simp [*, errW_none, errW_some] <;> rfl), by repeat (first | (with_reducible first | exact HB.out | apply below_alloc | apply pw_below_drewN | apply below_drew1 | refine below_set ?_ GE137.out) | exact HB.out)⟩

end Go.Proofs.Ytdbniihjkiecbaa.PW
