/- Words, contracts and walks of the law JournalSpoilt, in one text. -/
import Derived.Test.YtdbniihjkiecbaaX0
import Derived.Test.YtdbniihjkiecbaaPWx18
import Derived.Test.YtdbniihjkiecbaaPWx19
import Derived.Test.YtdbniihjkiecbaaPWx12
import Derived.Laws.Rows
namespace Go.Proofs.Ytdbniihjkiecbaa.PW
open Go.RowKit Go.Proofs.YtdbniihjkiecbaaW.PrintWords Go.Proofs.YtdbniihjkiecbaaW.PrintLast Go.Proofs.YtdbniihjkiecbaaW.PrintMore
set_option linter.unusedVariables false
set_option linter.unusedSimpArgs false
def rg31.T22 : Bool × List (List Nat × List Nat) := (true, [([], []), ([0], [0]), ([1], [1]), ([2], [2]), ([], []), ([4], [4]), ([5, 3], [5]), ([6, 6], [6]), ([7], [7]), ([7, 8], [7, 8]), ([9, 7], [9]), ([10], [10]), ([10, 11], [10, 11]), ([12, 10], [12]), ([13], [13]), ([14, 13], [13, 14]), ([13], [13]), ([15, 16, 13], [13, 15, 16]), ([13, 17], [13, 17]), ([3, 13, 0, 1, 2, 3], [3]), ([18, 19, 0, 1, 2, 3, 4, 5, 6, 7, 8, 9, 10, 11, 12, 13, 14, 15, 16, 17, 18, 19], [18])])
def rg31.B22 : List Nat := [0, 1, 3, 7, 0, 16, 63, 127, 255, 511, 1023, 2047, 4095, 8191, 16383, 32767, 16383, 131071, 262143, 16383, 1048575]
theorem rg31.tab22 : rtab .any (opsOf Try.f31 22) = rg31.T22 := by kernel_rfl
theorem rg31.bits22 : waitsOk rg31.T22.2 rg31.B22 = true := by kernel_rfl
set_option maxHeartbeats 64000000 in
set_option maxRecDepth 100000 in
theorem body_C6 (kd s v k se rq : Int) (A : Option Addr) (c n : Nat) (l : List S40) (vn vp vb st of : Int) (x : ByteArray) (w : World) (hk : kd = 6) (hn : l.length = n) (hC : Kd.C k40 w A n l) (hc : n ≤ c) (r1 : List Int) (r2 : Bool) (hr : recBody kd s v k se rq l vn vp vb st of x = (r1, r2)) :
    Calls Try.prog 31 #[.agg #[.int .i64 kd, .int .i64 s, .int .i64 v, .int .i64 k, .int .i64 se, .int .i64 rq, .slice A n c, .int .i64 vn, .int .i64 vp, .int .i64 vb, .int .i64 st, .int .i64 of, .string x]] w fun e w' => ∃ V, e = .returned (.tuple #[V, .bool r2]) ∧ R8 w' w.heap.size V r1 ∧ Below w.heap.size w w' := by
  have hu24 := Try.underlying24
  have hu26 := Try.underlying26
  have hu28 := Try.underlying28
  have HKK := Aside0.mk hk
  clear hk
  have HN := Aside0.mk hn
  have HC := Aside0.mk hC
  have HCC := Aside0.mk hc
  have HR := Aside0.mk hr
  clear hn hC hc hr
  go_enter Try.func31, Try.ntmps31
  go_upto_region 2 with (fail)
  obtain ⟨p, hp⟩ : ∃ p, p = w.heap.size := ⟨_, rfl⟩
  obtain ⟨q, hq⟩ : ∃ q, q = w.heap.size + 1 := ⟨_, rfl⟩
  obtain ⟨w1, hw1⟩ : ∃ w1, w1 = w.alloc (.cells #[.int .i64 kd, .int .i64 s, .int .i64 v, .int .i64 k, .int .i64 se, .int .i64 rq, .slice A n c, .int .i64 vn, .int .i64 vp, .int .i64 vb, .int .i64 st, .int .i64 of, .string x] 28) := ⟨_, rfl⟩
  obtain ⟨w2, hw2⟩ : ∃ w2, w2 = w1.alloc (.cells #[.int .i64 s, .int .i64 v, .int .i64 k, .int .i64 se, .int .i64 rq, .slice A n c] 24) := ⟨_, rfl⟩
  try simp only [Act.put, sx1, sx2, sx3]
  rw [← hw1, ← hw2]
  try rw [← hq]
  rw [← hp]
  have hz1 : w1.heap.size = w.heap.size + 1 := by rw [hw1]; simp
  have HA1 := Aside0.mk (show Below w.heap.size w w1 by rw [hw1]; exact below_alloc (Below.refl _ _) _)
  have HA := Aside0.mk (show Below w.heap.size w w2 by rw [hw2]; exact below_alloc HA1.out _)
  have HPB := Aside0.mk (show w2.heap[p]? = some (.cells #[.int .i64 kd, .int .i64 s, .int .i64 v, .int .i64 k, .int .i64 se, .int .i64 rq, .slice A n c, .int .i64 vn, .int .i64 vp, .int .i64 vb, .int .i64 st, .int .i64 of, .string x] 28 (0, 0)) by
    rw [hw2]
    refine (Below.heap_alloc _ _ _ (by omega)).trans ?_
    rw [hw1, hp]; exact heap_alloc_new w _)
  have HQB := Aside0.mk (show w2.heap[q]? = some (.cells #[.int .i64 s, .int .i64 v, .int .i64 k, .int .i64 se, .int .i64 rq, .slice A n c] 24 (0, 0)) by rw [hw2, hq, ← hz1]; exact heap_alloc_new w1 _)
  clear hp hq hw1 hw2 hz1 HA1
  have kp0 : w2.cell? ⟨p, 0, none⟩ = some (.int .i64 kd) := blk_cell (HPB.out) 0
  have kp1 : w2.cell? ⟨p, 1, none⟩ = some (.int .i64 s) := blk_cell (HPB.out) 1
  have kp2 : w2.cell? ⟨p, 2, none⟩ = some (.int .i64 v) := blk_cell (HPB.out) 2
  have kp3 : w2.cell? ⟨p, 3, none⟩ = some (.int .i64 k) := blk_cell (HPB.out) 3
  have kp4 : w2.cell? ⟨p, 4, none⟩ = some (.int .i64 se) := blk_cell (HPB.out) 4
  have kp5 : w2.cell? ⟨p, 5, none⟩ = some (.int .i64 rq) := blk_cell (HPB.out) 5
  have kp6 : w2.cell? ⟨p, 6, none⟩ = some (.slice A n c) := blk_cell (HPB.out) 6
  have kp7 : w2.cell? ⟨p, 7, none⟩ = some (.int .i64 vn) := blk_cell (HPB.out) 7
  have kp8 : w2.cell? ⟨p, 8, none⟩ = some (.int .i64 vp) := blk_cell (HPB.out) 8
  have kp9 : w2.cell? ⟨p, 9, none⟩ = some (.int .i64 vb) := blk_cell (HPB.out) 9
  have kp10 : w2.cell? ⟨p, 10, none⟩ = some (.int .i64 st) := blk_cell (HPB.out) 10
  have kp11 : w2.cell? ⟨p, 11, none⟩ = some (.int .i64 of) := blk_cell (HPB.out) 11
  have kp12 : w2.cell? ⟨p, 12, none⟩ = some (.string x) := blk_cell (HPB.out) 12
  have kq0 : w2.cell? ⟨q, 0, none⟩ = some (.int .i64 s) := blk_cell (HQB.out) 0
  have kq1 : w2.cell? ⟨q, 1, none⟩ = some (.int .i64 v) := blk_cell (HQB.out) 1
  have kq2 : w2.cell? ⟨q, 2, none⟩ = some (.int .i64 k) := blk_cell (HQB.out) 2
  have kq3 : w2.cell? ⟨q, 3, none⟩ = some (.int .i64 se) := blk_cell (HQB.out) 3
  have kq4 : w2.cell? ⟨q, 4, none⟩ = some (.int .i64 rq) := blk_cell (HQB.out) 4
  have kq5 : w2.cell? ⟨q, 5, none⟩ = some (.slice A n c) := blk_cell (HQB.out) 5
  go_cut [5] (fun v5 wc => v5 = .bool (blankE s v k se rq l) ∧ w2 = wc)
  case first =>
    by_cases h0 : s = 0
    · have c0 : (s == 0) = true := beq_iff_eq.mpr h0
      have d0 := Aside0.mk h0
      clear h0
      by_cases h1 : v = 0
      · have c1 : (v == 0) = true := beq_iff_eq.mpr h1
        have d1 := Aside0.mk h1
        clear h1
        by_cases h2 : k = 0
        · have c2 : (k == 0) = true := beq_iff_eq.mpr h2
          have d2 := Aside0.mk h2
          clear h2
          by_cases h3 : se = 0
          · have c3 : (se == 0) = true := beq_iff_eq.mpr h3
            have d3 := Aside0.mk h3
            clear h3
            by_cases h4 : rq = 0
            · have c4 : (rq == 0) = true := beq_iff_eq.mpr h4
              have d4 := Aside0.mk h4
              clear h4
              have HF := Aside0.mk (show blankE s v k se rq l = ((n : Int) == 0) by
                unfold blankE
                rw [HN.out, d0.out, d1.out, d2.out, d3.out, d4.out]
                by_cases h : n = 0
                · rw [h]; rfl
                · rw [decide_eq_false h, show ((n : Int) == 0) = false from beq_eq_false_iff_ne.mpr (by omega)]; rfl)
              go_wp2; go_meet
              case rel => exact ⟨by rw [HF.out], rfl⟩
            · have c4 : (rq == 0) = false := beq_eq_false_iff_ne.mpr h4
              have d4 := Aside0.mk h4
              clear h4
              have HF := Aside0.mk (show blankE s v k se rq l = false by unfold blankE; rw [beq_eq_false_iff_ne.mpr d4.out]; simp)
              go_wp2; go_meet
              case rel => exact ⟨by rw [HF.out], rfl⟩
          · have c3 : (se == 0) = false := beq_eq_false_iff_ne.mpr h3
            have d3 := Aside0.mk h3
            clear h3
            have HF := Aside0.mk (show blankE s v k se rq l = false by unfold blankE; rw [beq_eq_false_iff_ne.mpr d3.out]; simp)
            go_wp2; go_meet
            case rel => exact ⟨by rw [HF.out], rfl⟩
        · have c2 : (k == 0) = false := beq_eq_false_iff_ne.mpr h2
          have d2 := Aside0.mk h2
          clear h2
          have HF := Aside0.mk (show blankE s v k se rq l = false by unfold blankE; rw [beq_eq_false_iff_ne.mpr d2.out]; simp)
          go_wp2; go_meet
          case rel => exact ⟨by rw [HF.out], rfl⟩
      · have c1 : (v == 0) = false := beq_eq_false_iff_ne.mpr h1
        have d1 := Aside0.mk h1
        clear h1
        have HF := Aside0.mk (show blankE s v k se rq l = false by unfold blankE; rw [beq_eq_false_iff_ne.mpr d1.out]; simp)
        go_wp2; go_meet
        case rel => exact ⟨by rw [HF.out], rfl⟩
    · have c0 : (s == 0) = false := beq_eq_false_iff_ne.mpr h0
      have d0 := Aside0.mk h0
      clear h0
      have HF := Aside0.mk (show blankE s v k se rq l = false by unfold blankE; rw [beq_eq_false_iff_ne.mpr d0.out]; simp)
      go_wp2; go_meet
      case rel => exact ⟨by rw [HF.out], rfl⟩
  case rest =>
    obtain ⟨rfl, rfl⟩ := hcut
    obtain ⟨eb, heb⟩ : ∃ eb, blankE s v k se rq l = eb := ⟨_, rfl⟩
    rw [heb]
    have HEB := Aside0.mk heb
    clear heb
    go_upto_region 3 with (fail)
    go_cut [6] (fun v6 wc => v6 = .bool (noState of x) ∧ w2 = wc)
    case first =>
      by_cases h0 : x.toList = []
      · have c0 : (x.toList == ([] : List UInt8)) = true := beq_iff_eq.mpr h0
        have c1 : decide (x.toList = []) = true := decide_eq_true h0
        have d0 := Aside0.mk h0
        have HF := Aside0.mk (show noState of x = (of == 0) by unfold noState; rw [decide_eq_true d0.out]; simp)
        clear h0
        go_wp2; go_meet
        case rel => exact ⟨by rw [HF.out], rfl⟩
      · have c0 : (x.toList == ([] : List UInt8)) = false := beq_eq_false_iff_ne.mpr h0
        have c1 : decide (x.toList = []) = false := decide_eq_false h0
        have d0 := Aside0.mk h0
        clear h0
        have HF := Aside0.mk (show noState of x = false by unfold noState; rw [decide_eq_false d0.out]; simp)
        go_wp2; go_meet
        case rel => exact ⟨by rw [HF.out], rfl⟩
    case rest =>
      obtain ⟨rfl, rfl⟩ := hcut
      obtain ⟨sb, hsb⟩ : ∃ sb, noState of x = sb := ⟨_, rfl⟩
      rw [hsb]
      have HSB := Aside0.mk hsb
      clear hsb
      have hk := HKK.out
      have k1 := Aside0.mk (show ¬ kd = 1 by omega)
      have e1 : (kd == 1) = false := beq_eq_false_iff_ne.mpr (by omega)
      have k2 := Aside0.mk (show ¬ kd = 2 by omega)
      have e2 : (kd == 2) = false := beq_eq_false_iff_ne.mpr (by omega)
      have k3 := Aside0.mk (show ¬ kd = 3 by omega)
      have e3 : (kd == 3) = false := beq_eq_false_iff_ne.mpr (by omega)
      have k4 := Aside0.mk (show ¬ kd = 4 by omega)
      have e4 : (kd == 4) = false := beq_eq_false_iff_ne.mpr (by omega)
      have k5 := Aside0.mk (show ¬ kd = 5 by omega)
      have e5 : (kd == 5) = false := beq_eq_false_iff_ne.mpr (by omega)
      have k6 := Aside0.mk (show kd = 6 from hk)
      have e6 : (kd == 6) = true := beq_iff_eq.mpr hk
      clear hk
      have hr := HR.out
      unfold recBody at hr
      rw [if_neg k1.out, if_neg k2.out, if_neg k3.out, if_neg k4.out, if_neg k5.out, if_pos k6.out] at hr
      simp only [Prod.mk.injEq] at hr
      obtain ⟨rfl, rfl⟩ := hr
      clear HR
      obtain ⟨b1, hb1⟩ : ∃ b1, numOk st = b1 := ⟨_, rfl⟩
      have HB1 := Aside0.mk hb1
      clear hb1
      go_wp2
      clear kp0 kp1 kp2 kp3 kp4 kp5 kp6 kp11 kp12 kq0 kq1 kq2 kq3 kq4 kq5
      have K7 := Aside0.mk (show w2.cell? ⟨p, 7, none⟩ = some (.int .i64 vn) from kp7)
      have K8 := Aside0.mk (show w2.cell? ⟨p, 8, none⟩ = some (.int .i64 vp) from kp8)
      have K9 := Aside0.mk (show w2.cell? ⟨p, 9, none⟩ = some (.int .i64 vb) from kp9)
      have K10 := Aside0.mk (show w2.cell? ⟨p, 10, none⟩ = some (.int .i64 st) from kp10)
      replace kp7 : w2.drew.cell? ⟨p, 7, none⟩ = some (.int .i64 vn) := pw_cell_below (below_drew1 (Below.refl w2.heap.size w2)) K7.out
      replace kp8 : w2.drew.cell? ⟨p, 8, none⟩ = some (.int .i64 vp) := pw_cell_below (below_drew1 (Below.refl w2.heap.size w2)) K8.out
      replace kp9 : w2.drew.cell? ⟨p, 9, none⟩ = some (.int .i64 vb) := pw_cell_below (below_drew1 (Below.refl w2.heap.size w2)) K9.out
      replace kp10 : w2.drew.cell? ⟨p, 10, none⟩ = some (.int .i64 st) := pw_cell_below (below_drew1 (Below.refl w2.heap.size w2)) K10.out
      cases b1
      · skip
        refine start_ (n := 21) (S := fun w' => w'.cell? ⟨p, 7, none⟩ = some (.int .i64 vn) ∧ w'.cell? ⟨p, 8, none⟩ = some (.int .i64 vp) ∧ w'.cell? ⟨p, 9, none⟩ = some (.int .i64 vb) ∧ w'.cell? ⟨p, 10, none⟩ = some (.int .i64 st)) (ds := []) bq39 (by kernel_rfl) rfl rfl ⟨kp7, kp8, kp9, kp10⟩ (fun hHeld => ?_)
        refine with_tabW rg31.tab22 rg31.bits22 (fun HT_ HW_ => ?_)
        refine pure_ (i := 0) (N := some 179) (v := ?_) (a' := ?_) bq40 rfl rfl (any_of HT_.out (by kernel_rfl)) (fun _ _ _ h => h) (Or.inl ⟨by rfl, ?_⟩) ?_ ?_
        rotate_left
        · intro w'; go_simp; with_reducible rfl
        rotate_left
        · simp only [sxx]; rfl
        refine pure_ (i := 4) (N := some 183) (v := ?_) (a' := ?_) bq61 rfl rfl (any_of HT_.out (by kernel_rfl)) (fun _ _ _ h => h) (Or.inl ⟨by rfl, ?_⟩) ?_ ?_
        rotate_left
        · intro w'; go_simp; with_reducible rfl
        rotate_left
        · simp only [sxx]; rfl
        refine take_ (i := 1) (N := some 180) (v := ?_) (a' := ?_) bq62 rfl rfl (take_ofW HT_.out HW_.out (by kernel_rfl)) (fun _ _ _ h => h) (Or.inl ⟨by rfl, ?_⟩) hHeld ?_ ?_
        rotate_left
        · rintro w' ⟨s0, s1, s2, s3⟩
          go_simp; with_reducible rfl
        rotate_left
        · simp only [sxx]; rfl
        refine take_ (i := 5) (N := some 184) (v := ?_) (a' := ?_) bq63 rfl rfl (take_ofW HT_.out HW_.out (by kernel_rfl)) (fun _ _ _ h => h) (Or.inl ⟨by rfl, ?_⟩) hHeld ?_ ?_
        rotate_left
        · rintro w' ⟨s0, s1, s2, s3⟩
          go_simp; with_reducible rfl
        rotate_left
        · simp only [sxx]; rfl
        refine one_ (i := 2) (N := some 181) bq64 rfl rfl (one_of HT_.out (by kernel_rfl)) (by decide) (fun K hK => ?_)
        refine value_ (w1 := ?_) (v := ?_) (by rfl) rfl ?_ ?_
        rotate_left 2
        · go_simp
          constructor
          · rfl
          · rfl
        refine hK.out _ _ ⟨pw_cell_below (below_alloc (Below.refl _ _) _) kp7, pw_cell_below (below_alloc (Below.refl _ _) _) kp8, pw_cell_below (below_alloc (Below.refl _ _) _) kp9, pw_cell_below (below_alloc (Below.refl _ _) _) kp10⟩ (fun hHeld => ?_)
        clear hK K
        refine norm_ (a' := ?_) ?_ ?_
        rotate_left
        · show Act.put _ (some 181) _ = _
          simp only [sxx]; rfl
        refine one_ (i := 3) (N := some 182) bq65 rfl rfl (one_of HT_.out (by kernel_rfl)) (by decide) (fun K hK => ?_)
        refine goes_ Try.func53 (by kernel_rfl) rfl #[.slice (some ⟨w2.drew.heap.size, 0, none⟩) 1 1] (by rfl) rfl rfl (by simp only [mxx]; rfl) ?_
        with_reducible refine (numbers_N (some ⟨w2.drew.heap.size, 0, none⟩) 1 1 [st] _ rfl (C_lit64 w2.drew [st] (by simp)) (by decide) (by simp)).mono ?_
        rintro e u1 ⟨B, m, cb, rfl, hl1, hl2, ho, hb⟩
        refine ⟨_, rfl, ?_⟩
        have HU1 := Aside0.mk (below_step (below_alloc (below_drew1 (Below.refl w2.heap.size w2)) _) hb)
        have HO1 := Aside0.mk (Kd.R_lower ho (Nat.le_trans HA.out.size (below_alloc (below_drew1 (Below.refl w2.heap.size w2)) (.cells (nums .i64 [st]).toArray 3)).size))
        clear hl1 hl2 ho hb
        refine hK.out _ _ ⟨pw_cell_below HU1.out K7.out, pw_cell_below HU1.out K8.out, pw_cell_below HU1.out K9.out, pw_cell_below HU1.out K10.out⟩ (fun hHeld => ?_)
        clear hK K
        refine norm_ (a' := ?_) ?_ ?_
        rotate_left
        · show Act.put _ (some 182) _ = _
          simp only [sxx]; rfl
        refine one_ (i := 6) (N := some 185) bq46 rfl rfl (one_of HT_.out (by kernel_rfl)) (by decide) (fun K hK => ?_)
        refine goes_ Try.func57 (by kernel_rfl) rfl #[.int .i64 st] (by rfl) rfl rfl (by simp only [mxx]; rfl) ?_
        with_reducible refine (journal_number.calls st _ _ ((jnumber_eq st).trans (congrArg some HB1.out))).mono ?_
        rintro e u2 ⟨rfl, hb⟩
        refine ⟨_, rfl, ?_⟩
        have HU2 := Aside0.mk (below_step HU1.out hb.below)
        have HO2 := Aside0.mk (R8_keep HO1.out (fun k_ hk_ => (hb.below).block k_ (R8_lt HO1.out k_ hk_).2))
        clear hb
        refine hK.out _ _ ⟨pw_cell_below HU2.out K7.out, pw_cell_below HU2.out K8.out, pw_cell_below HU2.out K9.out, pw_cell_below HU2.out K10.out⟩ (fun hHeld => ?_)
        clear hK K
        refine norm_ (a' := ?_) ?_ ?_
        rotate_left
        · show Act.put _ (some 185) _ = _
          simp only [sxx]; rfl
        refine pure_ (i := 7) (N := some 186) (v := ?_) (a' := ?_) bq47 rfl rfl (any_of HT_.out (by kernel_rfl)) (fun _ _ _ h => h) (Or.inl ⟨by rfl, ?_⟩) ?_ ?_
        rotate_left
        · intro w'; go_simp; with_reducible rfl
        rotate_left
        · simp only [sxx]; rfl
        refine pure_ (i := 8) (N := some 187) (v := undef) (a' := ?_) bq48 rfl rfl (any_of HT_.out (by kernel_rfl)) (fun _ _ _ h => h) (Or.inr ⟨by rfl, rfl⟩) ?_ ?_
        rotate_left
        · simp only [sxx]; rfl
        refine pure_ (i := 9) (N := some 188) (v := ?_) (a' := ?_) bq49 rfl rfl (any_of HT_.out (by kernel_rfl)) (fun _ _ _ h => h) (Or.inl ⟨by rfl, ?_⟩) ?_ ?_
        rotate_left
        · intro w'; go_simp; with_reducible rfl
        rotate_left
        · simp only [sxx]; rfl
        refine pure_ (i := 10) (N := some 189) (v := ?_) (a' := ?_) bq50 rfl rfl (any_of HT_.out (by kernel_rfl)) (fun _ _ _ h => h) (Or.inl ⟨by rfl, ?_⟩) ?_ ?_
        rotate_left
        · intro w'; go_simp; with_reducible rfl
        rotate_left
        · simp only [sxx]; rfl
        refine pure_ (i := 11) (N := some 190) (v := undef) (a' := ?_) bq51 rfl rfl (any_of HT_.out (by kernel_rfl)) (fun _ _ _ h => h) (Or.inr ⟨by rfl, rfl⟩) ?_ ?_
        rotate_left
        · simp only [sxx]; rfl
        refine pure_ (i := 12) (N := some 191) (v := ?_) (a' := ?_) bq52 rfl rfl (any_of HT_.out (by kernel_rfl)) (fun _ _ _ h => h) (Or.inl ⟨by rfl, ?_⟩) ?_ ?_
        rotate_left
        · intro w'; go_simp; with_reducible rfl
        rotate_left
        · simp only [sxx]; rfl
        refine pure_ (i := 13) (N := some 192) (v := ?_) (a' := ?_) bq53 rfl rfl (any_of HT_.out (by kernel_rfl)) (fun _ _ _ h => h) (Or.inl ⟨by rfl, ?_⟩) ?_ ?_
        rotate_left
        · intro w'; go_simp; with_reducible rfl
        rotate_left
        · simp only [sxx]; rfl
        refine pure_ (i := 14) (N := some 193) (v := undef) (a' := ?_) bq54 rfl rfl (any_of HT_.out (by kernel_rfl)) (fun _ _ _ h => h) (Or.inr ⟨by rfl, rfl⟩) ?_ ?_
        rotate_left
        · simp only [sxx]; rfl
        refine pure_ (i := 15) (N := some 194) (v := undef) (a' := ?_) bq55 rfl rfl (any_of HT_.out (by kernel_rfl)) (fun _ _ _ h => h) (Or.inr ⟨by rfl, rfl⟩) ?_ ?_
        rotate_left
        · simp only [sxx]; rfl
        refine pure_ (i := 16) (N := some 195) (v := undef) (a' := ?_) bq56 rfl rfl (any_of HT_.out (by kernel_rfl)) (fun _ _ _ h => h) (Or.inr ⟨by rfl, rfl⟩) ?_ ?_
        rotate_left
        · simp only [sxx]; rfl
        refine pure_ (i := 17) (N := some 196) (v := undef) (a' := ?_) bq57 rfl rfl (any_of HT_.out (by kernel_rfl)) (fun _ _ _ h => h) (Or.inr ⟨by rfl, rfl⟩) ?_ ?_
        rotate_left
        · simp only [sxx]; rfl
        refine pure_ (i := 18) (N := some 197) (v := ?_) (a' := ?_) bq58 rfl rfl (any_of HT_.out (by kernel_rfl)) (fun _ _ _ h => h) (Or.inl ⟨by rfl, ?_⟩) ?_ ?_
        rotate_left
        · intro w'; go_simp; with_reducible rfl
        rotate_left
        · simp only [sxx]; rfl
        refine pure_ (i := 19) (N := some 2) (v := ?_) (a' := ?_) bq59 rfl rfl (any_of HT_.out (by kernel_rfl)) (fun _ _ _ h => h) (Or.inl ⟨by rfl, ?_⟩) ?_ ?_
        rotate_left
        · intro w'; go_simp; with_reducible rfl
        rotate_left
        · simp only [sxx]; rfl
        refine pure_ (i := 20) (N := some 3) (v := ?_) (a' := ?_) bq60 rfl rfl (any_of HT_.out (by kernel_rfl)) (fun _ _ _ h => h) (Or.inl ⟨by rfl, ?_⟩) ?_ ?_
        rotate_left
        · intro w'; go_simp; with_reducible rfl
        rotate_left
        · simp only [sxx]; rfl
        refine done_ (done_of HT_.out (by kernel_rfl)) ?_
        clear kp7 kp8 kp9 kp10
        go_wp2
        refine bodyPost_ret (results_tmp2 rfl _ _ _) rfl ?_
        exact ⟨_, by rw [HB1.out, HEB.out, HSB.out]; first | rfl | simp [noView], HO2.out, below_step HA.out HU2.out⟩
      · cases eb
        · skip
          refine start_ (n := 21) (S := fun w' => w'.cell? ⟨p, 7, none⟩ = some (.int .i64 vn) ∧ w'.cell? ⟨p, 8, none⟩ = some (.int .i64 vp) ∧ w'.cell? ⟨p, 9, none⟩ = some (.int .i64 vb) ∧ w'.cell? ⟨p, 10, none⟩ = some (.int .i64 st)) (ds := []) bq39 (by kernel_rfl) rfl rfl ⟨kp7, kp8, kp9, kp10⟩ (fun hHeld => ?_)
          refine with_tabW rg31.tab22 rg31.bits22 (fun HT_ HW_ => ?_)
          refine pure_ (i := 0) (N := some 179) (v := ?_) (a' := ?_) bq40 rfl rfl (any_of HT_.out (by kernel_rfl)) (fun _ _ _ h => h) (Or.inl ⟨by rfl, ?_⟩) ?_ ?_
          rotate_left
          · intro w'; go_simp; with_reducible rfl
          rotate_left
          · simp only [sxx]; rfl
          refine pure_ (i := 4) (N := some 183) (v := ?_) (a' := ?_) bq61 rfl rfl (any_of HT_.out (by kernel_rfl)) (fun _ _ _ h => h) (Or.inl ⟨by rfl, ?_⟩) ?_ ?_
          rotate_left
          · intro w'; go_simp; with_reducible rfl
          rotate_left
          · simp only [sxx]; rfl
          refine take_ (i := 1) (N := some 180) (v := ?_) (a' := ?_) bq62 rfl rfl (take_ofW HT_.out HW_.out (by kernel_rfl)) (fun _ _ _ h => h) (Or.inl ⟨by rfl, ?_⟩) hHeld ?_ ?_
          rotate_left
          · rintro w' ⟨s0, s1, s2, s3⟩
            go_simp; with_reducible rfl
          rotate_left
          · simp only [sxx]; rfl
          refine take_ (i := 5) (N := some 184) (v := ?_) (a' := ?_) bq63 rfl rfl (take_ofW HT_.out HW_.out (by kernel_rfl)) (fun _ _ _ h => h) (Or.inl ⟨by rfl, ?_⟩) hHeld ?_ ?_
          rotate_left
          · rintro w' ⟨s0, s1, s2, s3⟩
            go_simp; with_reducible rfl
          rotate_left
          · simp only [sxx]; rfl
          refine one_ (i := 2) (N := some 181) bq64 rfl rfl (one_of HT_.out (by kernel_rfl)) (by decide) (fun K hK => ?_)
          refine value_ (w1 := ?_) (v := ?_) (by rfl) rfl ?_ ?_
          rotate_left 2
          · go_simp
            constructor
            · rfl
            · rfl
          refine hK.out _ _ ⟨pw_cell_below (below_alloc (Below.refl _ _) _) kp7, pw_cell_below (below_alloc (Below.refl _ _) _) kp8, pw_cell_below (below_alloc (Below.refl _ _) _) kp9, pw_cell_below (below_alloc (Below.refl _ _) _) kp10⟩ (fun hHeld => ?_)
          clear hK K
          refine norm_ (a' := ?_) ?_ ?_
          rotate_left
          · show Act.put _ (some 181) _ = _
            simp only [sxx]; rfl
          refine one_ (i := 3) (N := some 182) bq65 rfl rfl (one_of HT_.out (by kernel_rfl)) (by decide) (fun K hK => ?_)
          refine goes_ Try.func53 (by kernel_rfl) rfl #[.slice (some ⟨w2.drew.heap.size, 0, none⟩) 1 1] (by rfl) rfl rfl (by simp only [mxx]; rfl) ?_
          with_reducible refine (numbers_N (some ⟨w2.drew.heap.size, 0, none⟩) 1 1 [st] _ rfl (C_lit64 w2.drew [st] (by simp)) (by decide) (by simp)).mono ?_
          rintro e u1 ⟨B, m, cb, rfl, hl1, hl2, ho, hb⟩
          refine ⟨_, rfl, ?_⟩
          have HU1 := Aside0.mk (below_step (below_alloc (below_drew1 (Below.refl w2.heap.size w2)) _) hb)
          have HO1 := Aside0.mk (Kd.R_lower ho (Nat.le_trans HA.out.size (below_alloc (below_drew1 (Below.refl w2.heap.size w2)) (.cells (nums .i64 [st]).toArray 3)).size))
          clear hl1 hl2 ho hb
          refine hK.out _ _ ⟨pw_cell_below HU1.out K7.out, pw_cell_below HU1.out K8.out, pw_cell_below HU1.out K9.out, pw_cell_below HU1.out K10.out⟩ (fun hHeld => ?_)
          clear hK K
          refine norm_ (a' := ?_) ?_ ?_
          rotate_left
          · show Act.put _ (some 182) _ = _
            simp only [sxx]; rfl
          refine one_ (i := 6) (N := some 185) bq46 rfl rfl (one_of HT_.out (by kernel_rfl)) (by decide) (fun K hK => ?_)
          refine goes_ Try.func57 (by kernel_rfl) rfl #[.int .i64 st] (by rfl) rfl rfl (by simp only [mxx]; rfl) ?_
          with_reducible refine (journal_number.calls st _ _ ((jnumber_eq st).trans (congrArg some HB1.out))).mono ?_
          rintro e u2 ⟨rfl, hb⟩
          refine ⟨_, rfl, ?_⟩
          have HU2 := Aside0.mk (below_step HU1.out hb.below)
          have HO2 := Aside0.mk (R8_keep HO1.out (fun k_ hk_ => (hb.below).block k_ (R8_lt HO1.out k_ hk_).2))
          clear hb
          refine hK.out _ _ ⟨pw_cell_below HU2.out K7.out, pw_cell_below HU2.out K8.out, pw_cell_below HU2.out K9.out, pw_cell_below HU2.out K10.out⟩ (fun hHeld => ?_)
          clear hK K
          refine norm_ (a' := ?_) ?_ ?_
          rotate_left
          · show Act.put _ (some 185) _ = _
            simp only [sxx]; rfl
          refine pure_ (i := 7) (N := some 186) (v := ?_) (a' := ?_) bq47 rfl rfl (any_of HT_.out (by kernel_rfl)) (fun _ _ _ h => h) (Or.inl ⟨by rfl, ?_⟩) ?_ ?_
          rotate_left
          · intro w'; go_simp; with_reducible rfl
          rotate_left
          · simp only [sxx]; rfl
          refine pure_ (i := 8) (N := some 187) (v := ?_) (a' := ?_) bq48 rfl rfl (any_of HT_.out (by kernel_rfl)) (fun _ _ _ h => h) (Or.inl ⟨by rfl, ?_⟩) ?_ ?_
          rotate_left
          · intro w'; go_simp; with_reducible rfl
          rotate_left
          · simp only [sxx]; rfl
          refine pure_ (i := 9) (N := some 188) (v := ?_) (a' := ?_) bq49 rfl rfl (any_of HT_.out (by kernel_rfl)) (fun _ _ _ h => h) (Or.inl ⟨by rfl, ?_⟩) ?_ ?_
          rotate_left
          · intro w'; go_simp; with_reducible rfl
          rotate_left
          · simp only [sxx]; rfl
          refine pure_ (i := 10) (N := some 189) (v := ?_) (a' := ?_) bq50 rfl rfl (any_of HT_.out (by kernel_rfl)) (fun _ _ _ h => h) (Or.inl ⟨by rfl, ?_⟩) ?_ ?_
          rotate_left
          · intro w'; go_simp; with_reducible rfl
          rotate_left
          · simp only [sxx]; rfl
          refine pure_ (i := 11) (N := some 190) (v := undef) (a' := ?_) bq51 rfl rfl (any_of HT_.out (by kernel_rfl)) (fun _ _ _ h => h) (Or.inr ⟨by rfl, rfl⟩) ?_ ?_
          rotate_left
          · simp only [sxx]; rfl
          refine pure_ (i := 12) (N := some 191) (v := ?_) (a' := ?_) bq52 rfl rfl (any_of HT_.out (by kernel_rfl)) (fun _ _ _ h => h) (Or.inl ⟨by rfl, ?_⟩) ?_ ?_
          rotate_left
          · intro w'; go_simp; with_reducible rfl
          rotate_left
          · simp only [sxx]; rfl
          refine pure_ (i := 13) (N := some 192) (v := ?_) (a' := ?_) bq53 rfl rfl (any_of HT_.out (by kernel_rfl)) (fun _ _ _ h => h) (Or.inl ⟨by rfl, ?_⟩) ?_ ?_
          rotate_left
          · intro w'; go_simp; with_reducible rfl
          rotate_left
          · simp only [sxx]; rfl
          refine pure_ (i := 14) (N := some 193) (v := undef) (a' := ?_) bq54 rfl rfl (any_of HT_.out (by kernel_rfl)) (fun _ _ _ h => h) (Or.inr ⟨by rfl, rfl⟩) ?_ ?_
          rotate_left
          · simp only [sxx]; rfl
          refine pure_ (i := 15) (N := some 194) (v := undef) (a' := ?_) bq55 rfl rfl (any_of HT_.out (by kernel_rfl)) (fun _ _ _ h => h) (Or.inr ⟨by rfl, rfl⟩) ?_ ?_
          rotate_left
          · simp only [sxx]; rfl
          refine pure_ (i := 16) (N := some 195) (v := undef) (a' := ?_) bq56 rfl rfl (any_of HT_.out (by kernel_rfl)) (fun _ _ _ h => h) (Or.inr ⟨by rfl, rfl⟩) ?_ ?_
          rotate_left
          · simp only [sxx]; rfl
          refine pure_ (i := 17) (N := some 196) (v := undef) (a' := ?_) bq57 rfl rfl (any_of HT_.out (by kernel_rfl)) (fun _ _ _ h => h) (Or.inr ⟨by rfl, rfl⟩) ?_ ?_
          rotate_left
          · simp only [sxx]; rfl
          refine pure_ (i := 18) (N := some 197) (v := ?_) (a' := ?_) bq58 rfl rfl (any_of HT_.out (by kernel_rfl)) (fun _ _ _ h => h) (Or.inl ⟨by rfl, ?_⟩) ?_ ?_
          rotate_left
          · intro w'; go_simp; with_reducible rfl
          rotate_left
          · simp only [sxx]; rfl
          refine pure_ (i := 19) (N := some 2) (v := ?_) (a' := ?_) bq59 rfl rfl (any_of HT_.out (by kernel_rfl)) (fun _ _ _ h => h) (Or.inl ⟨by rfl, ?_⟩) ?_ ?_
          rotate_left
          · intro w'; go_simp; with_reducible rfl
          rotate_left
          · simp only [sxx]; rfl
          refine pure_ (i := 20) (N := some 3) (v := ?_) (a' := ?_) bq60 rfl rfl (any_of HT_.out (by kernel_rfl)) (fun _ _ _ h => h) (Or.inl ⟨by rfl, ?_⟩) ?_ ?_
          rotate_left
          · intro w'; go_simp; with_reducible rfl
          rotate_left
          · simp only [sxx]; rfl
          refine done_ (done_of HT_.out (by kernel_rfl)) ?_
          clear kp7 kp8 kp9 kp10
          go_wp2
          refine bodyPost_ret (results_tmp2 rfl _ _ _) rfl ?_
          exact ⟨_, by rw [HB1.out, HEB.out, HSB.out]; first | rfl | simp [noView], HO2.out, below_step HA.out HU2.out⟩
        · cases sb
          · skip
            refine start_ (n := 21) (S := fun w' => w'.cell? ⟨p, 7, none⟩ = some (.int .i64 vn) ∧ w'.cell? ⟨p, 8, none⟩ = some (.int .i64 vp) ∧ w'.cell? ⟨p, 9, none⟩ = some (.int .i64 vb) ∧ w'.cell? ⟨p, 10, none⟩ = some (.int .i64 st)) (ds := []) bq39 (by kernel_rfl) rfl rfl ⟨kp7, kp8, kp9, kp10⟩ (fun hHeld => ?_)
            refine with_tabW rg31.tab22 rg31.bits22 (fun HT_ HW_ => ?_)
            refine pure_ (i := 0) (N := some 179) (v := ?_) (a' := ?_) bq40 rfl rfl (any_of HT_.out (by kernel_rfl)) (fun _ _ _ h => h) (Or.inl ⟨by rfl, ?_⟩) ?_ ?_
            rotate_left
            · intro w'; go_simp; with_reducible rfl
            rotate_left
            · simp only [sxx]; rfl
            refine pure_ (i := 4) (N := some 183) (v := ?_) (a' := ?_) bq61 rfl rfl (any_of HT_.out (by kernel_rfl)) (fun _ _ _ h => h) (Or.inl ⟨by rfl, ?_⟩) ?_ ?_
            rotate_left
            · intro w'; go_simp; with_reducible rfl
            rotate_left
            · simp only [sxx]; rfl
            refine take_ (i := 1) (N := some 180) (v := ?_) (a' := ?_) bq62 rfl rfl (take_ofW HT_.out HW_.out (by kernel_rfl)) (fun _ _ _ h => h) (Or.inl ⟨by rfl, ?_⟩) hHeld ?_ ?_
            rotate_left
            · rintro w' ⟨s0, s1, s2, s3⟩
              go_simp; with_reducible rfl
            rotate_left
            · simp only [sxx]; rfl
            refine take_ (i := 5) (N := some 184) (v := ?_) (a' := ?_) bq63 rfl rfl (take_ofW HT_.out HW_.out (by kernel_rfl)) (fun _ _ _ h => h) (Or.inl ⟨by rfl, ?_⟩) hHeld ?_ ?_
            rotate_left
            · rintro w' ⟨s0, s1, s2, s3⟩
              go_simp; with_reducible rfl
            rotate_left
            · simp only [sxx]; rfl
            refine one_ (i := 2) (N := some 181) bq64 rfl rfl (one_of HT_.out (by kernel_rfl)) (by decide) (fun K hK => ?_)
            refine value_ (w1 := ?_) (v := ?_) (by rfl) rfl ?_ ?_
            rotate_left 2
            · go_simp
              constructor
              · rfl
              · rfl
            refine hK.out _ _ ⟨pw_cell_below (below_alloc (Below.refl _ _) _) kp7, pw_cell_below (below_alloc (Below.refl _ _) _) kp8, pw_cell_below (below_alloc (Below.refl _ _) _) kp9, pw_cell_below (below_alloc (Below.refl _ _) _) kp10⟩ (fun hHeld => ?_)
            clear hK K
            refine norm_ (a' := ?_) ?_ ?_
            rotate_left
            · show Act.put _ (some 181) _ = _
              simp only [sxx]; rfl
            refine one_ (i := 3) (N := some 182) bq65 rfl rfl (one_of HT_.out (by kernel_rfl)) (by decide) (fun K hK => ?_)
            refine goes_ Try.func53 (by kernel_rfl) rfl #[.slice (some ⟨w2.drew.heap.size, 0, none⟩) 1 1] (by rfl) rfl rfl (by simp only [mxx]; rfl) ?_
            with_reducible refine (numbers_N (some ⟨w2.drew.heap.size, 0, none⟩) 1 1 [st] _ rfl (C_lit64 w2.drew [st] (by simp)) (by decide) (by simp)).mono ?_
            rintro e u1 ⟨B, m, cb, rfl, hl1, hl2, ho, hb⟩
            refine ⟨_, rfl, ?_⟩
            have HU1 := Aside0.mk (below_step (below_alloc (below_drew1 (Below.refl w2.heap.size w2)) _) hb)
            have HO1 := Aside0.mk (Kd.R_lower ho (Nat.le_trans HA.out.size (below_alloc (below_drew1 (Below.refl w2.heap.size w2)) (.cells (nums .i64 [st]).toArray 3)).size))
            clear hl1 hl2 ho hb
            refine hK.out _ _ ⟨pw_cell_below HU1.out K7.out, pw_cell_below HU1.out K8.out, pw_cell_below HU1.out K9.out, pw_cell_below HU1.out K10.out⟩ (fun hHeld => ?_)
            clear hK K
            refine norm_ (a' := ?_) ?_ ?_
            rotate_left
            · show Act.put _ (some 182) _ = _
              simp only [sxx]; rfl
            refine one_ (i := 6) (N := some 185) bq46 rfl rfl (one_of HT_.out (by kernel_rfl)) (by decide) (fun K hK => ?_)
            refine goes_ Try.func57 (by kernel_rfl) rfl #[.int .i64 st] (by rfl) rfl rfl (by simp only [mxx]; rfl) ?_
            with_reducible refine (journal_number.calls st _ _ ((jnumber_eq st).trans (congrArg some HB1.out))).mono ?_
            rintro e u2 ⟨rfl, hb⟩
            refine ⟨_, rfl, ?_⟩
            have HU2 := Aside0.mk (below_step HU1.out hb.below)
            have HO2 := Aside0.mk (R8_keep HO1.out (fun k_ hk_ => (hb.below).block k_ (R8_lt HO1.out k_ hk_).2))
            clear hb
            refine hK.out _ _ ⟨pw_cell_below HU2.out K7.out, pw_cell_below HU2.out K8.out, pw_cell_below HU2.out K9.out, pw_cell_below HU2.out K10.out⟩ (fun hHeld => ?_)
            clear hK K
            refine norm_ (a' := ?_) ?_ ?_
            rotate_left
            · show Act.put _ (some 185) _ = _
              simp only [sxx]; rfl
            refine pure_ (i := 7) (N := some 186) (v := ?_) (a' := ?_) bq47 rfl rfl (any_of HT_.out (by kernel_rfl)) (fun _ _ _ h => h) (Or.inl ⟨by rfl, ?_⟩) ?_ ?_
            rotate_left
            · intro w'; go_simp; with_reducible rfl
            rotate_left
            · simp only [sxx]; rfl
            refine pure_ (i := 8) (N := some 187) (v := ?_) (a' := ?_) bq48 rfl rfl (any_of HT_.out (by kernel_rfl)) (fun _ _ _ h => h) (Or.inl ⟨by rfl, ?_⟩) ?_ ?_
            rotate_left
            · intro w'; go_simp; with_reducible rfl
            rotate_left
            · simp only [sxx]; rfl
            refine pure_ (i := 9) (N := some 188) (v := ?_) (a' := ?_) bq49 rfl rfl (any_of HT_.out (by kernel_rfl)) (fun _ _ _ h => h) (Or.inl ⟨by rfl, ?_⟩) ?_ ?_
            rotate_left
            · intro w'; go_simp; with_reducible rfl
            rotate_left
            · simp only [sxx]; rfl
            refine pure_ (i := 10) (N := some 189) (v := ?_) (a' := ?_) bq50 rfl rfl (any_of HT_.out (by kernel_rfl)) (fun _ _ _ h => h) (Or.inl ⟨by rfl, ?_⟩) ?_ ?_
            rotate_left
            · intro w'; go_simp; with_reducible rfl
            rotate_left
            · simp only [sxx]; rfl
            refine pure_ (i := 11) (N := some 190) (v := ?_) (a' := ?_) bq51 rfl rfl (any_of HT_.out (by kernel_rfl)) (fun _ _ _ h => h) (Or.inl ⟨by rfl, ?_⟩) ?_ ?_
            rotate_left
            · intro w'; go_simp; with_reducible rfl
            rotate_left
            · simp only [sxx]; rfl
            refine pure_ (i := 12) (N := some 191) (v := ?_) (a' := ?_) bq52 rfl rfl (any_of HT_.out (by kernel_rfl)) (fun _ _ _ h => h) (Or.inl ⟨by rfl, ?_⟩) ?_ ?_
            rotate_left
            · intro w'; go_simp; with_reducible rfl
            rotate_left
            · simp only [sxx]; rfl
            refine pure_ (i := 13) (N := some 192) (v := ?_) (a' := ?_) bq53 rfl rfl (any_of HT_.out (by kernel_rfl)) (fun _ _ _ h => h) (Or.inl ⟨by rfl, ?_⟩) ?_ ?_
            rotate_left
            · intro w'; go_simp; with_reducible rfl
            rotate_left
            · simp only [sxx]; rfl
            refine pure_ (i := 14) (N := some 193) (v := undef) (a' := ?_) bq54 rfl rfl (any_of HT_.out (by kernel_rfl)) (fun _ _ _ h => h) (Or.inr ⟨by rfl, rfl⟩) ?_ ?_
            rotate_left
            · simp only [sxx]; rfl
            refine pure_ (i := 15) (N := some 194) (v := undef) (a' := ?_) bq55 rfl rfl (any_of HT_.out (by kernel_rfl)) (fun _ _ _ h => h) (Or.inr ⟨by rfl, rfl⟩) ?_ ?_
            rotate_left
            · simp only [sxx]; rfl
            refine pure_ (i := 16) (N := some 195) (v := undef) (a' := ?_) bq56 rfl rfl (any_of HT_.out (by kernel_rfl)) (fun _ _ _ h => h) (Or.inr ⟨by rfl, rfl⟩) ?_ ?_
            rotate_left
            · simp only [sxx]; rfl
            refine pure_ (i := 17) (N := some 196) (v := undef) (a' := ?_) bq57 rfl rfl (any_of HT_.out (by kernel_rfl)) (fun _ _ _ h => h) (Or.inr ⟨by rfl, rfl⟩) ?_ ?_
            rotate_left
            · simp only [sxx]; rfl
            refine pure_ (i := 18) (N := some 197) (v := ?_) (a' := ?_) bq58 rfl rfl (any_of HT_.out (by kernel_rfl)) (fun _ _ _ h => h) (Or.inl ⟨by rfl, ?_⟩) ?_ ?_
            rotate_left
            · intro w'; go_simp; with_reducible rfl
            rotate_left
            · simp only [sxx]; rfl
            refine pure_ (i := 19) (N := some 2) (v := ?_) (a' := ?_) bq59 rfl rfl (any_of HT_.out (by kernel_rfl)) (fun _ _ _ h => h) (Or.inl ⟨by rfl, ?_⟩) ?_ ?_
            rotate_left
            · intro w'; go_simp; with_reducible rfl
            rotate_left
            · simp only [sxx]; rfl
            refine pure_ (i := 20) (N := some 3) (v := ?_) (a' := ?_) bq60 rfl rfl (any_of HT_.out (by kernel_rfl)) (fun _ _ _ h => h) (Or.inl ⟨by rfl, ?_⟩) ?_ ?_
            rotate_left
            · intro w'; go_simp; with_reducible rfl
            rotate_left
            · simp only [sxx]; rfl
            refine done_ (done_of HT_.out (by kernel_rfl)) ?_
            clear kp7 kp8 kp9 kp10
            go_wp2
            refine bodyPost_ret (results_tmp2 rfl _ _ _) rfl ?_
            exact ⟨_, by rw [HB1.out, HEB.out, HSB.out]; first | rfl | simp [noView], HO2.out, below_step HA.out HU2.out⟩
          · by_cases h0 : vn = 0
            · have c0 : (vn == 0) = true := beq_iff_eq.mpr h0
              have d0 := Aside0.mk h0
              clear h0
              by_cases h1 : vp = 0
              · have c1 : (vp == 0) = true := beq_iff_eq.mpr h1
                have d1 := Aside0.mk h1
                clear h1
                by_cases h2 : vb = 0
                · have c2 : (vb == 0) = true := beq_iff_eq.mpr h2
                  have d2 := Aside0.mk h2
                  clear h2
                  have HF := Aside0.mk (show noView vn vp vb = true by unfold noView; rw [beq_iff_eq.mpr d0.out, beq_iff_eq.mpr d1.out, beq_iff_eq.mpr d2.out]; simp)
                  skip
                  refine start_ (n := 21) (S := fun w' => w'.cell? ⟨p, 7, none⟩ = some (.int .i64 vn) ∧ w'.cell? ⟨p, 8, none⟩ = some (.int .i64 vp) ∧ w'.cell? ⟨p, 9, none⟩ = some (.int .i64 vb) ∧ w'.cell? ⟨p, 10, none⟩ = some (.int .i64 st)) (ds := []) bq39 (by kernel_rfl) rfl rfl ⟨kp7, kp8, kp9, kp10⟩ (fun hHeld => ?_)
                  refine with_tabW rg31.tab22 rg31.bits22 (fun HT_ HW_ => ?_)
                  refine pure_ (i := 0) (N := some 179) (v := ?_) (a' := ?_) bq40 rfl rfl (any_of HT_.out (by kernel_rfl)) (fun _ _ _ h => h) (Or.inl ⟨by rfl, ?_⟩) ?_ ?_
                  rotate_left
                  · intro w'; go_simp; with_reducible rfl
                  rotate_left
                  · simp only [sxx]; rfl
                  refine pure_ (i := 4) (N := some 183) (v := ?_) (a' := ?_) bq61 rfl rfl (any_of HT_.out (by kernel_rfl)) (fun _ _ _ h => h) (Or.inl ⟨by rfl, ?_⟩) ?_ ?_
                  rotate_left
                  · intro w'; go_simp; with_reducible rfl
                  rotate_left
                  · simp only [sxx]; rfl
                  refine take_ (i := 1) (N := some 180) (v := ?_) (a' := ?_) bq62 rfl rfl (take_ofW HT_.out HW_.out (by kernel_rfl)) (fun _ _ _ h => h) (Or.inl ⟨by rfl, ?_⟩) hHeld ?_ ?_
                  rotate_left
                  · rintro w' ⟨s0, s1, s2, s3⟩
                    go_simp; with_reducible rfl
                  rotate_left
                  · simp only [sxx]; rfl
                  refine take_ (i := 5) (N := some 184) (v := ?_) (a' := ?_) bq63 rfl rfl (take_ofW HT_.out HW_.out (by kernel_rfl)) (fun _ _ _ h => h) (Or.inl ⟨by rfl, ?_⟩) hHeld ?_ ?_
                  rotate_left
                  · rintro w' ⟨s0, s1, s2, s3⟩
                    go_simp; with_reducible rfl
                  rotate_left
                  · simp only [sxx]; rfl
                  refine one_ (i := 2) (N := some 181) bq64 rfl rfl (one_of HT_.out (by kernel_rfl)) (by decide) (fun K hK => ?_)
                  refine value_ (w1 := ?_) (v := ?_) (by rfl) rfl ?_ ?_
                  rotate_left 2
                  · go_simp
                    constructor
                    · rfl
                    · rfl
                  refine hK.out _ _ ⟨pw_cell_below (below_alloc (Below.refl _ _) _) kp7, pw_cell_below (below_alloc (Below.refl _ _) _) kp8, pw_cell_below (below_alloc (Below.refl _ _) _) kp9, pw_cell_below (below_alloc (Below.refl _ _) _) kp10⟩ (fun hHeld => ?_)
                  clear hK K
                  refine norm_ (a' := ?_) ?_ ?_
                  rotate_left
                  · show Act.put _ (some 181) _ = _
                    simp only [sxx]; rfl
                  refine one_ (i := 3) (N := some 182) bq65 rfl rfl (one_of HT_.out (by kernel_rfl)) (by decide) (fun K hK => ?_)
                  refine goes_ Try.func53 (by kernel_rfl) rfl #[.slice (some ⟨w2.drew.heap.size, 0, none⟩) 1 1] (by rfl) rfl rfl (by simp only [mxx]; rfl) ?_
                  with_reducible refine (numbers_N (some ⟨w2.drew.heap.size, 0, none⟩) 1 1 [st] _ rfl (C_lit64 w2.drew [st] (by simp)) (by decide) (by simp)).mono ?_
                  rintro e u1 ⟨B, m, cb, rfl, hl1, hl2, ho, hb⟩
                  refine ⟨_, rfl, ?_⟩
                  have HU1 := Aside0.mk (below_step (below_alloc (below_drew1 (Below.refl w2.heap.size w2)) _) hb)
                  have HO1 := Aside0.mk (Kd.R_lower ho (Nat.le_trans HA.out.size (below_alloc (below_drew1 (Below.refl w2.heap.size w2)) (.cells (nums .i64 [st]).toArray 3)).size))
                  clear hl1 hl2 ho hb
                  refine hK.out _ _ ⟨pw_cell_below HU1.out K7.out, pw_cell_below HU1.out K8.out, pw_cell_below HU1.out K9.out, pw_cell_below HU1.out K10.out⟩ (fun hHeld => ?_)
                  clear hK K
                  refine norm_ (a' := ?_) ?_ ?_
                  rotate_left
                  · show Act.put _ (some 182) _ = _
                    simp only [sxx]; rfl
                  refine one_ (i := 6) (N := some 185) bq46 rfl rfl (one_of HT_.out (by kernel_rfl)) (by decide) (fun K hK => ?_)
                  refine goes_ Try.func57 (by kernel_rfl) rfl #[.int .i64 st] (by rfl) rfl rfl (by simp only [mxx]; rfl) ?_
                  with_reducible refine (journal_number.calls st _ _ ((jnumber_eq st).trans (congrArg some HB1.out))).mono ?_
                  rintro e u2 ⟨rfl, hb⟩
                  refine ⟨_, rfl, ?_⟩
                  have HU2 := Aside0.mk (below_step HU1.out hb.below)
                  have HO2 := Aside0.mk (R8_keep HO1.out (fun k_ hk_ => (hb.below).block k_ (R8_lt HO1.out k_ hk_).2))
                  clear hb
                  refine hK.out _ _ ⟨pw_cell_below HU2.out K7.out, pw_cell_below HU2.out K8.out, pw_cell_below HU2.out K9.out, pw_cell_below HU2.out K10.out⟩ (fun hHeld => ?_)
                  clear hK K
                  refine norm_ (a' := ?_) ?_ ?_
                  rotate_left
                  · show Act.put _ (some 185) _ = _
                    simp only [sxx]; rfl
                  refine pure_ (i := 7) (N := some 186) (v := ?_) (a' := ?_) bq47 rfl rfl (any_of HT_.out (by kernel_rfl)) (fun _ _ _ h => h) (Or.inl ⟨by rfl, ?_⟩) ?_ ?_
                  rotate_left
                  · intro w'; go_simp; with_reducible rfl
                  rotate_left
                  · simp only [sxx]; rfl
                  refine pure_ (i := 8) (N := some 187) (v := ?_) (a' := ?_) bq48 rfl rfl (any_of HT_.out (by kernel_rfl)) (fun _ _ _ h => h) (Or.inl ⟨by rfl, ?_⟩) ?_ ?_
                  rotate_left
                  · intro w'; go_simp; with_reducible rfl
                  rotate_left
                  · simp only [sxx]; rfl
                  refine pure_ (i := 9) (N := some 188) (v := ?_) (a' := ?_) bq49 rfl rfl (any_of HT_.out (by kernel_rfl)) (fun _ _ _ h => h) (Or.inl ⟨by rfl, ?_⟩) ?_ ?_
                  rotate_left
                  · intro w'; go_simp; with_reducible rfl
                  rotate_left
                  · simp only [sxx]; rfl
                  refine pure_ (i := 10) (N := some 189) (v := ?_) (a' := ?_) bq50 rfl rfl (any_of HT_.out (by kernel_rfl)) (fun _ _ _ h => h) (Or.inl ⟨by rfl, ?_⟩) ?_ ?_
                  rotate_left
                  · intro w'; go_simp; with_reducible rfl
                  rotate_left
                  · simp only [sxx]; rfl
                  refine pure_ (i := 11) (N := some 190) (v := ?_) (a' := ?_) bq51 rfl rfl (any_of HT_.out (by kernel_rfl)) (fun _ _ _ h => h) (Or.inl ⟨by rfl, ?_⟩) ?_ ?_
                  rotate_left
                  · intro w'; go_simp; with_reducible rfl
                  rotate_left
                  · simp only [sxx]; rfl
                  refine pure_ (i := 12) (N := some 191) (v := ?_) (a' := ?_) bq52 rfl rfl (any_of HT_.out (by kernel_rfl)) (fun _ _ _ h => h) (Or.inl ⟨by rfl, ?_⟩) ?_ ?_
                  rotate_left
                  · intro w'; go_simp; with_reducible rfl
                  rotate_left
                  · simp only [sxx]; rfl
                  refine pure_ (i := 13) (N := some 192) (v := ?_) (a' := ?_) bq53 rfl rfl (any_of HT_.out (by kernel_rfl)) (fun _ _ _ h => h) (Or.inl ⟨by rfl, ?_⟩) ?_ ?_
                  rotate_left
                  · intro w'; go_simp; with_reducible rfl
                  rotate_left
                  · simp only [sxx]; rfl
                  refine pure_ (i := 14) (N := some 193) (v := ?_) (a' := ?_) bq54 rfl rfl (any_of HT_.out (by kernel_rfl)) (fun _ _ _ h => h) (Or.inl ⟨by rfl, ?_⟩) ?_ ?_
                  rotate_left
                  · intro w'; go_simp; with_reducible rfl
                  rotate_left
                  · simp only [sxx]; rfl
                  refine pure_ (i := 16) (N := some 195) (v := ?_) (a' := ?_) bq66 rfl rfl (any_of HT_.out (by kernel_rfl)) (fun _ _ _ h => h) (Or.inl ⟨by rfl, ?_⟩) ?_ ?_
                  rotate_left
                  · intro w'; go_simp; with_reducible rfl
                  rotate_left
                  · simp only [sxx]; rfl
                  refine pure_ (i := 19) (N := some 2) (v := ?_) (a' := ?_) bq67 rfl rfl (any_of HT_.out (by kernel_rfl)) (fun _ _ _ h => h) (Or.inl ⟨by rfl, ?_⟩) ?_ ?_
                  rotate_left
                  · intro w'; go_simp; with_reducible rfl
                  rotate_left
                  · simp only [sxx]; rfl
                  refine take_ (i := 15) (N := some 194) (v := ?_) (a' := ?_) bq68 rfl rfl (take_ofW HT_.out HW_.out (by kernel_rfl)) (fun _ _ _ h => h) (Or.inl ⟨by rfl, ?_⟩) hHeld ?_ ?_
                  rotate_left
                  · rintro w' ⟨s0, s1, s2, s3⟩
                    go_simp; with_reducible rfl
                  rotate_left
                  · simp only [sxx]; rfl
                  refine pure_ (i := 17) (N := some 196) (v := ?_) (a' := ?_) bq69 rfl rfl (any_of HT_.out (by kernel_rfl)) (fun _ _ _ h => h) (Or.inl ⟨by rfl, ?_⟩) ?_ ?_
                  rotate_left
                  · intro w'; go_simp; with_reducible rfl
                  rotate_left
                  · simp only [sxx]; rfl
                  refine pure_ (i := 18) (N := some 197) (v := ?_) (a' := ?_) bq59 rfl rfl (any_of HT_.out (by kernel_rfl)) (fun _ _ _ h => h) (Or.inl ⟨by rfl, ?_⟩) ?_ ?_
                  rotate_left
                  · intro w'; go_simp; with_reducible rfl
                  rotate_left
                  · simp only [sxx]; rfl
                  refine pure_ (i := 20) (N := some 3) (v := ?_) (a' := ?_) bq60 rfl rfl (any_of HT_.out (by kernel_rfl)) (fun _ _ _ h => h) (Or.inl ⟨by rfl, ?_⟩) ?_ ?_
                  rotate_left
                  · intro w'; go_simp; with_reducible rfl
                  rotate_left
                  · simp only [sxx]; rfl
                  refine done_ (done_of HT_.out (by kernel_rfl)) ?_
                  clear kp7 kp8 kp9 kp10
                  go_wp2
                  refine bodyPost_ret (results_tmp2 rfl _ _ _) rfl ?_
                  exact ⟨_, by rw [HB1.out, HEB.out, HSB.out, HF.out]; first | rfl | simp, HO2.out, below_step HA.out HU2.out⟩
                · have c2 : (vb == 0) = false := beq_eq_false_iff_ne.mpr h2
                  have d2 := Aside0.mk h2
                  clear h2
                  have HF := Aside0.mk (show noView vn vp vb = false by unfold noView; rw [beq_eq_false_iff_ne.mpr d2.out]; simp)
                  skip
                  refine start_ (n := 21) (S := fun w' => w'.cell? ⟨p, 7, none⟩ = some (.int .i64 vn) ∧ w'.cell? ⟨p, 8, none⟩ = some (.int .i64 vp) ∧ w'.cell? ⟨p, 9, none⟩ = some (.int .i64 vb) ∧ w'.cell? ⟨p, 10, none⟩ = some (.int .i64 st)) (ds := []) bq39 (by kernel_rfl) rfl rfl ⟨kp7, kp8, kp9, kp10⟩ (fun hHeld => ?_)
                  refine with_tabW rg31.tab22 rg31.bits22 (fun HT_ HW_ => ?_)
                  refine pure_ (i := 0) (N := some 179) (v := ?_) (a' := ?_) bq40 rfl rfl (any_of HT_.out (by kernel_rfl)) (fun _ _ _ h => h) (Or.inl ⟨by rfl, ?_⟩) ?_ ?_
                  rotate_left
                  · intro w'; go_simp; with_reducible rfl
                  rotate_left
                  · simp only [sxx]; rfl
                  refine pure_ (i := 4) (N := some 183) (v := ?_) (a' := ?_) bq61 rfl rfl (any_of HT_.out (by kernel_rfl)) (fun _ _ _ h => h) (Or.inl ⟨by rfl, ?_⟩) ?_ ?_
                  rotate_left
                  · intro w'; go_simp; with_reducible rfl
                  rotate_left
                  · simp only [sxx]; rfl
                  refine take_ (i := 1) (N := some 180) (v := ?_) (a' := ?_) bq62 rfl rfl (take_ofW HT_.out HW_.out (by kernel_rfl)) (fun _ _ _ h => h) (Or.inl ⟨by rfl, ?_⟩) hHeld ?_ ?_
                  rotate_left
                  · rintro w' ⟨s0, s1, s2, s3⟩
                    go_simp; with_reducible rfl
                  rotate_left
                  · simp only [sxx]; rfl
                  refine take_ (i := 5) (N := some 184) (v := ?_) (a' := ?_) bq63 rfl rfl (take_ofW HT_.out HW_.out (by kernel_rfl)) (fun _ _ _ h => h) (Or.inl ⟨by rfl, ?_⟩) hHeld ?_ ?_
                  rotate_left
                  · rintro w' ⟨s0, s1, s2, s3⟩
                    go_simp; with_reducible rfl
                  rotate_left
                  · simp only [sxx]; rfl
                  refine one_ (i := 2) (N := some 181) bq64 rfl rfl (one_of HT_.out (by kernel_rfl)) (by decide) (fun K hK => ?_)
                  refine value_ (w1 := ?_) (v := ?_) (by rfl) rfl ?_ ?_
                  rotate_left 2
                  · go_simp
                    constructor
                    · rfl
                    · rfl
                  refine hK.out _ _ ⟨pw_cell_below (below_alloc (Below.refl _ _) _) kp7, pw_cell_below (below_alloc (Below.refl _ _) _) kp8, pw_cell_below (below_alloc (Below.refl _ _) _) kp9, pw_cell_below (below_alloc (Below.refl _ _) _) kp10⟩ (fun hHeld => ?_)
                  clear hK K
                  refine norm_ (a' := ?_) ?_ ?_
                  rotate_left
                  · show Act.put _ (some 181) _ = _
                    simp only [sxx]; rfl
                  refine one_ (i := 3) (N := some 182) bq65 rfl rfl (one_of HT_.out (by kernel_rfl)) (by decide) (fun K hK => ?_)
                  refine goes_ Try.func53 (by kernel_rfl) rfl #[.slice (some ⟨w2.drew.heap.size, 0, none⟩) 1 1] (by rfl) rfl rfl (by simp only [mxx]; rfl) ?_
                  with_reducible refine (numbers_N (some ⟨w2.drew.heap.size, 0, none⟩) 1 1 [st] _ rfl (C_lit64 w2.drew [st] (by simp)) (by decide) (by simp)).mono ?_
                  rintro e u1 ⟨B, m, cb, rfl, hl1, hl2, ho, hb⟩
                  refine ⟨_, rfl, ?_⟩
                  have HU1 := Aside0.mk (below_step (below_alloc (below_drew1 (Below.refl w2.heap.size w2)) _) hb)
                  have HO1 := Aside0.mk (Kd.R_lower ho (Nat.le_trans HA.out.size (below_alloc (below_drew1 (Below.refl w2.heap.size w2)) (.cells (nums .i64 [st]).toArray 3)).size))
                  clear hl1 hl2 ho hb
                  refine hK.out _ _ ⟨pw_cell_below HU1.out K7.out, pw_cell_below HU1.out K8.out, pw_cell_below HU1.out K9.out, pw_cell_below HU1.out K10.out⟩ (fun hHeld => ?_)
                  clear hK K
                  refine norm_ (a' := ?_) ?_ ?_
                  rotate_left
                  · show Act.put _ (some 182) _ = _
                    simp only [sxx]; rfl
                  refine one_ (i := 6) (N := some 185) bq46 rfl rfl (one_of HT_.out (by kernel_rfl)) (by decide) (fun K hK => ?_)
                  refine goes_ Try.func57 (by kernel_rfl) rfl #[.int .i64 st] (by rfl) rfl rfl (by simp only [mxx]; rfl) ?_
                  with_reducible refine (journal_number.calls st _ _ ((jnumber_eq st).trans (congrArg some HB1.out))).mono ?_
                  rintro e u2 ⟨rfl, hb⟩
                  refine ⟨_, rfl, ?_⟩
                  have HU2 := Aside0.mk (below_step HU1.out hb.below)
                  have HO2 := Aside0.mk (R8_keep HO1.out (fun k_ hk_ => (hb.below).block k_ (R8_lt HO1.out k_ hk_).2))
                  clear hb
                  refine hK.out _ _ ⟨pw_cell_below HU2.out K7.out, pw_cell_below HU2.out K8.out, pw_cell_below HU2.out K9.out, pw_cell_below HU2.out K10.out⟩ (fun hHeld => ?_)
                  clear hK K
                  refine norm_ (a' := ?_) ?_ ?_
                  rotate_left
                  · show Act.put _ (some 185) _ = _
                    simp only [sxx]; rfl
                  refine pure_ (i := 7) (N := some 186) (v := ?_) (a' := ?_) bq47 rfl rfl (any_of HT_.out (by kernel_rfl)) (fun _ _ _ h => h) (Or.inl ⟨by rfl, ?_⟩) ?_ ?_
                  rotate_left
                  · intro w'; go_simp; with_reducible rfl
                  rotate_left
                  · simp only [sxx]; rfl
                  refine pure_ (i := 8) (N := some 187) (v := ?_) (a' := ?_) bq48 rfl rfl (any_of HT_.out (by kernel_rfl)) (fun _ _ _ h => h) (Or.inl ⟨by rfl, ?_⟩) ?_ ?_
                  rotate_left
                  · intro w'; go_simp; with_reducible rfl
                  rotate_left
                  · simp only [sxx]; rfl
                  refine pure_ (i := 9) (N := some 188) (v := ?_) (a' := ?_) bq49 rfl rfl (any_of HT_.out (by kernel_rfl)) (fun _ _ _ h => h) (Or.inl ⟨by rfl, ?_⟩) ?_ ?_
                  rotate_left
                  · intro w'; go_simp; with_reducible rfl
                  rotate_left
                  · simp only [sxx]; rfl
                  refine pure_ (i := 10) (N := some 189) (v := ?_) (a' := ?_) bq50 rfl rfl (any_of HT_.out (by kernel_rfl)) (fun _ _ _ h => h) (Or.inl ⟨by rfl, ?_⟩) ?_ ?_
                  rotate_left
                  · intro w'; go_simp; with_reducible rfl
                  rotate_left
                  · simp only [sxx]; rfl
                  refine pure_ (i := 11) (N := some 190) (v := ?_) (a' := ?_) bq51 rfl rfl (any_of HT_.out (by kernel_rfl)) (fun _ _ _ h => h) (Or.inl ⟨by rfl, ?_⟩) ?_ ?_
                  rotate_left
                  · intro w'; go_simp; with_reducible rfl
                  rotate_left
                  · simp only [sxx]; rfl
                  refine pure_ (i := 12) (N := some 191) (v := ?_) (a' := ?_) bq52 rfl rfl (any_of HT_.out (by kernel_rfl)) (fun _ _ _ h => h) (Or.inl ⟨by rfl, ?_⟩) ?_ ?_
                  rotate_left
                  · intro w'; go_simp; with_reducible rfl
                  rotate_left
                  · simp only [sxx]; rfl
                  refine pure_ (i := 13) (N := some 192) (v := ?_) (a' := ?_) bq53 rfl rfl (any_of HT_.out (by kernel_rfl)) (fun _ _ _ h => h) (Or.inl ⟨by rfl, ?_⟩) ?_ ?_
                  rotate_left
                  · intro w'; go_simp; with_reducible rfl
                  rotate_left
                  · simp only [sxx]; rfl
                  refine pure_ (i := 14) (N := some 193) (v := ?_) (a' := ?_) bq54 rfl rfl (any_of HT_.out (by kernel_rfl)) (fun _ _ _ h => h) (Or.inl ⟨by rfl, ?_⟩) ?_ ?_
                  rotate_left
                  · intro w'; go_simp; with_reducible rfl
                  rotate_left
                  · simp only [sxx]; rfl
                  refine pure_ (i := 16) (N := some 195) (v := ?_) (a' := ?_) bq66 rfl rfl (any_of HT_.out (by kernel_rfl)) (fun _ _ _ h => h) (Or.inl ⟨by rfl, ?_⟩) ?_ ?_
                  rotate_left
                  · intro w'; go_simp; with_reducible rfl
                  rotate_left
                  · simp only [sxx]; rfl
                  refine pure_ (i := 19) (N := some 2) (v := ?_) (a' := ?_) bq67 rfl rfl (any_of HT_.out (by kernel_rfl)) (fun _ _ _ h => h) (Or.inl ⟨by rfl, ?_⟩) ?_ ?_
                  rotate_left
                  · intro w'; go_simp; with_reducible rfl
                  rotate_left
                  · simp only [sxx]; rfl
                  refine take_ (i := 15) (N := some 194) (v := ?_) (a' := ?_) bq68 rfl rfl (take_ofW HT_.out HW_.out (by kernel_rfl)) (fun _ _ _ h => h) (Or.inl ⟨by rfl, ?_⟩) hHeld ?_ ?_
                  rotate_left
                  · rintro w' ⟨s0, s1, s2, s3⟩
                    go_simp; with_reducible rfl
                  rotate_left
                  · simp only [sxx]; rfl
                  refine pure_ (i := 17) (N := some 196) (v := ?_) (a' := ?_) bq69 rfl rfl (any_of HT_.out (by kernel_rfl)) (fun _ _ _ h => h) (Or.inl ⟨by rfl, ?_⟩) ?_ ?_
                  rotate_left
                  · intro w'; go_simp; with_reducible rfl
                  rotate_left
                  · simp only [sxx]; rfl
                  refine pure_ (i := 18) (N := some 197) (v := ?_) (a' := ?_) bq59 rfl rfl (any_of HT_.out (by kernel_rfl)) (fun _ _ _ h => h) (Or.inl ⟨by rfl, ?_⟩) ?_ ?_
                  rotate_left
                  · intro w'; go_simp; with_reducible rfl
                  rotate_left
                  · simp only [sxx]; rfl
                  refine pure_ (i := 20) (N := some 3) (v := ?_) (a' := ?_) bq60 rfl rfl (any_of HT_.out (by kernel_rfl)) (fun _ _ _ h => h) (Or.inl ⟨by rfl, ?_⟩) ?_ ?_
                  rotate_left
                  · intro w'; go_simp; with_reducible rfl
                  rotate_left
                  · simp only [sxx]; rfl
                  refine done_ (done_of HT_.out (by kernel_rfl)) ?_
                  clear kp7 kp8 kp9 kp10
                  go_wp2
                  refine bodyPost_ret (results_tmp2 rfl _ _ _) rfl ?_
                  exact ⟨_, by rw [HB1.out, HEB.out, HSB.out, HF.out]; first | rfl | simp, HO2.out, below_step HA.out HU2.out⟩
              · have c1 : (vp == 0) = false := beq_eq_false_iff_ne.mpr h1
                have d1 := Aside0.mk h1
                clear h1
                have HF := Aside0.mk (show noView vn vp vb = false by unfold noView; rw [beq_eq_false_iff_ne.mpr d1.out]; simp)
                skip
                refine start_ (n := 21) (S := fun w' => w'.cell? ⟨p, 7, none⟩ = some (.int .i64 vn) ∧ w'.cell? ⟨p, 8, none⟩ = some (.int .i64 vp) ∧ w'.cell? ⟨p, 9, none⟩ = some (.int .i64 vb) ∧ w'.cell? ⟨p, 10, none⟩ = some (.int .i64 st)) (ds := []) bq39 (by kernel_rfl) rfl rfl ⟨kp7, kp8, kp9, kp10⟩ (fun hHeld => ?_)
                refine with_tabW rg31.tab22 rg31.bits22 (fun HT_ HW_ => ?_)
                refine pure_ (i := 0) (N := some 179) (v := ?_) (a' := ?_) bq40 rfl rfl (any_of HT_.out (by kernel_rfl)) (fun _ _ _ h => h) (Or.inl ⟨by rfl, ?_⟩) ?_ ?_
                rotate_left
                · intro w'; go_simp; with_reducible rfl
                rotate_left
                · simp only [sxx]; rfl
                refine pure_ (i := 4) (N := some 183) (v := ?_) (a' := ?_) bq61 rfl rfl (any_of HT_.out (by kernel_rfl)) (fun _ _ _ h => h) (Or.inl ⟨by rfl, ?_⟩) ?_ ?_
                rotate_left
                · intro w'; go_simp; with_reducible rfl
                rotate_left
                · simp only [sxx]; rfl
                refine take_ (i := 1) (N := some 180) (v := ?_) (a' := ?_) bq62 rfl rfl (take_ofW HT_.out HW_.out (by kernel_rfl)) (fun _ _ _ h => h) (Or.inl ⟨by rfl, ?_⟩) hHeld ?_ ?_
                rotate_left
                · rintro w' ⟨s0, s1, s2, s3⟩
                  go_simp; with_reducible rfl
                rotate_left
                · simp only [sxx]; rfl
                refine take_ (i := 5) (N := some 184) (v := ?_) (a' := ?_) bq63 rfl rfl (take_ofW HT_.out HW_.out (by kernel_rfl)) (fun _ _ _ h => h) (Or.inl ⟨by rfl, ?_⟩) hHeld ?_ ?_
                rotate_left
                · rintro w' ⟨s0, s1, s2, s3⟩
                  go_simp; with_reducible rfl
                rotate_left
                · simp only [sxx]; rfl
                refine one_ (i := 2) (N := some 181) bq64 rfl rfl (one_of HT_.out (by kernel_rfl)) (by decide) (fun K hK => ?_)
                refine value_ (w1 := ?_) (v := ?_) (by rfl) rfl ?_ ?_
                rotate_left 2
                · go_simp
                  constructor
                  · rfl
                  · rfl
                refine hK.out _ _ ⟨pw_cell_below (below_alloc (Below.refl _ _) _) kp7, pw_cell_below (below_alloc (Below.refl _ _) _) kp8, pw_cell_below (below_alloc (Below.refl _ _) _) kp9, pw_cell_below (below_alloc (Below.refl _ _) _) kp10⟩ (fun hHeld => ?_)
                clear hK K
                refine norm_ (a' := ?_) ?_ ?_
                rotate_left
                · show Act.put _ (some 181) _ = _
                  simp only [sxx]; rfl
                refine one_ (i := 3) (N := some 182) bq65 rfl rfl (one_of HT_.out (by kernel_rfl)) (by decide) (fun K hK => ?_)
                refine goes_ Try.func53 (by kernel_rfl) rfl #[.slice (some ⟨w2.drew.heap.size, 0, none⟩) 1 1] (by rfl) rfl rfl (by simp only [mxx]; rfl) ?_
                with_reducible refine (numbers_N (some ⟨w2.drew.heap.size, 0, none⟩) 1 1 [st] _ rfl (C_lit64 w2.drew [st] (by simp)) (by decide) (by simp)).mono ?_
                rintro e u1 ⟨B, m, cb, rfl, hl1, hl2, ho, hb⟩
                refine ⟨_, rfl, ?_⟩
                have HU1 := Aside0.mk (below_step (below_alloc (below_drew1 (Below.refl w2.heap.size w2)) _) hb)
                have HO1 := Aside0.mk (Kd.R_lower ho (Nat.le_trans HA.out.size (below_alloc (below_drew1 (Below.refl w2.heap.size w2)) (.cells (nums .i64 [st]).toArray 3)).size))
                clear hl1 hl2 ho hb
                refine hK.out _ _ ⟨pw_cell_below HU1.out K7.out, pw_cell_below HU1.out K8.out, pw_cell_below HU1.out K9.out, pw_cell_below HU1.out K10.out⟩ (fun hHeld => ?_)
                clear hK K
                refine norm_ (a' := ?_) ?_ ?_
                rotate_left
                · show Act.put _ (some 182) _ = _
                  simp only [sxx]; rfl
                refine one_ (i := 6) (N := some 185) bq46 rfl rfl (one_of HT_.out (by kernel_rfl)) (by decide) (fun K hK => ?_)
                refine goes_ Try.func57 (by kernel_rfl) rfl #[.int .i64 st] (by rfl) rfl rfl (by simp only [mxx]; rfl) ?_
                with_reducible refine (journal_number.calls st _ _ ((jnumber_eq st).trans (congrArg some HB1.out))).mono ?_
                rintro e u2 ⟨rfl, hb⟩
                refine ⟨_, rfl, ?_⟩
                have HU2 := Aside0.mk (below_step HU1.out hb.below)
                have HO2 := Aside0.mk (R8_keep HO1.out (fun k_ hk_ => (hb.below).block k_ (R8_lt HO1.out k_ hk_).2))
                clear hb
                refine hK.out _ _ ⟨pw_cell_below HU2.out K7.out, pw_cell_below HU2.out K8.out, pw_cell_below HU2.out K9.out, pw_cell_below HU2.out K10.out⟩ (fun hHeld => ?_)
                clear hK K
                refine norm_ (a' := ?_) ?_ ?_
                rotate_left
                · show Act.put _ (some 185) _ = _
                  simp only [sxx]; rfl
                refine pure_ (i := 7) (N := some 186) (v := ?_) (a' := ?_) bq47 rfl rfl (any_of HT_.out (by kernel_rfl)) (fun _ _ _ h => h) (Or.inl ⟨by rfl, ?_⟩) ?_ ?_
                rotate_left
                · intro w'; go_simp; with_reducible rfl
                rotate_left
                · simp only [sxx]; rfl
                refine pure_ (i := 8) (N := some 187) (v := ?_) (a' := ?_) bq48 rfl rfl (any_of HT_.out (by kernel_rfl)) (fun _ _ _ h => h) (Or.inl ⟨by rfl, ?_⟩) ?_ ?_
                rotate_left
                · intro w'; go_simp; with_reducible rfl
                rotate_left
                · simp only [sxx]; rfl
                refine pure_ (i := 9) (N := some 188) (v := ?_) (a' := ?_) bq49 rfl rfl (any_of HT_.out (by kernel_rfl)) (fun _ _ _ h => h) (Or.inl ⟨by rfl, ?_⟩) ?_ ?_
                rotate_left
                · intro w'; go_simp; with_reducible rfl
                rotate_left
                · simp only [sxx]; rfl
                refine pure_ (i := 10) (N := some 189) (v := ?_) (a' := ?_) bq50 rfl rfl (any_of HT_.out (by kernel_rfl)) (fun _ _ _ h => h) (Or.inl ⟨by rfl, ?_⟩) ?_ ?_
                rotate_left
                · intro w'; go_simp; with_reducible rfl
                rotate_left
                · simp only [sxx]; rfl
                refine pure_ (i := 11) (N := some 190) (v := ?_) (a' := ?_) bq51 rfl rfl (any_of HT_.out (by kernel_rfl)) (fun _ _ _ h => h) (Or.inl ⟨by rfl, ?_⟩) ?_ ?_
                rotate_left
                · intro w'; go_simp; with_reducible rfl
                rotate_left
                · simp only [sxx]; rfl
                refine pure_ (i := 12) (N := some 191) (v := ?_) (a' := ?_) bq52 rfl rfl (any_of HT_.out (by kernel_rfl)) (fun _ _ _ h => h) (Or.inl ⟨by rfl, ?_⟩) ?_ ?_
                rotate_left
                · intro w'; go_simp; with_reducible rfl
                rotate_left
                · simp only [sxx]; rfl
                refine pure_ (i := 13) (N := some 192) (v := ?_) (a' := ?_) bq53 rfl rfl (any_of HT_.out (by kernel_rfl)) (fun _ _ _ h => h) (Or.inl ⟨by rfl, ?_⟩) ?_ ?_
                rotate_left
                · intro w'; go_simp; with_reducible rfl
                rotate_left
                · simp only [sxx]; rfl
                refine pure_ (i := 14) (N := some 193) (v := ?_) (a' := ?_) bq54 rfl rfl (any_of HT_.out (by kernel_rfl)) (fun _ _ _ h => h) (Or.inl ⟨by rfl, ?_⟩) ?_ ?_
                rotate_left
                · intro w'; go_simp; with_reducible rfl
                rotate_left
                · simp only [sxx]; rfl
                refine pure_ (i := 16) (N := some 195) (v := ?_) (a' := ?_) bq66 rfl rfl (any_of HT_.out (by kernel_rfl)) (fun _ _ _ h => h) (Or.inl ⟨by rfl, ?_⟩) ?_ ?_
                rotate_left
                · intro w'; go_simp; with_reducible rfl
                rotate_left
                · simp only [sxx]; rfl
                refine pure_ (i := 19) (N := some 2) (v := ?_) (a' := ?_) bq67 rfl rfl (any_of HT_.out (by kernel_rfl)) (fun _ _ _ h => h) (Or.inl ⟨by rfl, ?_⟩) ?_ ?_
                rotate_left
                · intro w'; go_simp; with_reducible rfl
                rotate_left
                · simp only [sxx]; rfl
                refine take_ (i := 15) (N := some 194) (v := ?_) (a' := ?_) bq68 rfl rfl (take_ofW HT_.out HW_.out (by kernel_rfl)) (fun _ _ _ h => h) (Or.inl ⟨by rfl, ?_⟩) hHeld ?_ ?_
                rotate_left
                · rintro w' ⟨s0, s1, s2, s3⟩
                  go_simp; with_reducible rfl
                rotate_left
                · simp only [sxx]; rfl
                refine pure_ (i := 17) (N := some 196) (v := ?_) (a' := ?_) bq69 rfl rfl (any_of HT_.out (by kernel_rfl)) (fun _ _ _ h => h) (Or.inl ⟨by rfl, ?_⟩) ?_ ?_
                rotate_left
                · intro w'; go_simp; with_reducible rfl
                rotate_left
                · simp only [sxx]; rfl
                refine pure_ (i := 18) (N := some 197) (v := ?_) (a' := ?_) bq59 rfl rfl (any_of HT_.out (by kernel_rfl)) (fun _ _ _ h => h) (Or.inl ⟨by rfl, ?_⟩) ?_ ?_
                rotate_left
                · intro w'; go_simp; with_reducible rfl
                rotate_left
                · simp only [sxx]; rfl
                refine pure_ (i := 20) (N := some 3) (v := ?_) (a' := ?_) bq60 rfl rfl (any_of HT_.out (by kernel_rfl)) (fun _ _ _ h => h) (Or.inl ⟨by rfl, ?_⟩) ?_ ?_
                rotate_left
                · intro w'; go_simp; with_reducible rfl
                rotate_left
                · simp only [sxx]; rfl
                refine done_ (done_of HT_.out (by kernel_rfl)) ?_
                clear kp7 kp8 kp9 kp10
                go_wp2
                refine bodyPost_ret (results_tmp2 rfl _ _ _) rfl ?_
                exact ⟨_, by rw [HB1.out, HEB.out, HSB.out, HF.out]; first | rfl | simp, HO2.out, below_step HA.out HU2.out⟩
            · have c0 : (vn == 0) = false := beq_eq_false_iff_ne.mpr h0
              have d0 := Aside0.mk h0
              clear h0
              have HF := Aside0.mk (show noView vn vp vb = false by unfold noView; rw [beq_eq_false_iff_ne.mpr d0.out]; simp)
              skip
              refine start_ (n := 21) (S := fun w' => w'.cell? ⟨p, 7, none⟩ = some (.int .i64 vn) ∧ w'.cell? ⟨p, 8, none⟩ = some (.int .i64 vp) ∧ w'.cell? ⟨p, 9, none⟩ = some (.int .i64 vb) ∧ w'.cell? ⟨p, 10, none⟩ = some (.int .i64 st)) (ds := []) bq39 (by kernel_rfl) rfl rfl ⟨kp7, kp8, kp9, kp10⟩ (fun hHeld => ?_)
              refine with_tabW rg31.tab22 rg31.bits22 (fun HT_ HW_ => ?_)
              refine pure_ (i := 0) (N := some 179) (v := ?_) (a' := ?_) bq40 rfl rfl (any_of HT_.out (by kernel_rfl)) (fun _ _ _ h => h) (Or.inl ⟨by rfl, ?_⟩) ?_ ?_
              rotate_left
              · intro w'; go_simp; with_reducible rfl
              rotate_left
              · simp only [sxx]; rfl
              refine pure_ (i := 4) (N := some 183) (v := ?_) (a' := ?_) bq61 rfl rfl (any_of HT_.out (by kernel_rfl)) (fun _ _ _ h => h) (Or.inl ⟨by rfl, ?_⟩) ?_ ?_
              rotate_left
              · intro w'; go_simp; with_reducible rfl
              rotate_left
              · simp only [sxx]; rfl
              refine take_ (i := 1) (N := some 180) (v := ?_) (a' := ?_) bq62 rfl rfl (take_ofW HT_.out HW_.out (by kernel_rfl)) (fun _ _ _ h => h) (Or.inl ⟨by rfl, ?_⟩) hHeld ?_ ?_
              rotate_left
              · rintro w' ⟨s0, s1, s2, s3⟩
                go_simp; with_reducible rfl
              rotate_left
              · simp only [sxx]; rfl
              refine take_ (i := 5) (N := some 184) (v := ?_) (a' := ?_) bq63 rfl rfl (take_ofW HT_.out HW_.out (by kernel_rfl)) (fun _ _ _ h => h) (Or.inl ⟨by rfl, ?_⟩) hHeld ?_ ?_
              rotate_left
              · rintro w' ⟨s0, s1, s2, s3⟩
                go_simp; with_reducible rfl
              rotate_left
              · simp only [sxx]; rfl
              refine one_ (i := 2) (N := some 181) bq64 rfl rfl (one_of HT_.out (by kernel_rfl)) (by decide) (fun K hK => ?_)
              refine value_ (w1 := ?_) (v := ?_) (by rfl) rfl ?_ ?_
              rotate_left 2
              · go_simp
                constructor
                · rfl
                · rfl
              refine hK.out _ _ ⟨pw_cell_below (below_alloc (Below.refl _ _) _) kp7, pw_cell_below (below_alloc (Below.refl _ _) _) kp8, pw_cell_below (below_alloc (Below.refl _ _) _) kp9, pw_cell_below (below_alloc (Below.refl _ _) _) kp10⟩ (fun hHeld => ?_)
              clear hK K
              refine norm_ (a' := ?_) ?_ ?_
              rotate_left
              · show Act.put _ (some 181) _ = _
                simp only [sxx]; rfl
              refine one_ (i := 3) (N := some 182) bq65 rfl rfl (one_of HT_.out (by kernel_rfl)) (by decide) (fun K hK => ?_)
              refine goes_ Try.func53 (by kernel_rfl) rfl #[.slice (some ⟨w2.drew.heap.size, 0, none⟩) 1 1] (by rfl) rfl rfl (by simp only [mxx]; rfl) ?_
              with_reducible refine (numbers_N (some ⟨w2.drew.heap.size, 0, none⟩) 1 1 [st] _ rfl (C_lit64 w2.drew [st] (by simp)) (by decide) (by simp)).mono ?_
              rintro e u1 ⟨B, m, cb, rfl, hl1, hl2, ho, hb⟩
              refine ⟨_, rfl, ?_⟩
              have HU1 := Aside0.mk (below_step (below_alloc (below_drew1 (Below.refl w2.heap.size w2)) _) hb)
              have HO1 := Aside0.mk (Kd.R_lower ho (Nat.le_trans HA.out.size (below_alloc (below_drew1 (Below.refl w2.heap.size w2)) (.cells (nums .i64 [st]).toArray 3)).size))
              clear hl1 hl2 ho hb
              refine hK.out _ _ ⟨pw_cell_below HU1.out K7.out, pw_cell_below HU1.out K8.out, pw_cell_below HU1.out K9.out, pw_cell_below HU1.out K10.out⟩ (fun hHeld => ?_)
              clear hK K
              refine norm_ (a' := ?_) ?_ ?_
              rotate_left
              · show Act.put _ (some 182) _ = _
                simp only [sxx]; rfl
              refine one_ (i := 6) (N := some 185) bq46 rfl rfl (one_of HT_.out (by kernel_rfl)) (by decide) (fun K hK => ?_)
              refine goes_ Try.func57 (by kernel_rfl) rfl #[.int .i64 st] (by rfl) rfl rfl (by simp only [mxx]; rfl) ?_
              with_reducible refine (journal_number.calls st _ _ ((jnumber_eq st).trans (congrArg some HB1.out))).mono ?_
              rintro e u2 ⟨rfl, hb⟩
              refine ⟨_, rfl, ?_⟩
              have HU2 := Aside0.mk (below_step HU1.out hb.below)
              have HO2 := Aside0.mk (R8_keep HO1.out (fun k_ hk_ => (hb.below).block k_ (R8_lt HO1.out k_ hk_).2))
              clear hb
              refine hK.out _ _ ⟨pw_cell_below HU2.out K7.out, pw_cell_below HU2.out K8.out, pw_cell_below HU2.out K9.out, pw_cell_below HU2.out K10.out⟩ (fun hHeld => ?_)
              clear hK K
              refine norm_ (a' := ?_) ?_ ?_
              rotate_left
              · show Act.put _ (some 185) _ = _
                simp only [sxx]; rfl
              refine pure_ (i := 7) (N := some 186) (v := ?_) (a' := ?_) bq47 rfl rfl (any_of HT_.out (by kernel_rfl)) (fun _ _ _ h => h) (Or.inl ⟨by rfl, ?_⟩) ?_ ?_
              rotate_left
              · intro w'; go_simp; with_reducible rfl
              rotate_left
              · simp only [sxx]; rfl
              refine pure_ (i := 8) (N := some 187) (v := ?_) (a' := ?_) bq48 rfl rfl (any_of HT_.out (by kernel_rfl)) (fun _ _ _ h => h) (Or.inl ⟨by rfl, ?_⟩) ?_ ?_
              rotate_left
              · intro w'; go_simp; with_reducible rfl
              rotate_left
              · simp only [sxx]; rfl
              refine pure_ (i := 9) (N := some 188) (v := ?_) (a' := ?_) bq49 rfl rfl (any_of HT_.out (by kernel_rfl)) (fun _ _ _ h => h) (Or.inl ⟨by rfl, ?_⟩) ?_ ?_
              rotate_left
              · intro w'; go_simp; with_reducible rfl
              rotate_left
              · simp only [sxx]; rfl
              refine pure_ (i := 10) (N := some 189) (v := ?_) (a' := ?_) bq50 rfl rfl (any_of HT_.out (by kernel_rfl)) (fun _ _ _ h => h) (Or.inl ⟨by rfl, ?_⟩) ?_ ?_
              rotate_left
              · intro w'; go_simp; with_reducible rfl
              rotate_left
              · simp only [sxx]; rfl
              refine pure_ (i := 11) (N := some 190) (v := ?_) (a' := ?_) bq51 rfl rfl (any_of HT_.out (by kernel_rfl)) (fun _ _ _ h => h) (Or.inl ⟨by rfl, ?_⟩) ?_ ?_
              rotate_left
              · intro w'; go_simp; with_reducible rfl
              rotate_left
              · simp only [sxx]; rfl
              refine pure_ (i := 12) (N := some 191) (v := ?_) (a' := ?_) bq52 rfl rfl (any_of HT_.out (by kernel_rfl)) (fun _ _ _ h => h) (Or.inl ⟨by rfl, ?_⟩) ?_ ?_
              rotate_left
              · intro w'; go_simp; with_reducible rfl
              rotate_left
              · simp only [sxx]; rfl
              refine pure_ (i := 13) (N := some 192) (v := ?_) (a' := ?_) bq53 rfl rfl (any_of HT_.out (by kernel_rfl)) (fun _ _ _ h => h) (Or.inl ⟨by rfl, ?_⟩) ?_ ?_
              rotate_left
              · intro w'; go_simp; with_reducible rfl
              rotate_left
              · simp only [sxx]; rfl
              refine pure_ (i := 14) (N := some 193) (v := ?_) (a' := ?_) bq54 rfl rfl (any_of HT_.out (by kernel_rfl)) (fun _ _ _ h => h) (Or.inl ⟨by rfl, ?_⟩) ?_ ?_
              rotate_left
              · intro w'; go_simp; with_reducible rfl
              rotate_left
              · simp only [sxx]; rfl
              refine pure_ (i := 16) (N := some 195) (v := ?_) (a' := ?_) bq66 rfl rfl (any_of HT_.out (by kernel_rfl)) (fun _ _ _ h => h) (Or.inl ⟨by rfl, ?_⟩) ?_ ?_
              rotate_left
              · intro w'; go_simp; with_reducible rfl
              rotate_left
              · simp only [sxx]; rfl
              refine pure_ (i := 19) (N := some 2) (v := ?_) (a' := ?_) bq67 rfl rfl (any_of HT_.out (by kernel_rfl)) (fun _ _ _ h => h) (Or.inl ⟨by rfl, ?_⟩) ?_ ?_
              rotate_left
              · intro w'; go_simp; with_reducible rfl
              rotate_left
              · simp only [sxx]; rfl
              refine take_ (i := 15) (N := some 194) (v := ?_) (a' := ?_) bq68 rfl rfl (take_ofW HT_.out HW_.out (by kernel_rfl)) (fun _ _ _ h => h) (Or.inl ⟨by rfl, ?_⟩) hHeld ?_ ?_
              rotate_left
              · rintro w' ⟨s0, s1, s2, s3⟩
                go_simp; with_reducible rfl
              rotate_left
              · simp only [sxx]; rfl
              refine pure_ (i := 17) (N := some 196) (v := ?_) (a' := ?_) bq69 rfl rfl (any_of HT_.out (by kernel_rfl)) (fun _ _ _ h => h) (Or.inl ⟨by rfl, ?_⟩) ?_ ?_
              rotate_left
              · intro w'; go_simp; with_reducible rfl
              rotate_left
              · simp only [sxx]; rfl
              refine pure_ (i := 18) (N := some 197) (v := ?_) (a' := ?_) bq59 rfl rfl (any_of HT_.out (by kernel_rfl)) (fun _ _ _ h => h) (Or.inl ⟨by rfl, ?_⟩) ?_ ?_
              rotate_left
              · intro w'; go_simp; with_reducible rfl
              rotate_left
              · simp only [sxx]; rfl
              refine pure_ (i := 20) (N := some 3) (v := ?_) (a' := ?_) bq60 rfl rfl (any_of HT_.out (by kernel_rfl)) (fun _ _ _ h => h) (Or.inl ⟨by rfl, ?_⟩) ?_ ?_
              rotate_left
              · intro w'; go_simp; with_reducible rfl
              rotate_left
              · simp only [sxx]; rfl
              refine done_ (done_of HT_.out (by kernel_rfl)) ?_
              clear kp7 kp8 kp9 kp10
              go_wp2
              refine bodyPost_ret (results_tmp2 rfl _ _ _) rfl ?_
              exact ⟨_, by rw [HB1.out, HEB.out, HSB.out, HF.out]; first | rfl | simp, HO2.out, below_step HA.out HU2.out⟩
set_option maxHeartbeats 64000000 in
set_option maxRecDepth 100000 in
theorem body_C7 (kd s v k se rq : Int) (A : Option Addr) (c n : Nat) (l : List S40) (vn vp vb st of : Int) (x : ByteArray) (w : World) (hk : kd < 1 ∨ 6 < kd) (hn : l.length = n) (hC : Kd.C k40 w A n l) (hc : n ≤ c) (r1 : List Int) (r2 : Bool) (hr : recBody kd s v k se rq l vn vp vb st of x = (r1, r2)) :
    Calls Try.prog 31 #[.agg #[.int .i64 kd, .int .i64 s, .int .i64 v, .int .i64 k, .int .i64 se, .int .i64 rq, .slice A n c, .int .i64 vn, .int .i64 vp, .int .i64 vb, .int .i64 st, .int .i64 of, .string x]] w fun e w' => ∃ V, e = .returned (.tuple #[V, .bool r2]) ∧ R8 w' w.heap.size V r1 ∧ Below w.heap.size w w' := by
  have hu24 := Try.underlying24
  have hu26 := Try.underlying26
  have hu28 := Try.underlying28
  have HKK := Aside0.mk hk
  clear hk
  have HN := Aside0.mk hn
  have HC := Aside0.mk hC
  have HCC := Aside0.mk hc
  have HR := Aside0.mk hr
  clear hn hC hc hr
  go_enter Try.func31, Try.ntmps31
  go_upto_region 2 with (fail)
  obtain ⟨p, hp⟩ : ∃ p, p = w.heap.size := ⟨_, rfl⟩
  obtain ⟨q, hq⟩ : ∃ q, q = w.heap.size + 1 := ⟨_, rfl⟩
  obtain ⟨w1, hw1⟩ : ∃ w1, w1 = w.alloc (.cells #[.int .i64 kd, .int .i64 s, .int .i64 v, .int .i64 k, .int .i64 se, .int .i64 rq, .slice A n c, .int .i64 vn, .int .i64 vp, .int .i64 vb, .int .i64 st, .int .i64 of, .string x] 28) := ⟨_, rfl⟩
  obtain ⟨w2, hw2⟩ : ∃ w2, w2 = w1.alloc (.cells #[.int .i64 s, .int .i64 v, .int .i64 k, .int .i64 se, .int .i64 rq, .slice A n c] 24) := ⟨_, rfl⟩
  try simp only [Act.put, sx1, sx2, sx3]
  rw [← hw1, ← hw2]
  try rw [← hq]
  rw [← hp]
  have hz1 : w1.heap.size = w.heap.size + 1 := by rw [hw1]; simp
  have HA1 := Aside0.mk (show Below w.heap.size w w1 by rw [hw1]; exact below_alloc (Below.refl _ _) _)
  have HA := Aside0.mk (show Below w.heap.size w w2 by rw [hw2]; exact below_alloc HA1.out _)
  have HPB := Aside0.mk (show w2.heap[p]? = some (.cells #[.int .i64 kd, .int .i64 s, .int .i64 v, .int .i64 k, .int .i64 se, .int .i64 rq, .slice A n c, .int .i64 vn, .int .i64 vp, .int .i64 vb, .int .i64 st, .int .i64 of, .string x] 28 (0, 0)) by
    rw [hw2]
    refine (Below.heap_alloc _ _ _ (by omega)).trans ?_
    rw [hw1, hp]; exact heap_alloc_new w _)
  have HQB := Aside0.mk (show w2.heap[q]? = some (.cells #[.int .i64 s, .int .i64 v, .int .i64 k, .int .i64 se, .int .i64 rq, .slice A n c] 24 (0, 0)) by rw [hw2, hq, ← hz1]; exact heap_alloc_new w1 _)
  clear hp hq hw1 hw2 hz1 HA1
  have kp0 : w2.cell? ⟨p, 0, none⟩ = some (.int .i64 kd) := blk_cell (HPB.out) 0
  have kp1 : w2.cell? ⟨p, 1, none⟩ = some (.int .i64 s) := blk_cell (HPB.out) 1
  have kp2 : w2.cell? ⟨p, 2, none⟩ = some (.int .i64 v) := blk_cell (HPB.out) 2
  have kp3 : w2.cell? ⟨p, 3, none⟩ = some (.int .i64 k) := blk_cell (HPB.out) 3
  have kp4 : w2.cell? ⟨p, 4, none⟩ = some (.int .i64 se) := blk_cell (HPB.out) 4
  have kp5 : w2.cell? ⟨p, 5, none⟩ = some (.int .i64 rq) := blk_cell (HPB.out) 5
  have kp6 : w2.cell? ⟨p, 6, none⟩ = some (.slice A n c) := blk_cell (HPB.out) 6
  have kp7 : w2.cell? ⟨p, 7, none⟩ = some (.int .i64 vn) := blk_cell (HPB.out) 7
  have kp8 : w2.cell? ⟨p, 8, none⟩ = some (.int .i64 vp) := blk_cell (HPB.out) 8
  have kp9 : w2.cell? ⟨p, 9, none⟩ = some (.int .i64 vb) := blk_cell (HPB.out) 9
  have kp10 : w2.cell? ⟨p, 10, none⟩ = some (.int .i64 st) := blk_cell (HPB.out) 10
  have kp11 : w2.cell? ⟨p, 11, none⟩ = some (.int .i64 of) := blk_cell (HPB.out) 11
  have kp12 : w2.cell? ⟨p, 12, none⟩ = some (.string x) := blk_cell (HPB.out) 12
  have kq0 : w2.cell? ⟨q, 0, none⟩ = some (.int .i64 s) := blk_cell (HQB.out) 0
  have kq1 : w2.cell? ⟨q, 1, none⟩ = some (.int .i64 v) := blk_cell (HQB.out) 1
  have kq2 : w2.cell? ⟨q, 2, none⟩ = some (.int .i64 k) := blk_cell (HQB.out) 2
  have kq3 : w2.cell? ⟨q, 3, none⟩ = some (.int .i64 se) := blk_cell (HQB.out) 3
  have kq4 : w2.cell? ⟨q, 4, none⟩ = some (.int .i64 rq) := blk_cell (HQB.out) 4
  have kq5 : w2.cell? ⟨q, 5, none⟩ = some (.slice A n c) := blk_cell (HQB.out) 5
  go_cut [5] (fun v5 wc => v5 = .bool (blankE s v k se rq l) ∧ w2 = wc)
  case first =>
    by_cases h0 : s = 0
    · have c0 : (s == 0) = true := beq_iff_eq.mpr h0
      have d0 := Aside0.mk h0
      clear h0
      by_cases h1 : v = 0
      · have c1 : (v == 0) = true := beq_iff_eq.mpr h1
        have d1 := Aside0.mk h1
        clear h1
        by_cases h2 : k = 0
        · have c2 : (k == 0) = true := beq_iff_eq.mpr h2
          have d2 := Aside0.mk h2
          clear h2
          by_cases h3 : se = 0
          · have c3 : (se == 0) = true := beq_iff_eq.mpr h3
            have d3 := Aside0.mk h3
            clear h3
            by_cases h4 : rq = 0
            · have c4 : (rq == 0) = true := beq_iff_eq.mpr h4
              have d4 := Aside0.mk h4
              clear h4
              have HF := Aside0.mk (show blankE s v k se rq l = ((n : Int) == 0) by
                unfold blankE
                rw [HN.out, d0.out, d1.out, d2.out, d3.out, d4.out]
                by_cases h : n = 0
                · rw [h]; rfl
                · rw [decide_eq_false h, show ((n : Int) == 0) = false from beq_eq_false_iff_ne.mpr (by omega)]; rfl)
              go_wp2; go_meet
              case rel => exact ⟨by rw [HF.out], rfl⟩
            · have c4 : (rq == 0) = false := beq_eq_false_iff_ne.mpr h4
              have d4 := Aside0.mk h4
              clear h4
              have HF := Aside0.mk (show blankE s v k se rq l = false by unfold blankE; rw [beq_eq_false_iff_ne.mpr d4.out]; simp)
              go_wp2; go_meet
              case rel => exact ⟨by rw [HF.out], rfl⟩
          · have c3 : (se == 0) = false := beq_eq_false_iff_ne.mpr h3
            have d3 := Aside0.mk h3
            clear h3
            have HF := Aside0.mk (show blankE s v k se rq l = false by unfold blankE; rw [beq_eq_false_iff_ne.mpr d3.out]; simp)
            go_wp2; go_meet
            case rel => exact ⟨by rw [HF.out], rfl⟩
        · have c2 : (k == 0) = false := beq_eq_false_iff_ne.mpr h2
          have d2 := Aside0.mk h2
          clear h2
          have HF := Aside0.mk (show blankE s v k se rq l = false by unfold blankE; rw [beq_eq_false_iff_ne.mpr d2.out]; simp)
          go_wp2; go_meet
          case rel => exact ⟨by rw [HF.out], rfl⟩
      · have c1 : (v == 0) = false := beq_eq_false_iff_ne.mpr h1
        have d1 := Aside0.mk h1
        clear h1
        have HF := Aside0.mk (show blankE s v k se rq l = false by unfold blankE; rw [beq_eq_false_iff_ne.mpr d1.out]; simp)
        go_wp2; go_meet
        case rel => exact ⟨by rw [HF.out], rfl⟩
    · have c0 : (s == 0) = false := beq_eq_false_iff_ne.mpr h0
      have d0 := Aside0.mk h0
      clear h0
      have HF := Aside0.mk (show blankE s v k se rq l = false by unfold blankE; rw [beq_eq_false_iff_ne.mpr d0.out]; simp)
      go_wp2; go_meet
      case rel => exact ⟨by rw [HF.out], rfl⟩
  case rest =>
    obtain ⟨rfl, rfl⟩ := hcut
    obtain ⟨eb, heb⟩ : ∃ eb, blankE s v k se rq l = eb := ⟨_, rfl⟩
    rw [heb]
    have HEB := Aside0.mk heb
    clear heb
    go_upto_region 3 with (fail)
    go_cut [6] (fun v6 wc => v6 = .bool (noState of x) ∧ w2 = wc)
    case first =>
      by_cases h0 : x.toList = []
      · have c0 : (x.toList == ([] : List UInt8)) = true := beq_iff_eq.mpr h0
        have c1 : decide (x.toList = []) = true := decide_eq_true h0
        have d0 := Aside0.mk h0
        have HF := Aside0.mk (show noState of x = (of == 0) by unfold noState; rw [decide_eq_true d0.out]; simp)
        clear h0
        go_wp2; go_meet
        case rel => exact ⟨by rw [HF.out], rfl⟩
      · have c0 : (x.toList == ([] : List UInt8)) = false := beq_eq_false_iff_ne.mpr h0
        have c1 : decide (x.toList = []) = false := decide_eq_false h0
        have d0 := Aside0.mk h0
        clear h0
        have HF := Aside0.mk (show noState of x = false by unfold noState; rw [decide_eq_false d0.out]; simp)
        go_wp2; go_meet
        case rel => exact ⟨by rw [HF.out], rfl⟩
    case rest =>
      obtain ⟨rfl, rfl⟩ := hcut
      obtain ⟨sb, hsb⟩ : ∃ sb, noState of x = sb := ⟨_, rfl⟩
      rw [hsb]
      have HSB := Aside0.mk hsb
      clear hsb
      have hk := HKK.out
      have k1 := Aside0.mk (show ¬ kd = 1 by omega)
      have e1 : (kd == 1) = false := beq_eq_false_iff_ne.mpr (by omega)
      have k2 := Aside0.mk (show ¬ kd = 2 by omega)
      have e2 : (kd == 2) = false := beq_eq_false_iff_ne.mpr (by omega)
      have k3 := Aside0.mk (show ¬ kd = 3 by omega)
      have e3 : (kd == 3) = false := beq_eq_false_iff_ne.mpr (by omega)
      have k4 := Aside0.mk (show ¬ kd = 4 by omega)
      have e4 : (kd == 4) = false := beq_eq_false_iff_ne.mpr (by omega)
      have k5 := Aside0.mk (show ¬ kd = 5 by omega)
      have e5 : (kd == 5) = false := beq_eq_false_iff_ne.mpr (by omega)
      have k6 := Aside0.mk (show ¬ kd = 6 by omega)
      have e6 : (kd == 6) = false := beq_eq_false_iff_ne.mpr (by omega)
      clear hk
      have hr := HR.out
      unfold recBody at hr
      rw [if_neg k1.out, if_neg k2.out, if_neg k3.out, if_neg k4.out, if_neg k5.out, if_neg k6.out] at hr
      simp only [Prod.mk.injEq] at hr
      obtain ⟨rfl, rfl⟩ := hr
      clear HR
      go_wp2
      refine bodyPost_ret (results_tmp2 rfl _ _ _) rfl ?_
      exact ⟨_, rfl, Kd.R_nil _ _ _ _ _, HA.out⟩
theorem body_C (kd s v k se rq : Int) (A : Option Addr) (c n : Nat) (l : List S40) (vn vp vb st of : Int) (x : ByteArray) (w : World) (hn : l.length = n) (hC : Kd.C k40 w A n l) (hc : n ≤ c) (r1 : List Int) (r2 : Bool) (hr : recBody kd s v k se rq l vn vp vb st of x = (r1, r2)) :
    Calls Try.prog 31 #[.agg #[.int .i64 kd, .int .i64 s, .int .i64 v, .int .i64 k, .int .i64 se, .int .i64 rq, .slice A n c, .int .i64 vn, .int .i64 vp, .int .i64 vb, .int .i64 st, .int .i64 of, .string x]] w fun e w' => ∃ V, e = .returned (.tuple #[V, .bool r2]) ∧ R8 w' w.heap.size V r1 ∧ Below w.heap.size w w' := by
  by_cases h : kd < 1 ∨ 6 < kd
  · exact body_C7 kd s v k se rq A c n l vn vp vb st of x w h hn hC hc r1 r2 hr
  by_cases h1 : kd = 1
  · exact body_C1 kd s v k se rq A c n l vn vp vb st of x w h1 hn hC hc r1 r2 hr
  by_cases h2 : kd = 2
  · exact body_C2 kd s v k se rq A c n l vn vp vb st of x w h2 hn hC hc r1 r2 hr
  by_cases h3 : kd = 3
  · exact body_C3 kd s v k se rq A c n l vn vp vb st of x w h3 hn hC hc r1 r2 hr
  by_cases h4 : kd = 4
  · exact body_C4 kd s v k se rq A c n l vn vp vb st of x w h4 hn hC hc r1 r2 hr
  by_cases h5 : kd = 5
  · exact body_C5 kd s v k se rq A c n l vn vp vb st of x w h5 hn hC hc r1 r2 hr
  exact body_C6 kd s v k se rq A c n l vn vp vb st of x w (by omega) hn hC hc r1 r2 hr
def rg12.T8 : Bool × List (List Nat × List Nat) := (true, [([], []), ([], []), ([], []), ([], []), ([3], [3]), ([4], [4]), ([0, 0], [0]), ([6, 0], [6]), ([1, 0, 1, 6, 7], [1]), ([8, 7, 0, 1, 6, 7], [8]), ([2, 0, 1, 2, 3, 4, 5, 6, 7, 8, 9], [2]), ([10, 5, 9, 0, 1, 2, 3, 4, 5, 6, 7, 8, 9], [5, 10])])
def rg12.B8 : List Nat := [0, 0, 0, 0, 8, 24, 1, 65, 195, 451, 1023, 2047]
theorem rg12.tab8 : rtab .any (opsOf Try.f12 8) = rg12.T8 := by kernel_rfl
theorem rg12.bits8 : waitsOk rg12.T8.2 rg12.B8 = true := by kernel_rfl

theorem zeros_split (a b : Nat) : List.replicate (a + b) (0 : Int) = List.replicate a 0 ++ List.replicate b 0 := by rw [List.replicate_append_replicate]
theorem set_other {W : World} {g i q j : Nat} {u val : Value} (hne : q ≠ g) (h : W.cell? ⟨q, j, none⟩ = some val) : (W.setCell ⟨g, i, none⟩ u).cell? ⟨q, j, none⟩ = some val := by
  rw [World.cell?_of_block (Below.heap_setCell W _ _ q hne)]
  exact h
theorem drew_cell {W : World} {q : Addr} {val : Value} (h : W.cell? q = some val) : W.drew.cell? q = some val := by rw [World.cell?_drew]; exact h
theorem R8_set {W : World} {base g n c i : Nat} {l : List Int} (h : R8 W base (.slice (some ⟨g, 0, none⟩) n c) l) (hi : i < n) (x : Int) : R8 (W.setCell ⟨g, i, none⟩ (.int .u8 x)) base (.slice (some ⟨g, 0, none⟩) n c) (l.set i x) := by
  obtain ⟨g', e, _, _, _, hs⟩ := R8_stored h i hi
  cases e
  exact hs x
set_option maxHeartbeats 16000000 in
set_option maxRecDepth 100000 in
theorem encode_C (sq kd s v k se rq : Int) (A : Option Addr) (c n : Nat) (l : List S40) (vn vp vb st of : Int) (x : ByteArray) (w : World) (hn : l.length = n) (hC : Kd.C k40 w A n l) (hc : n ≤ c) (r1 : List Int) (r2 : Int) (hr : recEnc sq kd s v k se rq l vn vp vb st of x = (r1, r2)) :
    Calls Try.prog 12 #[.int .i64 sq, .agg #[.int .i64 kd, .int .i64 s, .int .i64 v, .int .i64 k, .int .i64 se, .int .i64 rq, .slice A n c, .int .i64 vn, .int .i64 vp, .int .i64 vb, .int .i64 st, .int .i64 of, .string x]] w fun e w' => ∃ V, e = .returned (.tuple #[V, .int .i64 r2]) ∧ R8 w' w.heap.size V r1 ∧ Below w.heap.size w w' := by
  have hu24 := Try.underlying24
  have hu26 := Try.underlying26
  have hu28 := Try.underlying28
  have HN := Aside0.mk hn
  have HC := Aside0.mk hC
  have HCC := Aside0.mk hc
  have HR := Aside0.mk hr
  clear hn hC hc hr
  obtain ⟨nx, hnx⟩ : ∃ nx, nx = x.size := ⟨_, rfl⟩
  by_cases hbig : (200000 : Int) < (x.size : Int)
  · have d1 : decide ((200000 : Int) < (x.size : Int)) = true := decide_eq_true hbig
    have d2 : decide (200000 < x.size) = true := decide_eq_true (by omega)
    have hr := HR.out
    unfold recEnc at hr
    rw [if_pos hbig] at hr
    obtain ⟨rfl, rfl⟩ := Prod.mk.inj hr
    clear hr HR hbig
    go_enter Try.func12, Try.ntmps12
    go_wp2
    refine bodyPost_ret (results_tmp2 rfl _ _ _) rfl ?_
    exact ⟨_, rfl, Kd.R_nil _ _ _ _ _, below_alloc (Below.refl _ _) _⟩
  have d1 : decide ((200000 : Int) < (x.size : Int)) = false := decide_eq_false hbig
  have d2 : decide (200000 < x.size) = false := decide_eq_false (by omega)
  obtain ⟨bb, hbb⟩ : ∃ bb, recBody kd s v k se rq l vn vp vb st of x = bb := ⟨_, rfl⟩
  obtain ⟨b, may⟩ := bb
  have HOKB := Aside0.mk (show bytesOk b = true by have h := recBody_ok kd s v k se rq l vn vp vb st of x; rw [hbb] at h; exact h)
  have HLB := Aside0.mk (show b.length ≤ 3000000 by have h := recBody_len kd s v k se rq l vn vp vb st of x; rw [hbb] at h; exact h)
  have hr := HR.out
  unfold recEnc at hr
  rw [if_neg hbig, hbb] at hr
  simp only at hr
  have HR2 := Aside0.mk hr
  have HBB := Aside0.mk hbb
  clear hr HR hbb hbig hnx
  go_enter Try.func12, Try.ntmps12
  go_wp2_with fail
  obtain ⟨p, hp⟩ : ∃ p, p = w.heap.size := ⟨_, rfl⟩
  obtain ⟨w1, hw1⟩ : ∃ w1, w1 = w.alloc (.cells #[.int .i64 kd, .int .i64 s, .int .i64 v, .int .i64 k, .int .i64 se, .int .i64 rq, .slice A n c, .int .i64 vn, .int .i64 vp, .int .i64 vb, .int .i64 st, .int .i64 of, .string x] 28) := ⟨_, rfl⟩
  rw [← hw1, ← hp]
  have HA := Aside0.mk (show Below w.heap.size w w1 by rw [hw1]; exact below_alloc (Below.refl _ _) _)
  have HPB := Aside0.mk (show w1.heap[p]? = some (.cells #[.int .i64 kd, .int .i64 s, .int .i64 v, .int .i64 k, .int .i64 se, .int .i64 rq, .slice A n c, .int .i64 vn, .int .i64 vp, .int .i64 vb, .int .i64 st, .int .i64 of, .string x] 28 (0, 0)) by rw [hw1, hp]; exact heap_alloc_new w _)
  clear hp hw1
  refine (body_C kd s v k se rq A c n l vn vp vb st of x w1 HN.out (Kd.C_below HC.out HA.out) HCC.out b may HBB.out).mono ?_
  rintro e2 w2 ⟨V2, rfl, ho, hb⟩
  obtain ⟨B2, m, c2, rfl, hm, hc2⟩ := R8_form ho
  have HB2 := Aside0.mk (below_step HA.out hb)
  have HO2 := Aside0.mk ho
  have HP2 := Aside0.mk ((hb.block p (blk_lt HPB.out)).trans HPB.out)
  have HM := Aside0.mk hm
  have HW1 := Aside0.mk HA.out.size
  clear ho hb hm d1 d2 hc2
  cases may
  · have hr := HR2.out
    simp only [Bool.false_and, Bool.false_eq_true, if_false] at hr
    obtain ⟨rfl, rfl⟩ := Prod.mk.inj hr
    clear hr HR2
    go_wp2
    refine bodyPost_ret (results_tmp2 rfl _ _ _) rfl ?_
    exact ⟨_, rfl, Kd.R_nil _ _ _ _ _, HB2.out⟩
  by_cases hs1 : sq < 1
  · have d3 : decide (sq < 1) = true := decide_eq_true hs1
    have hr := HR2.out
    rw [show seqOk sq = false by unfold seqOk; rw [decide_eq_false (by omega)]; rfl] at hr
    simp only [Bool.and_false, Bool.false_eq_true, if_false] at hr
    obtain ⟨rfl, rfl⟩ := Prod.mk.inj hr
    clear hr HR2 hs1
    go_wp2
    refine bodyPost_ret (results_tmp2 rfl _ _ _) rfl ?_
    exact ⟨_, rfl, Kd.R_nil _ _ _ _ _, HB2.out⟩
  have d3 : decide (sq < 1) = false := decide_eq_false hs1
  by_cases hs2 : 2147483647 < sq
  · have d4 : decide (2147483647 < sq) = true := decide_eq_true hs2
    have hr := HR2.out
    rw [show seqOk sq = false by unfold seqOk; rw [decide_eq_false (show ¬ sq ≤ 2147483647 by omega)]; simp] at hr
    simp only [Bool.and_false, Bool.false_eq_true, if_false] at hr
    obtain ⟨rfl, rfl⟩ := Prod.mk.inj hr
    clear hr HR2 hs1 hs2
    go_wp2
    refine bodyPost_ret (results_tmp2 rfl _ _ _) rfl ?_
    exact ⟨_, rfl, Kd.R_nil _ _ _ _ _, HB2.out⟩
  have d4 : decide (2147483647 < sq) = false := decide_eq_false hs2
  have hr := HR2.out
  rw [show seqOk sq = true by unfold seqOk; rw [decide_eq_true (show 1 ≤ sq by omega), decide_eq_true (show sq ≤ 2147483647 by omega)]; rfl] at hr
  simp only [Bool.and_self, if_true] at hr
  obtain ⟨rfl, rfl⟩ := Prod.mk.inj hr
  have HSQ := Aside0.mk (show 0 ≤ sq ∧ sq < 4294967296 by omega)
  have hml : m ≤ 3000000 := by rw [← HM.out]; exact HLB.out
  clear hr HR2 hs1 hs2
  go_wp2_with (with_reducible refine stop_make rfl ?_)
  refine mkn8 (C := (m : Int) + 20) w2 w2.heap.size rfl rfl _ _ rfl rfl rfl (by omega) (by omega) (Below.refl _ _) (Nat.le_refl _) ?_
  intro v3 w3 ho hb hg hat
  obtain ⟨m20, hm20⟩ : ∃ m20 : Nat, m20 = m + 20 := ⟨_, rfl⟩
  rw [show ((m : Int) + 20).toNat = m20 by omega] at ho
  have hown := R8_own ho
  rw [List.length_replicate] at hown
  obtain ⟨g, c3, cur, rfl, hc3, hgb, hgh, hsz⟩ := own_some hown (by omega)
  have hp3 := (hg.block p (blk_lt HP2.out) (by simp)).trans HP2.out
  have HPG := Aside0.mk (show p ≠ g from fun e => absurd (typed_ne ⟨_, hp3⟩ (e ▸ ⟨_, hgh⟩ : typed w3 5 p)) (by decide))
  have HO3 := Aside0.mk (show R8 w3.drew w2.heap.size (.slice (some ⟨g, 0, none⟩) m20 c3) (List.replicate m20 0) from R8_keep ho (fun _ _ => rfl))
  have HB3 := Aside0.mk (show Below w2.heap.size w2 w3.drew from below_drew1 hb)
  have HGB := Aside0.mk hgb
  have HW3 := Aside0.mk hb.tape
  have HL1 := Aside0.mk (show (((List.replicate m20 (0 : Int)).set 0 74).set 1 82).set 2 (kd % 256) = [74, 82, kd % 256, 0] ++ List.replicate (m + 16) 0 by
    rw [hm20, show m + 20 = 4 + (m + 16) by omega, zeros_split]
    rfl)
  have HC3 := Aside0.mk hc3
  have HM20 := Aside0.mk hm20
  have KP0 := Aside0.mk (show w3.cell? ⟨p, 0, none⟩ = some (.int .i64 kd) from blk_cell hp3 0)
  have kp0 : w3.drew.cell? ⟨p, 0, none⟩ = some (.int .i64 kd) := blk_cell hp3 0
  obtain ⟨u0, hu0⟩ : ∃ u0, w3.cell? ⟨g, 0, none⟩ = some u0 := by obtain ⟨g', e, _, h, _⟩ := R8_stored ho 0 (by rw [hm20]; omega); cases e; exact ⟨_, h⟩
  obtain ⟨u1, hu1⟩ : ∃ u1, w3.cell? ⟨g, 1, none⟩ = some u1 := by obtain ⟨g', e, _, h, _⟩ := R8_stored ho 1 (by rw [hm20]; omega); cases e; exact ⟨_, h⟩
  obtain ⟨u2, hu2⟩ : ∃ u2, w3.cell? ⟨g, 2, none⟩ = some u2 := by obtain ⟨g', e, _, h, _⟩ := R8_stored ho 2 (by rw [hm20]; omega); cases e; exact ⟨_, h⟩
  have f0 := blk_frozen hgh 0
  have f1 := blk_frozen hgh 1
  have f2 := blk_frozen hgh 2
  have i0 : (0 < m20) = True := eq_true (by omega)
  have i1 : ((1 : Int) < (m20 : Int)) = True := eq_true (by omega)
  have i2 : ((2 : Int) < (m20 : Int)) = True := eq_true (by omega)
  have hmm : m20 ≤ 3000020 := by omega
  clear ho hb hg hat hown hp3 hgb hgh hsz hm20 hc3 d3 d4
  go_wp2
  refine start_ (n := 12) (S := fun w' => w'.cell? ⟨p, 0, none⟩ = some (.int .i64 kd)) (ds := [11]) bq70 (by kernel_rfl) rfl rfl (kp0) (fun hHeld => ?_)
  refine with_tabW rg12.tab8 rg12.bits8 (fun HT_ HW_ => ?_)
  refine pure_ (i := 0) (N := some 34) (v := ?_) (a' := ?_) bq71 rfl rfl (any_of HT_.out (by kernel_rfl)) (fun _ _ _ h => h) (Or.inl ⟨by rfl, ?_⟩) ?_ ?_
  rotate_left
  · intro w'; go_simp; with_reducible rfl
  rotate_left
  · simp only [sxx]; rfl
  refine pure_ (i := 1) (N := some 35) (v := ?_) (a' := ?_) bq72 rfl rfl (any_of HT_.out (by kernel_rfl)) (fun _ _ _ h => h) (Or.inl ⟨by rfl, ?_⟩) ?_ ?_
  rotate_left
  · intro w'; go_simp; with_reducible rfl
  rotate_left
  · simp only [sxx]; rfl
  refine pure_ (i := 2) (N := some 36) (v := ?_) (a' := ?_) bq73 rfl rfl (any_of HT_.out (by kernel_rfl)) (fun _ _ _ h => h) (Or.inl ⟨by rfl, ?_⟩) ?_ ?_
  rotate_left
  · intro w'; go_simp; with_reducible rfl
  rotate_left
  · simp only [sxx]; rfl
  refine pure_ (i := 3) (N := some 37) (v := ?_) (a' := ?_) bq74 rfl rfl (any_of HT_.out (by kernel_rfl)) (fun _ _ _ h => h) (Or.inl ⟨by rfl, ?_⟩) ?_ ?_
  rotate_left
  · intro w'; go_simp; with_reducible rfl
  rotate_left
  · simp only [sxx]; rfl
  refine pure_ (i := 6) (N := some 40) (v := ?_) (a' := ?_) bq75 rfl rfl (any_of HT_.out (by kernel_rfl)) (fun _ _ _ h => h) (Or.inl ⟨by rfl, ?_⟩) ?_ ?_
  rotate_left
  · intro w'; go_simp; with_reducible rfl
  rotate_left
  · simp only [sxx]; rfl
  refine take_ (i := 4) (N := some 38) (v := ?_) (a' := ?_) bq76 rfl rfl (take_ofW HT_.out HW_.out (by kernel_rfl)) (fun _ _ _ h => h) (Or.inl ⟨by rfl, ?_⟩) hHeld ?_ ?_
  rotate_left
  · intro w' s0; go_simp; with_reducible rfl
  rotate_left
  · simp only [sxx]; rfl
  refine pure_ (i := 5) (N := some 39) (v := ?_) (a' := ?_) bq77 rfl rfl (any_of HT_.out (by kernel_rfl)) (fun _ _ _ h => h) (Or.inl ⟨by rfl, ?_⟩) ?_ ?_
  rotate_left
  · intro w'; go_simp; with_reducible rfl
  rotate_left
  · simp only [sxx]; rfl
  refine one_ (i := 7) (N := none) bq78 rfl rfl (one_of HT_.out (by kernel_rfl)) (by decide) (fun K hK => ?_)
  refine skip_ (w1 := ?_) (by rfl) rfl ?_ ?_
  rotate_left
  · go_simp; rfl
  refine hK.out _ _ ((by first | exact set_other HPG.out kp0 | exact drew_cell (set_other HPG.out KP0.out) | exact set_other HPG.out KP0.out)) (fun hHeld => ?_)
  clear hK K
  refine pure_ (i := 8) (N := some 41) (v := ?_) (a' := ?_) bq79 rfl rfl (any_of HT_.out (by kernel_rfl)) (fun _ _ _ h => h) (Or.inl ⟨by rfl, ?_⟩) ?_ ?_
  rotate_left
  · intro w'; go_simp; with_reducible rfl
  rotate_left
  · simp only [sxx]; rfl
  refine one_ (i := 9) (N := none) bq80 rfl rfl (one_of HT_.out (by kernel_rfl)) (by decide) (fun K hK => ?_)
  refine skip_ (w1 := ?_) (by rfl) rfl ?_ ?_
  rotate_left
  · go_simp; rfl
  refine hK.out _ _ ((by first | exact set_other HPG.out (set_other HPG.out kp0) | exact drew_cell (set_other HPG.out (set_other HPG.out KP0.out)) | exact set_other HPG.out (set_other HPG.out KP0.out) | exact set_other HPG.out (drew_cell (set_other HPG.out KP0.out)))) (fun hHeld => ?_)
  clear hK K
  refine pure_ (i := 10) (N := some 42) (v := ?_) (a' := ?_) bq81 rfl rfl (any_of HT_.out (by kernel_rfl)) (fun _ _ _ h => h) (Or.inl ⟨by rfl, ?_⟩) ?_ ?_
  rotate_left
  · intro w'; go_simp; with_reducible rfl
  rotate_left
  · simp only [sxx]; rfl
  refine last_ (i := 11) (N := none) bq82 rfl rfl (one_of HT_.out (by kernel_rfl)) (by decide) (fun K hK => ?_)
  refine skip_ (w1 := ?_) (by rfl) rfl ?_ ?_
  rotate_left
  · go_simp; rfl
  refine hK.out _ _ ?_
  clear hK K
  refine done_ (done_of HT_.out (by kernel_rfl)) ?_
  obtain ⟨w8, hw8⟩ : ∃ w8, w8 = (((w3.setCell ⟨g, 0, none⟩ (.int .u8 74)).setCell ⟨g, 1, none⟩ (.int .u8 82)).setCell ⟨g, 2, none⟩ (.int .u8 (kd % 256))).drew := ⟨_, rfl⟩
  rw [show IntKind.u8.wrap kd = kd % 256 from IntKind.wrap_u8 kd]
  rw [← hw8]
  have HO8 := Aside0.mk (show R8 w8 w2.heap.size (.slice (some ⟨g, 0, none⟩) m20 c3) ([74, 82, kd % 256, 0] ++ List.replicate (m + 16) 0) by
    have h3 : R8 w3 w2.heap.size (.slice (some ⟨g, 0, none⟩) m20 c3) (List.replicate m20 0) := R8_keep HO3.out (fun _ _ => rfl)
    have h0 : 2 < m20 := by have := HM20.out; omega
    have h := R8_set (R8_set (R8_set h3 (i := 0) (by omega) 74) (i := 1) (by omega) 82) (i := 2) h0 (kd % 256)
    rw [HL1.out] at h
    rw [hw8]
    exact R8_keep h (fun _ _ => rfl))
  have HB8 := Aside0.mk (show Below w2.heap.size w2 w8 by
    have h3 : Below w2.heap.size w2 w3 := ⟨HB3.out.os, HW3.out, HB3.out.output, HB3.out.size, HB3.out.block⟩
    rw [hw8]
    exact below_drew1 (((h3.setCell HGB.out _).setCell HGB.out _).setCell HGB.out _))
  clear hw8 u0 hu0 u1 hu1 u2 hu2 f0 f1 f2 i0 i1 i2 kp0
  go_wp2_with fail
  refine (put_N (some ⟨g, 0, none⟩) m20 c3 [74, 82, kd % 256, 0] (List.replicate 4 0) (List.replicate (m + 12) 0) _ 4 sq w2 w8 (by rw [show m + 16 = 4 + (m + 12) by omega, zeros_split 4 (m + 12)]) rfl (by rw [List.length_replicate]) HSQ.out.1 HSQ.out.2 (by rw [List.length_replicate]; simp only [List.length_cons, List.length_nil]; omega) HB8.out HO8.out).mono ?_
  rintro e9 w9 ⟨rfl, ho, hb⟩
  have HO9 := Aside0.mk ho
  have HB9 := Aside0.mk hb
  clear ho hb HO8
  go_wp2_with fail
  refine (put_N (some ⟨g, 0, none⟩) m20 c3 ([74, 82, kd % 256, 0] ++ four4 sq) (List.replicate 4 0) (List.replicate (m + 8) 0) _ 8 (m : Int) w2 w9 (by rw [show m + 12 = 4 + (m + 8) by omega, zeros_split 4 (m + 8), List.append_assoc]) rfl (by rw [List.length_replicate]) (by omega) (by omega) (by rw [List.length_replicate, List.length_append, four4_len]; simp only [List.length_cons, List.length_nil]; omega) HB9.out HO9.out).mono ?_
  rintro e10 w10 ⟨rfl, ho, hb⟩
  obtain ⟨H, hH⟩ : ∃ H, recHead sq kd m = H := ⟨_, rfl⟩
  have HH := Aside0.mk hH
  have HHL := Aside0.mk (show H.length = 12 by rw [← hH]; exact recHead_len kd sq m)
  have HHO := Aside0.mk (show bytesOk H = true by rw [← hH]; exact recHead_ok kd sq m)
  have HO10 := Aside0.mk (show R8 w10 w2.heap.size (.slice (some ⟨g, 0, none⟩) m20 c3) (H ++ List.replicate (m + 8) 0) by rw [← hH]; unfold recHead; rw [List.append_assoc ([74, 82, kd % 256, 0] ++ four4 sq)]; exact ho)
  have HB10 := Aside0.mk hb
  clear ho hb HO9 hH
  go_wp2_with (with_reducible refine stop_slice rfl ?_)
  refine to8 (j := 12) rfl _ _ rfl rfl rfl (by decide) (by have := HC3.out; have := HM20.out; omega) ?_
  go_wp2_with fail
  refine (sum_N (some ⟨g, 0, none⟩) 12 c3 H w10 HHL.out (by have := HC3.out; have := HM20.out; omega) (by
    have h := (cutt8 (A := some ⟨g, 0, none⟩) (n := m20) (c := c3) (xs := H ++ List.replicate (m + 8) 0) 12 (by have := HM20.out; omega) HC3.out).2 w10 (R8_C HO10.out)
    rwa [List.take_left' HHL.out] at h) HHO.out).mono ?_
  rintro e11 w11 ⟨rfl, hb⟩
  have HB11 := Aside0.mk (HB10.out.trans (hb.mono HB10.out.size))
  have HO11 := Aside0.mk (R8_keep HO10.out (fun k_ hk_ => hb.block k_ (R8_lt HO10.out k_ hk_).2))
  obtain ⟨s1, hs1⟩ : ∃ s1, sumW H = s1 := ⟨_, rfl⟩
  rw [hs1]
  have HS1 := Aside0.mk (show 0 ≤ s1 ∧ s1 < 4294967296 by rw [← hs1]; exact sumW_range H HHO.out)
  have HS1E := Aside0.mk hs1
  clear hb HO10 hs1
  go_wp2_with fail
  refine (put_N (some ⟨g, 0, none⟩) m20 c3 H (List.replicate 4 0) (List.replicate (m + 4) 0) _ 12 s1 w2 w11 (by rw [show m + 8 = 4 + (m + 4) by omega, zeros_split 4 (m + 4)]) (by rw [HHL.out]; rfl) (by rw [List.length_replicate]) HS1.out.1 HS1.out.2 (by rw [List.length_replicate, HHL.out]; omega) HB11.out HO11.out).mono ?_
  rintro e12 w12 ⟨rfl, ho, hb⟩
  obtain ⟨G, hG⟩ : ∃ G, withSum H = G := ⟨_, rfl⟩
  have HG := Aside0.mk hG
  have HGL := Aside0.mk (show G.length = 16 by rw [← hG, withSum_len, HHL.out])
  have HGO := Aside0.mk (show bytesOk G = true by rw [← hG]; exact withSum_ok HHO.out)
  have HO12 := Aside0.mk (show R8 w12 w2.heap.size (.slice (some ⟨g, 0, none⟩) m20 c3) (G ++ List.replicate (m + 4) 0) by rw [← hG]; unfold withSum; rw [HS1E.out, List.append_assoc]; exact ho)
  have HB12 := Aside0.mk hb
  have HCB := Aside0.mk (show C8 w12 B2 m b from Kd.C_below (R8_C HO2.out) hb)
  clear ho hb HO11 hG
  go_wp2_with (with_reducible refine stop_slice rfl ?_)
  refine from8g (j := 16) (kl := .i64) rfl _ _ rfl rfl rfl (by have := HM20.out; omega) HC3.out (by have := HC3.out; have := HM20.out; omega) ?_
  go_wp2_with (with_reducible refine stop_copy rfl ?_)
  refine copy8_at w2 w2.heap.size rfl _ _ rfl rfl rfl HO12.out HCB.out HB12.out (by have := HM20.out; omega) (by have := HM20.out; omega) ?_
  intro w13 ho hb
  have HO13 := Aside0.mk (show R8 w13 w2.heap.size (.slice (some ⟨g, 0, none⟩) m20 c3) ((G ++ b) ++ List.replicate 4 0) by
    rw [List.take_left' HGL.out, ← List.drop_drop, List.drop_left' HGL.out, List.drop_replicate, show m + 4 - m = 4 by omega, ← List.append_assoc] at ho
    exact ho)
  have HB13 := Aside0.mk hb
  have HGBL := Aside0.mk (show (G ++ b).length = 16 + m by rw [List.length_append, HGL.out, HM.out])
  have HGBO := Aside0.mk (show bytesOk (G ++ b) = true from bytesOk_append HGO.out HOKB.out)
  obtain ⟨m16, hm16⟩ : ∃ m16 : Nat, m16 = 16 + m := ⟨_, rfl⟩
  have hmc : (16 : Int) + (m : Int) = (m16 : Int) := by omega
  have HM16 := Aside0.mk hm16
  clear ho hb HO12 HCB hm16
  go_wp2_with (with_reducible refine stop_slice rfl ?_)
  refine to8 (j := (m16 : Int)) (kh := .i64) rfl _ _ rfl rfl rfl (by omega) (by have := HC3.out; have := HM20.out; have := HM16.out; omega) ?_
  rw [Int.toNat_natCast]
  go_wp2_with fail
  refine (sum_N (some ⟨g, 0, none⟩) m16 c3 (G ++ b) w13 (by rw [HGBL.out, HM16.out]) (by have := HC3.out; have := HM20.out; have := HM16.out; omega) (by
    have h := (cutt8 (A := some ⟨g, 0, none⟩) (n := m20) (c := c3) (xs := (G ++ b) ++ List.replicate 4 0) m16 (by have := HM20.out; have := HM16.out; omega) HC3.out).2 w13 (R8_C HO13.out)
    rwa [List.take_left' (by rw [HGBL.out, HM16.out])] at h) HGBO.out).mono ?_
  rintro e14 w14 ⟨rfl, hb⟩
  have HB14 := Aside0.mk (HB13.out.trans (hb.mono HB13.out.size))
  have HO14 := Aside0.mk (R8_keep HO13.out (fun k_ hk_ => hb.block k_ (R8_lt HO13.out k_ hk_).2))
  obtain ⟨s2, hs2⟩ : ∃ s2, sumW (G ++ b) = s2 := ⟨_, rfl⟩
  rw [hs2]
  have HS2 := Aside0.mk (show 0 ≤ s2 ∧ s2 < 4294967296 by rw [← hs2]; exact sumW_range _ HGBO.out)
  have HS2E := Aside0.mk hs2
  clear hb HO13 hs2
  go_wp2_with fail
  refine (put_N (some ⟨g, 0, none⟩) m20 c3 (G ++ b) (List.replicate 4 0) [] _ (m16 : Int) s2 w2 w14 (by rw [List.append_nil]) (by rw [HGBL.out, HM16.out]) (by rw [List.length_replicate]) HS2.out.1 HS2.out.2 (by rw [HGBL.out]; simp only [List.length_nil]; omega) HB14.out HO14.out).mono ?_
  rintro e15 w15 ⟨rfl, ho, hb⟩
  have HO15 := Aside0.mk (show R8 w15 w2.heap.size (.slice (some ⟨g, 0, none⟩) m20 c3) (recBytes sq kd b) by
    unfold recBytes
    rw [HM.out, HH.out, HG.out]
    unfold withSum
    rw [HS2E.out]
    rw [List.append_nil] at ho
    exact ho)
  have HB15 := Aside0.mk (below_step HB2.out hb)
  clear ho hb HO14 hmc
  go_wp2
  refine bodyPost_ret (results_tmp2 rfl _ _ _) rfl ?_
  exact ⟨_, rfl, Kd.R_lower HO15.out HB2.out.size, HB15.out⟩

theorem entry_l0 (l : List S40) (hl : l.length ≤ 3000000000000) (s v k se rq : Int) (d : Nat) : ∀ (r i : Nat), i + d = l.length → d < r → heraldlaw7_entry.l0 r (i : Int) s v k se rq l s v k se rq l = some true := by
  induction d with
  | zero =>
    intro r i hi hr
    obtain ⟨r, rfl⟩ : ∃ m, r = m + 1 := ⟨r - 1, by omega⟩
    simp only [heraldlaw7_entry.l0]
    rw [if_neg (by omega)]
  | succ d ih =>
    intro r i hi hr
    obtain ⟨r, rfl⟩ : ∃ m, r = m + 1 := ⟨r - 1, by omega⟩
    have hw : wrap64 ((i : Int) + 1) = ((i + 1 : Nat) : Int) := by unfold wrap64; omega
    simp only [heraldlaw7_entry.l0]
    rw [if_pos (by omega), if_pos (by omega), if_pos (by omega), hw, ih r (i + 1) (by omega) (by omega)]
    simp
theorem entry_self (l : List S40) (hl : l.length ≤ 3000000000000) (s v k se rq : Int) (r : Nat) (hr : l.length + 2 ≤ r) : heraldlaw7_entry.f r s v k se rq l s v k se rq l = some true := by
  obtain ⟨r, rfl⟩ : ∃ m, r = m + 1 := ⟨r - 1, by omega⟩
  unfold heraldlaw7_entry.f
  simp only [if_true, heraldlaw7_entry.j0, bne_self_eq_false, Bool.false_eq_true, if_false]
  exact entry_l0 l hl s v k se rq l.length r 0 (by omega) (by omega)
theorem entry_N (s v k se rq : Int) (l : List S40) (A B : Option Addr) (c d n : Nat) (w : World) (hn : l.length = n) (hm : n ≤ 3000000000000) (hA : Kd.C k40 w A n l) (hc : n ≤ c) (hB : Kd.C k40 w B n l) (hd : n ≤ d) :
    Calls Try.prog 34 #[.agg #[.int .i64 s, .int .i64 v, .int .i64 k, .int .i64 se, .int .i64 rq, .slice A n c], .agg #[.int .i64 s, .int .i64 v, .int .i64 k, .int .i64 se, .int .i64 rq, .slice B n d]] w fun e w' => e = .returned (.bool true) ∧ Below w.heap.size w w' := by
  subst hn
  exact heraldlaw7_entry.calls (l.length + 2) s v k se rq A c l s v k se rq B d l true w hA hc hB hd (entry_self l hm s v k se rq _ (Nat.le_refl _))

def opCells (o : S40) : List Value := [.int .i64 o.f0, .string o.f1, .string o.f2, .int .i64 o.f3, .int .i64 o.f4]
abbrev R40 (w : World) (base : Nat) (v : Value) (l : List S40) : Prop := Kd.R k40 40 w base (fun _ => True) v l
theorem R40_form {W : World} {base : Nat} {v : Value} {l : List S40} (h : R40 W base v l) : ∃ A n c, v = .slice A n c ∧ l.length = n ∧ n ≤ c ∧ Kd.C k40 W A n l := by
  obtain ⟨A, c, e, h1, h2⟩ := Kd.R_reads h
  exact ⟨A, _, c, e, rfl, h1, h2⟩
theorem R40_type {W : World} {base : Nat} {v : Value} {l : List S40} (h : R40 W base v l) : ∀ k, v.ownBlock = some k → typed W 40 k := Kd.R_typed h
theorem k40_only {t : Nat} (h : t ∈ 40 :: k40.E) : t = 40 := by
  have h' : t ∈ [40] := h
  simpa using h'
section
variable {ops : Array Oper} {o : Oper} {a : Act} {Q : Exit → Act → World → Prop} {rest : List Oper} {W : World}
/-- append(v, p) of ops. -/
theorem appOp (w0 : World) (base : Nat) (hgd : o.guard = none) (s x : Operand) (ho : o.op = .call { callee := .builtin .append, args := #[s, x], argTypes := #[22, 22] })
    {v : Value} {xs : List S40} (p : S40) (hs : a.eval s = v) (hx : a.eval x = .slice (some ⟨W.heap.size, 0, none⟩) 1 1) (HO : R40 W base v xs) (HB : Below base w0 W) (hbase : base ≤ W.heap.size) (hl : xs.length ≤ 2513169434843)
    (h : ∀ v1 w1, R40 w1 base v1 (xs ++ [p]) → Below base w0 w1 → W.grownBy w1 v.ownBlock → (v1.ownBlock = v.ownBlock ∨ ∃ b, v1.ownBlock = some b ∧ W.heap.size ≤ b) → wpList Try.prog ops Q rest (a.put o.dst v1) w1) :
    Stop (wpList Try.prog ops Q (o :: rest) a (W.alloc (.cells (opCells p).toArray 40))) :=
  Kd.R_append k40 (w0 := w0) base hgd s x 22 40 _ 56 ho Try.underlying22 info40 rfl (by decide) (by decide) v xs p (opCells p) (fun _ => True) (fun _ => False) hs hx (k40_mkM W base _ p) (fun _ h => h.elim) (fun _ _ => trivial) HO HB hbase (by omega) h
end

theorem recEnc_len (kd s v k se rq : Int) (l : List S40) (vn vp vb st of : Int) (x : ByteArray) (sq : Int) : (recEnc sq kd s v k se rq l vn vp vb st of x).1.length ≤ 4000000 := by
  have hb := recBody_len kd s v k se rq l vn vp vb st of x
  unfold recEnc
  split
  · simp
  · split
    · unfold recBytes
      rw [withSum_len, List.length_append, withSum_len, recHead_len]
      omega
    · simp
theorem num_N (a : Int) (w : World) : Calls Try.prog 14 #[.int .i64 a] w fun e w' => e = .returned (.int .i64 a) ∧ Drawn0 w w' := heraldlaw7_num.calls a a w rfl
theorem R40_C {W : World} {base n c : Nat} {A : Option Addr} {l : List S40} (h : R40 W base (.slice A n c) l) : Kd.C k40 W A n l := by
  have h2 := Kd.R_reads' h
  have hn := h2.1
  subst hn
  exact h2.2.2
theorem R40_other {W w1 : World} {base q : Nat} {v : Value} {l : List S40} {cs : Array Value} (h : R40 W base v l) (hq : W.heap[q]? = some (.cells cs 28 (0, 0))) (hg : W.grownBy w1 (some q)) : R40 w1 base v l := by
  have h2 := Kd.R_types h hq (t := 28) (fun t ht => by rw [k40_only ht]; decide)
  exact Kd.R_mono (Kd.R_grown h2 hg (fun k hk e => hk.2 (by cases e; rfl))) (fun _ _ => trivial)
section
variable {ops : Array Oper} {o : Oper} {a : Act} {Q : Exit → Act → World → Prop} {rest : List Oper} {W : World}
end
section
variable {ops : Array Oper} {o : Oper} {a : Act} {Q : Exit → Act → World → Prop} {rest : List Oper} {W : World}
/-- A struct stored into a block that is known whole. -/
theorem store_blk (hN : o.dst = none) (hgd : o.guard = none) (t : TypeId) (p x : Operand) (ho : o.op = .store t p x) {q i e : Nat} {cur cur' : Array Value} (cs : List Value) (haddr : a.eval p = .pointer (some ⟨q, i, none⟩)) (hx : a.eval x = .agg cs.toArray)
    (hc : (Value.agg cs.toArray).cells.toList = cs) (ht : (Try.prog.info? t).map (·.size) = some cs.length) (h1 : ∀ u ∈ cs, u.oneCell' = true) (hh : W.heap[q]? = some (.cells cur e (0, 0))) (hfit : i + cs.length ≤ cur.size)
    (hcur : cur.toList.take i ++ cs ++ cur.toList.drop (i + cs.length) = cur'.toList)
    (h : ∀ w1, w1.heap[q]? = some (.cells cur' e (0, 0)) → W.grownBy w1 (some q) → wpList Try.prog ops Q rest a w1) : Stop (wpList Try.prog ops Q (o :: rest) a W) := by
  obtain ⟨cur2, k1, k2, k3⟩ := setCells_row cs i W cur hh hfit
  have e2 : cur2 = cur' := by
    apply Array.toList_inj.1
    rw [k3, hcur]
  subst e2
  obtain ⟨s1, s2, s3, s4⟩ := setCells_same q cs i W
  refine wpList_plain hgd fun K hK => ?_
  have hrun := run_store_run (P := Try.prog) t (.agg cs.toArray) cs hh hc ht hfit h1
  unfold Oper.wp execOp
  simp only [ho, haddr, hx, Sem.run_bind, Sem.run_pure, Result.andThen_ok, hrun]
  show K (a.put o.dst undef) _
  rw [hN]
  exact hK a _ (h _ k1 ⟨s1, s2, s3, Nat.le_of_eq s4.symm, fun k _ hk => setCells_far cs i k (fun e => hk (by rw [e]))⟩)
end

abbrev recCells (kd s v k se rq : Int) (B : Option Addr) (nb cb : Nat) (vn vp vb st of : Int) (x : ByteArray) : Array Value := #[.int .i64 kd, .int .i64 s, .int .i64 v, .int .i64 k, .int .i64 se, .int .i64 rq, .slice B nb cb, .int .i64 vn, .int .i64 vp, .int .i64 vb, .int .i64 st, .int .i64 of, .string x]
/-- A record: its numbers, its operations, its state. -/
structure JR where
  kd : Int
  s : Int
  v : Int
  k : Int
  se : Int
  rq : Int
  ops : List S40
  vn : Int
  vp : Int
  vb : Int
  st : Int
  of : Int
  x : ByteArray
abbrev JR.cells (y : JR) (A : Option Addr) (c : Nat) : Array Value := recCells y.kd y.s y.v y.k y.se y.rq A y.ops.length c y.vn y.vp y.vb y.st y.of y.x
/-- What a round of a range over Walk is handed. -/
abbrev jargs (k : Nat) (y : JR) (A : Option Addr) (c : Nat) : Array Value := #[.int .i64 ((k : Int) + 1), .agg (y.cells A c)]
abbrev zeroRec : Value := .agg (recCells 0 0 0 0 0 0 none 0 0 0 0 0 0 0 ⟨#[]⟩)
/-- What read (71) answers of bytes l under number sq: a record and how long it is, or nothing. -/
def RdSpec (l : List Int) (sq : Int) : Option (JR × Nat) → Prop
  | some (y, m) => ∀ (w : World) (A : Option Addr) (n c : Nat), l.length = n → n ≤ c → C8 w A n l → Calls Try.prog 71 #[.slice A n c, .int .i64 sq] w fun e w' =>
      ∃ B cb, e = .returned (.tuple #[.agg (y.cells B cb), .int .i64 (m : Int), .bool true]) ∧ R40 w' w.heap.size (.slice B y.ops.length cb) y.ops ∧ Below w.heap.size w w'
  | none => ∀ (w : World) (A : Option Addr) (n c : Nat), l.length = n → n ≤ c → C8 w A n l → Calls Try.prog 71 #[.slice A n c, .int .i64 sq] w fun e w' =>
      e = .returned (.tuple #[zeroRec, .int .i64 0, .bool false]) ∧ Below w.heap.size w w'
/-- The records that read finds in l from place at and number k + 1 on. -/
def Walks (l : List Int) : Nat → Nat → List JR → Prop
  | at_, k, [] => RdSpec (l.drop at_) ((k : Int) + 1) none
  | at_, k, y :: L => ∃ m, RdSpec (l.drop at_) ((k : Int) + 1) (some (y, m)) ∧ 20 ≤ m ∧ at_ + m ≤ l.length ∧ Walks l (at_ + m) (k + 1) L

theorem results71_row (tmps : Array Value) (w : World) (p4 p5 p6 : Nat) (cs : Array Value) (m : Int) (b : Bool) (h4 : tmps[4]? = some (.pointer (some ⟨p4, 0, none⟩))) (h5 : tmps[5]? = some (.pointer (some ⟨p5, 0, none⟩))) (h6 : tmps[6]? = some (.pointer (some ⟨p6, 0, none⟩)))
    (hg : w.heap[p4]? = some (.cells cs 28 (0, 0))) (hs : cs.size = 13) (c5 : w.cell? ⟨p5, 0, none⟩ = some (.int .i64 m)) (c6 : w.cell? ⟨p6, 0, none⟩ = some (.bool b)) :
    (results Try.f71 tmps).run Try.prog w = .ok (.tuple #[.agg cs, .int .i64 m, .bool b]) w := by
  have hl := run_loadVar_row (P := Try.prog) w p4 28 28 cs (0, 0) _ hg Try.underlying28 rfl (by rw [hs]; kernel_rfl)
  have hl5 : (loadVar 3 ⟨p5, 0, none⟩).run Try.prog w = .ok (.int .i64 m) w := by simp [go_sem, c5]
  have hl6 : (loadVar 4 ⟨p6, 0, none⟩).run Try.prog w = .ok (.bool b) w := by simp [go_sem, c6]
  simp [results, Try.results71, h4, h5, h6, asAddr, hl, hl5, hl6, Sem.run_bind, Sem.run_pure, Result.andThen_ok]
/-- read returns. -/
theorem door71 {R : Ending → World → Prop} {a : Act} {w : World} {p q r v : Value} (hd : a.defers = [{ target := .fn (.func 82) #[p, q, r], args := #[] }]) (hres : (results Try.f71 a.tmps).run Try.prog w = .ok v w) (hR : R (.returned v) w) :
    bodyPostD Try.prog Try.f71 R Exit.ret a w := by
  show Leaves Try.prog Try.f71 a.tmps R a.defers .returning w
  rw [hd]
  refine leaves_cons (f := 82) (args := #[p, q, r]) (by simp) (by simp [go_sem]) ?_
  refine (read_idle _ _ _ _).mono ?_
  rintro e u' w'' ⟨rfl, rfl, rfl⟩
  exact ⟨v, hres, hR⟩

theorem four_N (A : Option Addr) (n c : Nat) (l : List Int) (r : Int) (w : World) (hn : l.length = n) (hc : n ≤ c) (hC : C8 w A n l) (h : journal_four.f l = some r) :
    Calls Try.prog 83 #[.slice A n c] w fun e w' => e = .returned (.int .i64 r) ∧ Below w.heap.size w w' := by
  subst hn
  refine (journal_four.calls A c l r w hC hc h).mono ?_
  rintro e w' ⟨rfl, hd⟩
  exact ⟨rfl, hd.below⟩
theorem leaves_congr {P : Program} {fn : Func} {t t' : Array Value} {R : Ending → World → Prop} (h : results fn t = results fn t') : ∀ (ds : List Deferred) (u : FrameMode) (w : World), Leaves P fn t R ds u w = Leaves P fn t' R ds u w := by
  intro ds
  induction ds with
  | nil =>
    intro u w
    cases u <;> simp [Leaves, h]
  | cons d ds ih =>
    intro u w
    simp only [Leaves, ih]
theorem hq71 {K K1 : Act → World → Prop} {R : Ending → World → Prop} {N : Option Tmp} {v : Value} (hN : N ≠ some 4 ∧ N ≠ some 5 ∧ N ≠ some 6) (c : List PanicEntry) (a : Act) (w : World) (h : Exit.then K (Exit.then K1 (bodyPostD Try.prog Try.f71 R)) (.panic c) (a.put N v) w) :
    Exit.then K (Exit.then K1 (bodyPostD Try.prog Try.f71 R)) (.panic c) a w := by
  cases N with
  | none => exact h
  | some m =>
    have h' : Leaves Try.prog Try.f71 (a.tmps.setIfInBounds m v) R a.defers (.panicking c) w := h
    have e : results Try.f71 (a.tmps.setIfInBounds m v) = results Try.f71 a.tmps := by
      have h4 : (a.tmps.setIfInBounds m v)[4]? = a.tmps[4]? := Array.getElem?_setIfInBounds_ne (fun e => hN.1 (by rw [e]))
      have h5 : (a.tmps.setIfInBounds m v)[5]? = a.tmps[5]? := Array.getElem?_setIfInBounds_ne (fun e => hN.2.1 (by rw [e]))
      have h6 : (a.tmps.setIfInBounds m v)[6]? = a.tmps[6]? := Array.getElem?_setIfInBounds_ne (fun e => hN.2.2 (by rw [e]))
      simp [results, Try.results71, h4, h5, h6]
    show Leaves Try.prog Try.f71 a.tmps R a.defers (.panicking c) w
    rw [← leaves_congr e]
    exact h'
theorem hq71a {K : Act → World → Prop} {R : Ending → World → Prop} {N : Option Tmp} {v : Value} (hN : N ≠ some 4 ∧ N ≠ some 5 ∧ N ≠ some 6) (c : List PanicEntry) (a : Act) (w : World) (h : Exit.then K (bodyPostD Try.prog Try.f71 R) (.panic c) (a.put N v) w) :
    Exit.then K (bodyPostD Try.prog Try.f71 R) (.panic c) a w := hq71 (K := K) (K1 := K) hN c a w h
/-- A struct stored into a block that is known whole, as an arm of a drawn region. -/
theorem store_arm {oi : Oper} {a : Act} {w : World} {K : Act → World → Prop} {Q : Exit → Act → World → Prop} (t : TypeId) (p x : Operand) (hop : oi.op = .store t p x) {ops : Array Oper} (hw : Region.wanted oi (yielded ops a.tmps) = true) (hN : oi.dst = none) {q i e : Nat} {cur cur' : Array Value} (cs : List Value)
    (haddr : a.eval p = .pointer (some ⟨q, i, none⟩)) (hx : a.eval x = .agg cs.toArray) (hc : (Value.agg cs.toArray).cells.toList = cs) (ht : (Try.prog.info? t).map (·.size) = some cs.length) (h1 : ∀ u ∈ cs, u.oneCell' = true) (hh : w.heap[q]? = some (.cells cur e (0, 0))) (hfit : i + cs.length ≤ cur.size)
    (hcur : cur.toList.take i ++ cs ++ cur.toList.drop (i + cs.length) = cur'.toList) (h : ∀ w1, w1.heap[q]? = some (.cells cur' e (0, 0)) → w.grownBy w1 (some q) → K a w1) :
    if Region.wanted oi (yielded ops a.tmps) = true then Oper.wp Try.prog oi a w K Q else K (a.put none undef) w := by
  obtain ⟨cur2, k1, k2, k3⟩ := setCells_row cs i w cur hh hfit
  have e2 : cur2 = cur' := by
    apply Array.toList_inj.1
    rw [k3, hcur]
  subst e2
  obtain ⟨s1, s2, s3, s4⟩ := setCells_same q cs i w
  have hrun := run_store_run (P := Try.prog) t (.agg cs.toArray) cs hh hc ht hfit h1
  refine skip_ hw hN ?_ (h _ k1 ⟨s1, s2, s3, Nat.le_of_eq s4.symm, fun k _ hk => setCells_far cs i k (fun e => hk (by rw [e]))⟩)
  unfold execOp
  simp only [hop, haddr, hx, Sem.run_bind, Sem.run_pure, Result.andThen_ok, hrun]
theorem cutm8 {A : Option Addr} {n c : Nat} {xs : List Int} (j k : Nat) (hj : j ≤ k) (hk : k ≤ n) (hc : n ≤ c) :
    ∃ A', (∀ W : World, (Instr.slice 29 (.slice A n c) (some (.int .i64 (j : Int))) (some (.int .i64 (k : Int))) none).run Try.prog W = .ok (.slice A' (k - j) (c - j)) W) ∧ ∀ W : World, C8 W A n xs → C8 W A' (k - j) ((xs.take k).drop j) := by
  obtain ⟨i0, hi, hzz⟩ := Option.map_eq_some_iff.1 info5'
  simp only [Prod.mk.injEq] at hzz
  have hrun := cut_mid (P := Try.prog) 29 5 .i64 .i64 Try.underlying29 hi 1 hzz.2.1 A n c (j : Int) (k : Int) (by omega) (by omega) (by omega) hc
  refine ⟨_, hrun, fun W HR => ?_⟩
  obtain rfl : xs.length = n := HR.1
  have hd := Kd.C_mid (lo := j) (hi := k) HR hj hk hc
  rw [List.length_drop, List.length_take, Nat.min_eq_left hk] at hd
  rw [Int.toNat_natCast]
  exact hd
theorem wr_sub20 {n : Nat} (h0 : 20 ≤ n) (h : n ≤ 1000000000000) : wrap64 ((n : Int) - 20) = (n : Int) - 20 := by unfold wrap64; omega
theorem wr_kd {k : Int} (h0 : 0 ≤ k) (h : k < 256) : wrap64 k = k := by unfold wrap64; omega
theorem wr_add16 {n : Nat} (h : n ≤ 1000000000000) : wrap64 (16 + (n : Int)) = 16 + (n : Int) := by unfold wrap64; omega
theorem wr_add20 {n : Nat} (h : n ≤ 1000000000000) : wrap64 ((n : Int) + 20) = (n : Int) + 20 := by unfold wrap64; omega
set_option maxHeartbeats 16000000 in
set_option maxRecDepth 100000 in
theorem read_ok (w : World) (A : Option Addr) (n c : Nat) (l : List Int) (sq : Int) (m : Nat) (kd s v k se rq : Int) (l2 : List S40) (vn vp vb st of : Int) (x : ByteArray) (r1 : List Int)
    (hn : l.length = n) (hc : n ≤ c) (hmx : n ≤ 1000000000000) (hok : bytesOk l = true) (hC : C8 w A n l)
    (h20 : 20 + m ≤ n) (h0 : rd l 0 = 74) (h1 : rd l 1 = 82) (h2 : rd l 2 = kd) (h3 : rd l 3 = 0)
    (h4 : journal_four.f (l.drop 4) = some sq) (h8 : journal_four.f (l.drop 8) = some (m : Int)) (h12 : journal_four.f (l.drop 12) = some (sumW (l.take 12))) (h16 : journal_four.f (l.drop (16 + m)) = some (sumW (l.take (16 + m))))
    (hE : recEnc sq kd s v k se rq l2 vn vp vb st of x = (r1, 0))
    (hrec : ∀ (w1 : World) (rb : Nat) (A' : Option Addr) (c' : Nat), Below w.heap.size w w1 → w.heap.size ≤ rb → m ≤ c' → w1.heap[rb]? = some (.cells #[.slice A' m c', .int .i64 0] 147 (0, 0)) → C8 w A' m ((l.take (16 + m)).drop 16) →
      Calls Try.prog 84 #[.pointer (some ⟨rb, 0, none⟩), .int .i64 kd] w1 fun e w' => ∃ B nb cb, e = .returned (.agg (recCells kd s v k se rq B nb cb vn vp vb st of x)) ∧ l2.length = nb ∧ R40 w' w1.heap.size (.slice B nb cb) l2 ∧ Frm w1 w' (fun k => k = rb)) :
    Calls Try.prog 71 #[.slice A n c, .int .i64 sq] w fun e w' => ∃ B nb cb, e = .returned (.tuple #[.agg (recCells kd s v k se rq B nb cb vn vp vb st of x), .int .i64 ((m : Int) + 20), .bool true]) ∧ l2.length = nb ∧ R40 w' w.heap.size (.slice B nb cb) l2 ∧ Below w.heap.size w w' := by
  have hu28 := Try.underlying28
  have hu26 := Try.underlying26
  have hu24 := Try.underlying24
  have hu147 := Try.underlying147
  have hmf : ∀ (fn : Fn) (first cap : Array Value) (w : World), (Instr.makeFunc fn first cap).run Try.prog w = .ok (.func fn first cap) w := fun _ _ _ _ => rfl
  have hkd := wr_kd (bytesOk_rd hok 2 (by omega)).1 (bytesOk_rd hok 2 (by omega)).2
  replace hkd : wrap64 kd = kd := by rw [← h2]; exact hkd
  have HKD := Aside0.mk hkd
  clear hkd
  obtain ⟨ad, rfl, hb0⟩ := Kd.at_int hC 0 (by decide) (by omega)
  obtain ⟨ad1, e1, hb1⟩ := Kd.at_int hC 1 (by decide) (by omega)
  cases e1
  obtain ⟨ad1, e1, hb2⟩ := Kd.at_int hC 2 (by decide) (by omega)
  cases e1
  obtain ⟨ad1, e1, hb3⟩ := Kd.at_int hC 3 (by decide) (by omega)
  cases e1
  rw [h0] at hb0
  rw [h1] at hb1
  rw [h2] at hb2
  rw [h3] at hb3
  obtain ⟨A4, hc4, hC4⟩ := cutf8 (A := some ad) (n := n) (c := c) (xs := l) 4 (by omega) hc
  obtain ⟨A8, hc8, hC8⟩ := cutf8 (A := some ad) (n := n) (c := c) (xs := l) 8 (by omega) hc
  obtain ⟨A12, hc12, hC12⟩ := cutf8 (A := some ad) (n := n) (c := c) (xs := l) 12 (by omega) hc
  obtain ⟨ht12, hCt12⟩ := cutt8 (A := some ad) (n := n) (c := c) (xs := l) 12 (by omega) hc
  replace hc4 : ∀ (W : World), (Instr.slice 29 (.slice (some ad) n c) (some (.int .i64 4)) none none).run Try.prog W = .ok (.slice A4 (n - 4) (c - 4)) W := hc4
  replace hc8 : ∀ (W : World), (Instr.slice 29 (.slice (some ad) n c) (some (.int .i64 8)) none none).run Try.prog W = .ok (.slice A8 (n - 8) (c - 8)) W := hc8
  replace hc12 : ∀ (W : World), (Instr.slice 29 (.slice (some ad) n c) (some (.int .i64 12)) none none).run Try.prog W = .ok (.slice A12 (n - 12) (c - 12)) W := hc12
  replace ht12 : ∀ (W : World), (Instr.slice 29 (.slice (some ad) n c) none (some (.int .i64 12)) none).run Try.prog W = .ok (.slice (some ad) 12 c) W := ht12
  replace hb0 : w.cell? ad = some (.int .u8 74) := by rw [show ad.add (Int.toNat 0) = ad from by simp [Addr.add]] at hb0; exact hb0
  replace hb1 : w.cell? ⟨ad.block, ad.off + 1, none⟩ = some (.int .u8 82) := by rw [show ad.add (Int.toNat 1) = ⟨ad.block, ad.off + 1, none⟩ from by simp [Addr.add]] at hb1; exact hb1
  replace hb2 : w.cell? ⟨ad.block, ad.off + 2, none⟩ = some (.int .u8 kd) := by rw [show ad.add (Int.toNat 2) = ⟨ad.block, ad.off + 2, none⟩ from by simp [Addr.add]] at hb2; exact hb2
  replace hb3 : w.cell? ⟨ad.block, ad.off + 3, none⟩ = some (.int .u8 0) := by rw [show ad.add (Int.toNat 3) = ⟨ad.block, ad.off + 3, none⟩ from by simp [Addr.add]] at hb3; exact hb3
  have HN := Aside0.mk hn
  have HCC := Aside0.mk hc
  have HC := Aside0.mk hC
  have HOK := Aside0.mk hok
  have HM := Aside0.mk hmx
  have H20 := Aside0.mk h20
  have HC4 := Aside0.mk (hC4 w hC)
  have HC8 := Aside0.mk (hC8 w hC)
  have HC12 := Aside0.mk (hC12 w hC)
  have HCT := Aside0.mk (hCt12 w hC)
  have H4 := Aside0.mk h4
  have H8 := Aside0.mk h8
  have H12 := Aside0.mk h12
  have H16 := Aside0.mk h16
  have HE := Aside0.mk hE
  have HREC := Aside0.mk hrec
  clear hn hc hmx hok hC h20 hC4 hC8 hC12 hCt12 h4 h8 h12 h16 hE hrec h0 h1 h2 h3
  have hd20 : decide ((n : Int) < 20) = false := decide_eq_false (by have := H20.out; omega)
  have hd21 : decide (n < 20) = false := decide_eq_false (by have := H20.out; omega)
  have i0 : (0 < n) = True := eq_true (by have := H20.out; omega)
  have i1 : (1 < n) = True := eq_true (by have := H20.out; omega)
  have i2 : (2 < n) = True := eq_true (by have := H20.out; omega)
  have i3 : (3 < n) = True := eq_true (by have := H20.out; omega)
  have j0 : ((0 : Int) < (n : Int)) = True := eq_true (by have := H20.out; omega)
  have j1 : ((1 : Int) < (n : Int)) = True := eq_true (by have := H20.out; omega)
  have j2 : ((2 : Int) < (n : Int)) = True := eq_true (by have := H20.out; omega)
  have j3 : ((3 : Int) < (n : Int)) = True := eq_true (by have := H20.out; omega)
  go_enter_defers Try.func71, Try.ntmps71
  go_wp2_with fail
  obtain ⟨p4, hp4⟩ : ∃ p4, p4 = w.heap.size := ⟨_, rfl⟩
  obtain ⟨p5, hp5⟩ : ∃ p5, p5 = w.heap.size + 1 := ⟨_, rfl⟩
  obtain ⟨p6, hp6⟩ : ∃ p6, p6 = w.heap.size + 1 + 1 := ⟨_, rfl⟩
  obtain ⟨wa, hwa⟩ : ∃ wa, wa = w.alloc (.cells #[.int .i64 0, .int .i64 0, .int .i64 0, .int .i64 0, .int .i64 0, .int .i64 0, .slice none 0 0, .int .i64 0, .int .i64 0, .int .i64 0, .int .i64 0, .int .i64 0, .string ⟨#[]⟩] 28) := ⟨_, rfl⟩
  obtain ⟨wb, hwb⟩ : ∃ wb, wb = wa.alloc (.cells #[.int .i64 0] 3) := ⟨_, rfl⟩
  obtain ⟨wc, hwc⟩ : ∃ wc, wc = wb.alloc (.cells #[.bool false] 4) := ⟨_, rfl⟩
  rw [← hwa, ← hwb, ← hwc, ← hp6, ← hp5, ← hp4]
  have hza : wa.heap.size = w.heap.size + 1 := by rw [hwa]; simp
  have hzb : wb.heap.size = w.heap.size + 1 + 1 := by rw [hwb, ← hza]; simp
  have hba : Below wa.heap.size wa wb := by rw [hwb]; exact below_alloc (Below.refl _ _) _
  have hbb : Below wb.heap.size wb wc := by rw [hwc]; exact below_alloc (Below.refl _ _) _
  have HB := Aside0.mk (show Below w.heap.size w wc from below_step (below_step (by rw [hwa]; exact below_alloc (Below.refl _ _) _) hba) hbb)
  have HP4 := Aside0.mk (show wc.heap[p4]? = some (.cells #[.int .i64 0, .int .i64 0, .int .i64 0, .int .i64 0, .int .i64 0, .int .i64 0, .slice none 0 0, .int .i64 0, .int .i64 0, .int .i64 0, .int .i64 0, .int .i64 0, .string ⟨#[]⟩] 28 (0, 0)) by
    refine (hbb.block p4 (by omega)).trans ((hba.block p4 (by omega)).trans ?_)
    rw [hwa, hp4]; exact heap_alloc_new w _)
  have HP5 := Aside0.mk (show wc.heap[p5]? = some (.cells #[.int .i64 0] 3 (0, 0)) by
    refine (hbb.block p5 (by omega)).trans ?_
    rw [hwb, hp5, ← hza]; exact heap_alloc_new wa _)
  have HP6 := Aside0.mk (show wc.heap[p6]? = some (.cells #[.bool false] 4 (0, 0)) by rw [hwc, hp6, ← hzb]; exact heap_alloc_new wb _)
  have HPW := Aside0.mk (show w.heap.size ≤ p4 ∧ p4 < p5 ∧ p5 < p6 by omega)
  clear hp4 hp5 hp6 hwa hwb hwc hza hzb hba hbb
  have HB0 := Aside0.mk (pw_cell_below (below_drew1 HB.out) hb0)
  have HB1 := Aside0.mk (pw_cell_below (below_drew1 HB.out) hb1)
  have HB2 := Aside0.mk hb2
  have HB3 := Aside0.mk (pw_cell_below (below_drew1 HB.out) hb3)
  clear hb0 hb1 hb2 hb3
  have c0 := HB0.out
  have c1 := HB1.out
  have c3 := HB3.out
  have HD := Aside0.mk (below_drew1 HB.out)
  refine start_ (n := 37) (S := fun w' => w'.cell? ad = some (.int .u8 74) ∧ w'.cell? ⟨ad.block, ad.off + 1, none⟩ = some (.int .u8 82) ∧ w'.cell? ⟨ad.block, ad.off + 3, none⟩ = some (.int .u8 0)) (ds := []) bq83 (by kernel_rfl) rfl rfl ⟨c0, c1, c3⟩ (fun hHeld => ?_)
  refine pure_ (i := 0) (N := some 11) (v := ?_) (a' := ?_) bq84 rfl rfl (by kernel_rfl) (hq71 (by decide)) (Or.inl ⟨by rfl, ?_⟩) ?_ ?_
  rotate_left
  · intro w'; go_simp; with_reducible rfl
  rotate_left
  · simp only [sxx]; rfl
  refine pure_ (i := 1) (N := some 12) (v := ?_) (a' := ?_) bq85 rfl rfl (by kernel_rfl) (hq71 (by decide)) (Or.inl ⟨by rfl, ?_⟩) ?_ ?_
  rotate_left
  · intro w'; go_simp; with_reducible rfl
  rotate_left
  · simp only [sxx]; rfl
  refine pure_ (i := 2) (N := some 13) (v := ?_) (a' := ?_) bq86 rfl rfl (by kernel_rfl) (hq71 (by decide)) (Or.inl ⟨by rfl, ?_⟩) ?_ ?_
  rotate_left
  · intro w'; go_simp; with_reducible rfl
  rotate_left
  · simp only [sxx]; rfl
  refine pure_ (i := 3) (N := some 14) (v := ?_) (a' := ?_) bq87 rfl rfl (by kernel_rfl) (hq71 (by decide)) (Or.inl ⟨by rfl, ?_⟩) ?_ ?_
  rotate_left
  · intro w'; go_simp; with_reducible rfl
  rotate_left
  · simp only [sxx]; rfl
  refine pure_ (i := 4) (N := some 15) (v := ?_) (a' := ?_) bq88 rfl rfl (by kernel_rfl) (hq71 (by decide)) (Or.inl ⟨by rfl, ?_⟩) ?_ ?_
  rotate_left
  · intro w'; go_simp; with_reducible rfl
  rotate_left
  · simp only [sxx]; rfl
  refine pure_ (i := 5) (N := some 16) (v := ?_) (a' := ?_) bq89 rfl rfl (by kernel_rfl) (hq71 (by decide)) (Or.inl ⟨by rfl, ?_⟩) ?_ ?_
  rotate_left
  · intro w'; go_simp; with_reducible rfl
  rotate_left
  · simp only [sxx]; rfl
  refine take_ (i := 6) (N := some 17) (v := ?_) (a' := ?_) bq90 rfl rfl (by kernel_rfl) (hq71 (by decide)) (Or.inl ⟨by rfl, ?_⟩) hHeld ?_ ?_
  rotate_left
  · rintro w' ⟨s0, s1, s2⟩
    go_simp; with_reducible rfl
  rotate_left
  · simp only [sxx]; rfl
  refine pure_ (i := 7) (N := some 18) (v := ?_) (a' := ?_) bq91 rfl rfl (by kernel_rfl) (hq71 (by decide)) (Or.inl ⟨by rfl, ?_⟩) ?_ ?_
  rotate_left
  · intro w'; go_simp; with_reducible rfl
  rotate_left
  · simp only [sxx]; rfl
  refine pure_ (i := 8) (N := some 19) (v := ?_) (a' := ?_) bq92 rfl rfl (by kernel_rfl) (hq71 (by decide)) (Or.inl ⟨by rfl, ?_⟩) ?_ ?_
  rotate_left
  · intro w'; go_simp; with_reducible rfl
  rotate_left
  · simp only [sxx]; rfl
  refine pure_ (i := 9) (N := some 20) (v := ?_) (a' := ?_) bq93 rfl rfl (by kernel_rfl) (hq71 (by decide)) (Or.inl ⟨by rfl, ?_⟩) ?_ ?_
  rotate_left
  · intro w'; go_simp; with_reducible rfl
  rotate_left
  · simp only [sxx]; rfl
  refine pure_ (i := 10) (N := some 21) (v := ?_) (a' := ?_) bq94 rfl rfl (by kernel_rfl) (hq71 (by decide)) (Or.inl ⟨by rfl, ?_⟩) ?_ ?_
  rotate_left
  · intro w'; go_simp; with_reducible rfl
  rotate_left
  · simp only [sxx]; rfl
  refine pure_ (i := 11) (N := some 22) (v := ?_) (a' := ?_) bq95 rfl rfl (by kernel_rfl) (hq71 (by decide)) (Or.inl ⟨by rfl, ?_⟩) ?_ ?_
  rotate_left
  · intro w'; go_simp; with_reducible rfl
  rotate_left
  · simp only [sxx]; rfl
  refine take_ (i := 12) (N := some 23) (v := ?_) (a' := ?_) bq96 rfl rfl (by kernel_rfl) (hq71 (by decide)) (Or.inl ⟨by rfl, ?_⟩) hHeld ?_ ?_
  rotate_left
  · rintro w' ⟨s0, s1, s2⟩
    go_simp; with_reducible rfl
  rotate_left
  · simp only [sxx]; rfl
  refine pure_ (i := 13) (N := some 24) (v := ?_) (a' := ?_) bq97 rfl rfl (by kernel_rfl) (hq71 (by decide)) (Or.inl ⟨by rfl, ?_⟩) ?_ ?_
  rotate_left
  · intro w'; go_simp; with_reducible rfl
  rotate_left
  · simp only [sxx]; rfl
  refine pure_ (i := 14) (N := some 25) (v := ?_) (a' := ?_) bq98 rfl rfl (by kernel_rfl) (hq71 (by decide)) (Or.inl ⟨by rfl, ?_⟩) ?_ ?_
  rotate_left
  · intro w'; go_simp; with_reducible rfl
  rotate_left
  · simp only [sxx]; rfl
  refine pure_ (i := 15) (N := some 26) (v := ?_) (a' := ?_) bq99 rfl rfl (by kernel_rfl) (hq71 (by decide)) (Or.inl ⟨by rfl, ?_⟩) ?_ ?_
  rotate_left
  · intro w'; go_simp; with_reducible rfl
  rotate_left
  · simp only [sxx]; rfl
  refine pure_ (i := 16) (N := some 27) (v := ?_) (a' := ?_) bq100 rfl rfl (by kernel_rfl) (hq71 (by decide)) (Or.inl ⟨by rfl, ?_⟩) ?_ ?_
  rotate_left
  · intro w'; go_simp; with_reducible rfl
  rotate_left
  · simp only [sxx]; rfl
  refine pure_ (i := 17) (N := some 28) (v := ?_) (a' := ?_) bq101 rfl rfl (by kernel_rfl) (hq71 (by decide)) (Or.inl ⟨by rfl, ?_⟩) ?_ ?_
  rotate_left
  · intro w'; go_simp; with_reducible rfl
  rotate_left
  · simp only [sxx]; rfl
  refine take_ (i := 18) (N := some 29) (v := ?_) (a' := ?_) bq102 rfl rfl (by kernel_rfl) (hq71 (by decide)) (Or.inl ⟨by rfl, ?_⟩) hHeld ?_ ?_
  rotate_left
  · rintro w' ⟨s0, s1, s2⟩
    go_simp; with_reducible rfl
  rotate_left
  · simp only [sxx]; rfl
  refine pure_ (i := 19) (N := some 30) (v := ?_) (a' := ?_) bq103 rfl rfl (by kernel_rfl) (hq71 (by decide)) (Or.inl ⟨by rfl, ?_⟩) ?_ ?_
  rotate_left
  · intro w'; go_simp; with_reducible rfl
  rotate_left
  · simp only [sxx]; rfl
  refine pure_ (i := 20) (N := some 31) (v := ?_) (a' := ?_) bq104 rfl rfl (by kernel_rfl) (hq71 (by decide)) (Or.inl ⟨by rfl, ?_⟩) ?_ ?_
  rotate_left
  · intro w'; go_simp; with_reducible rfl
  rotate_left
  · simp only [sxx]; rfl
  refine pure_ (i := 21) (N := some 32) (v := ?_) (a' := ?_) bq105 rfl rfl (by kernel_rfl) (hq71 (by decide)) (Or.inl ⟨by rfl, ?_⟩) ?_ ?_
  rotate_left
  · intro w'; go_simp; with_reducible rfl
  rotate_left
  · simp only [sxx]; rfl
  refine pure_ (i := 22) (N := some 33) (v := ?_) (a' := ?_) bq106 rfl rfl (by kernel_rfl) (hq71 (by decide)) (Or.inl ⟨by rfl, ?_⟩) ?_ ?_
  rotate_left
  · intro w'; go_simp; with_reducible rfl
  rotate_left
  · simp only [sxx]; rfl
  refine pure_ (i := 23) (N := some 34) (v := ?_) (a' := ?_) bq107 rfl rfl (by kernel_rfl) (hq71 (by decide)) (Or.inl ⟨by rfl, ?_⟩) ?_ ?_
  rotate_left
  · intro w'; go_simp; with_reducible rfl
  rotate_left
  · simp only [sxx]; rfl
  refine pure_ (i := 25) (N := some 36) (v := ?_) (a' := ?_) bq108 rfl rfl (by kernel_rfl) (hq71 (by decide)) (Or.inl ⟨by rfl, ?_⟩) ?_ ?_
  rotate_left
  · intro w'; go_simp; with_reducible rfl
  rotate_left
  · simp only [sxx]; rfl
  refine one_ (i := 24) (N := some 35) bq109 rfl rfl (by kernel_rfl) (by decide) (fun K hK => ?_)
  refine goes_ Try.func83 (by kernel_rfl) rfl #[.slice A4 (n - 4) (c - 4)] (by rfl) rfl rfl (by simp only [mxx]; rfl) ?_
  with_reducible refine (four_N A4 (n - 4) (c - 4) (l.drop 4) sq _ (by rw [List.length_drop, HN.out]) (Nat.sub_le_sub_right HCC.out 4) (Kd.C_below HC4.out HD.out) H4.out).mono ?_
  rintro e u1 ⟨rfl, hb⟩
  refine ⟨_, rfl, ?_⟩
  have HU1 := Aside0.mk hb
  have HV1 := Aside0.mk (below_step HD.out hb)
  clear hb
  refine hK.out _ _ ⟨pw_cell_below HU1.out HB0.out, pw_cell_below HU1.out HB1.out, pw_cell_below HU1.out HB3.out⟩ (fun hHeld => ?_)
  clear hK K
  refine norm_ (a' := ?_) ?_ ?_
  rotate_left
  · show Act.put _ (some 35) _ = _
    simp only [sxx]; rfl
  refine pure_ (i := 26) (N := some 37) (v := ?_) (a' := ?_) bq110 rfl rfl (by kernel_rfl) (hq71 (by decide)) (Or.inl ⟨by rfl, ?_⟩) ?_ ?_
  rotate_left
  · intro w'; go_simp; with_reducible rfl
  rotate_left
  · simp only [sxx]; rfl
  refine pure_ (i := 27) (N := some 38) (v := ?_) (a' := ?_) bq111 rfl rfl (by kernel_rfl) (hq71 (by decide)) (Or.inl ⟨by rfl, ?_⟩) ?_ ?_
  rotate_left
  · intro w'; go_simp; with_reducible rfl
  rotate_left
  · simp only [sxx]; rfl
  refine pure_ (i := 28) (N := some 39) (v := ?_) (a' := ?_) bq112 rfl rfl (by kernel_rfl) (hq71 (by decide)) (Or.inl ⟨by rfl, ?_⟩) ?_ ?_
  rotate_left
  · intro w'; go_simp; with_reducible rfl
  rotate_left
  · simp only [sxx]; rfl
  refine pure_ (i := 29) (N := some 40) (v := ?_) (a' := ?_) bq113 rfl rfl (by kernel_rfl) (hq71 (by decide)) (Or.inl ⟨by rfl, ?_⟩) ?_ ?_
  rotate_left
  · intro w'; go_simp; with_reducible rfl
  rotate_left
  · simp only [sxx]; rfl
  refine pure_ (i := 30) (N := some 41) (v := ?_) (a' := ?_) bq114 rfl rfl (by kernel_rfl) (hq71 (by decide)) (Or.inl ⟨by rfl, ?_⟩) ?_ ?_
  rotate_left
  · intro w'; go_simp; with_reducible rfl
  rotate_left
  · simp only [sxx]; rfl
  refine pure_ (i := 32) (N := some 43) (v := ?_) (a' := ?_) bq115 rfl rfl (by kernel_rfl) (hq71 (by decide)) (Or.inl ⟨by rfl, ?_⟩) ?_ ?_
  rotate_left
  · intro w'; go_simp; with_reducible rfl
  rotate_left
  · simp only [sxx]; rfl
  refine pure_ (i := 33) (N := some 44) (v := ?_) (a' := ?_) bq116 rfl rfl (by kernel_rfl) (hq71 (by decide)) (Or.inl ⟨by rfl, ?_⟩) ?_ ?_
  rotate_left
  · intro w'; go_simp; with_reducible rfl
  rotate_left
  · simp only [sxx]; rfl
  refine one_ (i := 31) (N := some 42) bq117 rfl rfl (by kernel_rfl) (by decide) (fun K hK => ?_)
  refine goes_ Try.func83 (by kernel_rfl) rfl #[.slice A12 (n - 12) (c - 12)] (by rfl) rfl rfl (by simp only [mxx]; rfl) ?_
  with_reducible refine (four_N A12 (n - 12) (c - 12) (l.drop 12) _ _ (by rw [List.length_drop, HN.out]) (Nat.sub_le_sub_right HCC.out 12) (Kd.C_below HC12.out HV1.out) H12.out).mono ?_
  rintro e u2 ⟨rfl, hb⟩
  refine ⟨_, rfl, ?_⟩
  have HU2 := Aside0.mk (below_step HU1.out hb)
  have HV2 := Aside0.mk (below_step HV1.out hb)
  clear hb
  refine hK.out _ _ ⟨pw_cell_below HU2.out HB0.out, pw_cell_below HU2.out HB1.out, pw_cell_below HU2.out HB3.out⟩ (fun hHeld => ?_)
  clear hK K
  refine norm_ (a' := ?_) ?_ ?_
  rotate_left
  · show Act.put _ (some 42) _ = _
    simp only [sxx]; rfl
  refine one_ (i := 34) (N := some 45) bq118 rfl rfl (by kernel_rfl) (by decide) (fun K hK => ?_)
  refine goes_ Try.func33 (by kernel_rfl) rfl #[.slice (some ad) 12 c] (by rfl) rfl rfl (by simp only [mxx]; rfl) ?_
  with_reducible refine (sum_N (some ad) 12 c (l.take 12) _ (by rw [List.length_take, HN.out]; have := H20.out; omega) (by have := H20.out; have := HCC.out; omega) (Kd.C_below HCT.out HV2.out) (bytesOk_take HOK.out 12)).mono ?_
  rintro e u3 ⟨rfl, hb⟩
  refine ⟨_, rfl, ?_⟩
  have HU3 := Aside0.mk (below_step HU2.out hb)
  have HV3 := Aside0.mk (below_step HV2.out hb)
  clear hb
  refine hK.out _ _ ⟨pw_cell_below HU3.out HB0.out, pw_cell_below HU3.out HB1.out, pw_cell_below HU3.out HB3.out⟩ (fun hHeld => ?_)
  clear hK K
  refine norm_ (a' := ?_) ?_ ?_
  rotate_left
  · show Act.put _ (some 45) _ = _
    simp only [sxx]; rfl
  refine pure_ (i := 35) (N := some 46) (v := ?_) (a' := ?_) bq119 rfl rfl (by kernel_rfl) (hq71 (by decide)) (Or.inl ⟨by rfl, ?_⟩) ?_ ?_
  rotate_left
  · intro w'; go_simp; with_reducible rfl
  rotate_left
  · simp only [sxx]; rfl
  refine pure_ (i := 36) (N := some 47) (v := ?_) (a' := ?_) bq120 rfl rfl (by kernel_rfl) (hq71 (by decide)) (Or.inl ⟨by rfl, ?_⟩) ?_ ?_
  rotate_left
  · intro w'; go_simp; with_reducible rfl
  rotate_left
  · simp only [sxx]; rfl
  refine done_ (by kernel_rfl) ?_
  obtain ⟨A16, hc16, hC16⟩ := cutf8 (A := some ad) (n := n) (c := c) (xs := l) (16 + m) (by have := H20.out; omega) HCC.out
  obtain ⟨ht16, hCt16⟩ := cutt8 (A := some ad) (n := n) (c := c) (xs := l) (16 + m) (by have := H20.out; omega) HCC.out
  obtain ⟨AM, hm16, hCm16⟩ := cutm8 (A := some ad) (n := n) (c := c) (xs := l) 16 (16 + m) (by omega) (by have := H20.out; omega) HCC.out
  have em : 16 + m - 16 = m := by omega
  rw [em] at hCm16
  have ecast : (((16 + m : Nat) : Int)) = 16 + (m : Int) := by omega
  have HC16 := Aside0.mk (hC16 w HC.out)
  have HCT16 := Aside0.mk (hCt16 w HC.out)
  have HCM := Aside0.mk (hCm16 w HC.out)
  replace hc16 : ∀ (W : World), (Instr.slice 29 (.slice (some ad) n c) (some (.int .i64 (16 + (m : Int)))) none none).run Try.prog W = .ok (.slice A16 (n - (16 + m)) (c - (16 + m))) W := fun W => by have := hc16 W; rwa [ecast] at this
  replace ht16 : ∀ (W : World), (Instr.slice 29 (.slice (some ad) n c) none (some (.int .i64 (16 + (m : Int)))) none).run Try.prog W = .ok (.slice (some ad) (16 + m) c) W := fun W => by have := ht16 W; rwa [ecast] at this
  replace hm16 : ∀ (W : World), (Instr.slice 29 (.slice (some ad) n c) (some (.int .i64 16)) (some (.int .i64 (16 + (m : Int)))) none).run Try.prog W = .ok (.slice AM m (c - 16)) W := fun W => by have := hm16 W; rw [ecast, em] at this; exact this
  clear em ecast hC16 hCt16 hCm16 hc4 hc12 ht12 hd20 hd21 c0 c1 c3
  have HP4 := Aside0.mk ((HU3.out.block p4 (blk_lt HP4.out)).trans HP4.out)
  have HP5 := Aside0.mk ((HU3.out.block p5 (blk_lt HP5.out)).trans HP5.out)
  have HP6 := Aside0.mk ((HU3.out.block p6 (blk_lt HP6.out)).trans HP6.out)
  clear HU1 HU2 HU3 HV1 HV2 HB HB0 HB1 HB3 hHeld HD
  go_wp2_with fail
  refine (four_N A8 (n - 8) (c - 8) (l.drop 8) (m : Int) _ (by rw [List.length_drop, HN.out]) (Nat.sub_le_sub_right HCC.out 8) (Kd.C_below HC8.out HV3.out) H8.out).mono ?_
  rintro e4 u4 ⟨rfl, hb⟩
  have HV4 := Aside0.mk (below_step HV3.out hb)
  have HP4 := Aside0.mk ((hb.block p4 (blk_lt HP4.out)).trans HP4.out)
  have HP5 := Aside0.mk ((hb.block p5 (blk_lt HP5.out)).trans HP5.out)
  have HP6 := Aside0.mk ((hb.block p6 (blk_lt HP6.out)).trans HP6.out)
  clear hb HV3 hc8
  have hmo : (n : Int) ≤ 1000000000000 := by have := HM.out; omega
  have hm0 : (m : Int) ≤ 1000000000000 := by have := HM.out; have := H20.out; omega
  have hq5 : decide ((n : Int) - 20 < (m : Int)) = false := decide_eq_false (by have := H20.out; omega)
  go_wp2_with fail
  have HQ2 := Aside0.mk (pw_cell_below (below_drew1 HV4.out) HB2.out)
  have HD := Aside0.mk (below_drew1 HV4.out)
  have c2 := HQ2.out
  have hw20 := wr_sub20 (n := n) (by have := H20.out; omega) HM.out
  have hw16 := wr_add16 (n := m) (by have := H20.out; have := HM.out; omega)
  refine start_ (n := 18) (S := fun w' => w'.cell? ⟨ad.block, ad.off + 2, none⟩ = some (.int .u8 kd)) (ds := []) bq121 (by kernel_rfl) rfl rfl (c2) (fun hHeld => ?_)
  refine pure_ (i := 0) (N := some 52) (v := ?_) (a' := ?_) bq122 rfl rfl (by kernel_rfl) (hq71 (by decide)) (Or.inl ⟨by rfl, ?_⟩) ?_ ?_
  rotate_left
  · intro w'; go_simp; with_reducible rfl
  rotate_left
  · simp only [sxx]; rfl
  refine pure_ (i := 1) (N := some 53) (v := ?_) (a' := ?_) bq123 rfl rfl (by kernel_rfl) (hq71 (by decide)) (Or.inl ⟨by rfl, ?_⟩) ?_ ?_
  rotate_left
  · intro w'; go_simp; with_reducible rfl
  rotate_left
  · simp only [sxx]; rfl
  refine pure_ (i := 2) (N := some 54) (v := ?_) (a' := ?_) bq124 rfl rfl (by kernel_rfl) (hq71 (by decide)) (Or.inl ⟨by rfl, ?_⟩) ?_ ?_
  rotate_left
  · intro w'; go_simp; with_reducible rfl
  rotate_left
  · simp only [sxx]; rfl
  refine pure_ (i := 3) (N := some 55) (v := ?_) (a' := ?_) bq125 rfl rfl (by kernel_rfl) (hq71 (by decide)) (Or.inl ⟨by rfl, ?_⟩) ?_ ?_
  rotate_left
  · intro w'; go_simp; with_reducible rfl
  rotate_left
  · simp only [sxx]; rfl
  refine pure_ (i := 4) (N := some 56) (v := ?_) (a' := ?_) bq126 rfl rfl (by kernel_rfl) (hq71 (by decide)) (Or.inl ⟨by rfl, ?_⟩) ?_ ?_
  rotate_left
  · intro w'; go_simp; with_reducible rfl
  rotate_left
  · simp only [sxx]; rfl
  refine pure_ (i := 5) (N := some 57) (v := ?_) (a' := ?_) bq127 rfl rfl (by kernel_rfl) (hq71 (by decide)) (Or.inl ⟨by rfl, ?_⟩) ?_ ?_
  rotate_left
  · intro w'; go_simp; with_reducible rfl
  rotate_left
  · simp only [sxx]; rfl
  refine pure_ (i := 6) (N := some 58) (v := ?_) (a' := ?_) bq128 rfl rfl (by kernel_rfl) (hq71 (by decide)) (Or.inl ⟨by rfl, ?_⟩) ?_ ?_
  rotate_left
  · intro w'; go_simp; with_reducible rfl
  rotate_left
  · simp only [sxx]; rfl
  refine pure_ (i := 7) (N := some 59) (v := ?_) (a' := ?_) bq129 rfl rfl (by kernel_rfl) (hq71 (by decide)) (Or.inl ⟨by rfl, ?_⟩) ?_ ?_
  rotate_left
  · intro w'; go_simp; with_reducible rfl
  rotate_left
  · simp only [sxx]; rfl
  refine pure_ (i := 8) (N := some 60) (v := ?_) (a' := ?_) bq130 rfl rfl (by kernel_rfl) (hq71 (by decide)) (Or.inl ⟨by rfl, ?_⟩) ?_ ?_
  rotate_left
  · intro w'; go_simp; with_reducible rfl
  rotate_left
  · simp only [sxx]; rfl
  refine pure_ (i := 9) (N := some 61) (v := ?_) (a' := ?_) bq131 rfl rfl (by kernel_rfl) (hq71 (by decide)) (Or.inl ⟨by rfl, ?_⟩) ?_ ?_
  rotate_left
  · intro w'; go_simp; with_reducible rfl
  rotate_left
  · simp only [sxx]; rfl
  refine pure_ (i := 11) (N := some 63) (v := ?_) (a' := ?_) bq132 rfl rfl (by kernel_rfl) (hq71 (by decide)) (Or.inl ⟨by rfl, ?_⟩) ?_ ?_
  rotate_left
  · intro w'; go_simp; with_reducible rfl
  rotate_left
  · simp only [sxx]; rfl
  refine pure_ (i := 12) (N := some 64) (v := ?_) (a' := ?_) bq133 rfl rfl (by kernel_rfl) (hq71 (by decide)) (Or.inl ⟨by rfl, ?_⟩) ?_ ?_
  rotate_left
  · intro w'; go_simp; with_reducible rfl
  rotate_left
  · simp only [sxx]; rfl
  refine pure_ (i := 13) (N := some 65) (v := ?_) (a' := ?_) bq134 rfl rfl (by kernel_rfl) (hq71 (by decide)) (Or.inl ⟨by rfl, ?_⟩) ?_ ?_
  rotate_left
  · intro w'; go_simp; with_reducible rfl
  rotate_left
  · simp only [sxx]; rfl
  refine pure_ (i := 14) (N := some 66) (v := ?_) (a' := ?_) bq135 rfl rfl (by kernel_rfl) (hq71 (by decide)) (Or.inl ⟨by rfl, ?_⟩) ?_ ?_
  rotate_left
  · intro w'; go_simp; with_reducible rfl
  rotate_left
  · simp only [sxx]; rfl
  refine one_ (i := 10) (N := some 62) bq136 rfl rfl (by kernel_rfl) (by decide) (fun K hK => ?_)
  refine goes_ Try.func83 (by kernel_rfl) rfl #[.slice A16 (n - (16 + m)) (c - (16 + m))] (by rfl) rfl rfl (by simp only [mxx]; rfl) ?_
  with_reducible refine (four_N A16 (n - (16 + m)) (c - (16 + m)) (l.drop (16 + m)) _ _ (by rw [List.length_drop, HN.out]) (Nat.sub_le_sub_right HCC.out _) (Kd.C_below HC16.out HD.out) H16.out).mono ?_
  rintro e u5 ⟨rfl, hb⟩
  refine ⟨_, rfl, ?_⟩
  have HU5 := Aside0.mk hb
  have HV5 := Aside0.mk (below_step HD.out hb)
  clear hb
  refine hK.out _ _ (pw_cell_below HU5.out HQ2.out) (fun hHeld => ?_)
  clear hK K
  refine norm_ (a' := ?_) ?_ ?_
  rotate_left
  · show Act.put _ (some 62) _ = _
    simp only [sxx]; rfl
  refine one_ (i := 15) (N := some 67) bq137 rfl rfl (by kernel_rfl) (by decide) (fun K hK => ?_)
  refine goes_ Try.func33 (by kernel_rfl) rfl #[.slice (some ad) (16 + m) c] (by rfl) rfl rfl (by simp only [mxx]; rfl) ?_
  with_reducible refine (sum_N (some ad) (16 + m) c (l.take (16 + m)) _ (by rw [List.length_take, HN.out]; have := H20.out; omega) (by have := H20.out; have := HCC.out; omega) (Kd.C_below HCT16.out HV5.out) (bytesOk_take HOK.out _)).mono ?_
  rintro e u6 ⟨rfl, hb⟩
  refine ⟨_, rfl, ?_⟩
  have HU6 := Aside0.mk (below_step HU5.out hb)
  have HV6 := Aside0.mk (below_step HV5.out hb)
  clear hb
  refine hK.out _ _ (pw_cell_below HU6.out HQ2.out) (fun hHeld => ?_)
  clear hK K
  refine norm_ (a' := ?_) ?_ ?_
  rotate_left
  · show Act.put _ (some 67) _ = _
    simp only [sxx]; rfl
  refine pure_ (i := 16) (N := some 68) (v := ?_) (a' := ?_) bq138 rfl rfl (by kernel_rfl) (hq71 (by decide)) (Or.inl ⟨by rfl, ?_⟩) ?_ ?_
  rotate_left
  · intro w'; go_simp; with_reducible rfl
  rotate_left
  · simp only [sxx]; rfl
  refine pure_ (i := 17) (N := some 69) (v := ?_) (a' := ?_) bq139 rfl rfl (by kernel_rfl) (hq71 (by decide)) (Or.inl ⟨by rfl, ?_⟩) ?_ ?_
  rotate_left
  · intro w'; go_simp; with_reducible rfl
  rotate_left
  · simp only [sxx]; rfl
  refine done_ (by kernel_rfl) ?_
  have HP4 := Aside0.mk ((HU6.out.block p4 (blk_lt HP4.out)).trans HP4.out)
  have HP5 := Aside0.mk ((HU6.out.block p5 (blk_lt HP5.out)).trans HP5.out)
  have HP6 := Aside0.mk ((HU6.out.block p6 (blk_lt HP6.out)).trans HP6.out)
  clear HU5 HU6 HV5 HD hHeld hc16 ht16 hq5 c2 HQ2 HV4
  go_wp2_with fail
  have HQ2 := Aside0.mk (pw_cell_below (below_drew1 HV6.out) HB2.out)
  have HD := Aside0.mk (below_drew1 HV6.out)
  have c2 := HQ2.out
  have hkd := HKD.out
  refine start_ (n := 12) (S := fun w' => w'.cell? ⟨ad.block, ad.off + 2, none⟩ = some (.int .u8 kd)) (ds := [11]) bq70 (by kernel_rfl) rfl rfl (c2) (fun hHeld => ?_)
  refine pure_ (i := 0) (N := some 71) (v := ?_) (a' := ?_) bq71 rfl rfl (by kernel_rfl) (hq71a (by decide)) (Or.inl ⟨by rfl, ?_⟩) ?_ ?_
  rotate_left
  · intro w'; go_simp; with_reducible rfl
  rotate_left
  · simp only [sxx]; rfl
  refine pure_ (i := 1) (N := some 72) (v := ?_) (a' := ?_) bq72 rfl rfl (by kernel_rfl) (hq71a (by decide)) (Or.inl ⟨by rfl, ?_⟩) ?_ ?_
  rotate_left
  · intro w'; go_simp; with_reducible rfl
  rotate_left
  · simp only [sxx]; rfl
  refine pure_ (i := 2) (N := some 73) (v := ?_) (a' := ?_) bq73 rfl rfl (by kernel_rfl) (hq71a (by decide)) (Or.inl ⟨by rfl, ?_⟩) ?_ ?_
  rotate_left
  · intro w'; go_simp; with_reducible rfl
  rotate_left
  · simp only [sxx]; rfl
  refine pure_ (i := 3) (N := some 74) (v := ?_) (a' := ?_) bq74 rfl rfl (by kernel_rfl) (hq71a (by decide)) (Or.inl ⟨by rfl, ?_⟩) ?_ ?_
  rotate_left
  · intro w'; go_simp; with_reducible rfl
  rotate_left
  · simp only [sxx]; rfl
  refine pure_ (i := 4) (N := some 75) (v := ?_) (a' := ?_) bq140 rfl rfl (by kernel_rfl) (hq71a (by decide)) (Or.inl ⟨by rfl, ?_⟩) ?_ ?_
  rotate_left
  · intro w'; go_simp; with_reducible rfl
  rotate_left
  · simp only [sxx]; rfl
  refine pure_ (i := 6) (N := some 77) (v := ?_) (a' := ?_) bq76 rfl rfl (by kernel_rfl) (hq71a (by decide)) (Or.inl ⟨by rfl, ?_⟩) ?_ ?_
  rotate_left
  · intro w'; go_simp; with_reducible rfl
  rotate_left
  · simp only [sxx]; rfl
  refine pure_ (i := 7) (N := some 78) (v := ?_) (a' := ?_) bq141 rfl rfl (by kernel_rfl) (hq71a (by decide)) (Or.inl ⟨by rfl, ?_⟩) ?_ ?_
  rotate_left
  · intro w'; go_simp; with_reducible rfl
  rotate_left
  · simp only [sxx]; rfl
  refine take_ (i := 8) (N := some 79) (v := ?_) (a' := ?_) bq142 rfl rfl (by kernel_rfl) (hq71a (by decide)) (Or.inl ⟨by rfl, ?_⟩) hHeld ?_ ?_
  rotate_left
  · intro w' s0; go_simp; with_reducible rfl
  rotate_left
  · simp only [sxx]; rfl
  refine pure_ (i := 9) (N := some 80) (v := ?_) (a' := ?_) bq143 rfl rfl (by kernel_rfl) (hq71a (by decide)) (Or.inl ⟨by rfl, ?_⟩) ?_ ?_
  rotate_left
  · intro w'; go_simp; with_reducible rfl
  rotate_left
  · simp only [sxx]; rfl
  refine one_ (i := 5) (N := some 76) bq80 rfl rfl (by kernel_rfl) (by decide) (fun K hK => ?_)
  refine value_ (w1 := ?_) (v := ?_) (by rfl) rfl ?_ ?_
  rotate_left 2
  · go_simp
    constructor
    · rfl
    · rfl
  obtain ⟨rb, hrb⟩ : ∃ rb, rb = u6.heap.size := ⟨_, rfl⟩
  obtain ⟨u7, hu7⟩ : ∃ u7, u7 = (u6.alloc (.cells #[.slice AM m (c - 16), .int .i64 0] 147)).drew := ⟨_, rfl⟩
  rw [← hu7, ← hrb]
  have HU7 := Aside0.mk (show Below u6.heap.size u6 u7 by rw [hu7]; exact below_drew1 (below_alloc (Below.refl _ _) _))
  have HV7 := Aside0.mk (below_step HV6.out HU7.out)
  have HRB := Aside0.mk (show u7.heap[rb]? = some (.cells #[.slice AM m (c - 16), .int .i64 0] 147 (0, 0)) by rw [hu7, hrb]; exact heap_alloc_new u6 _)
  have HRW := Aside0.mk (show w.heap.size ≤ rb by rw [hrb]; exact HV6.out.size)
  have HRN := Aside0.mk (show p4 ≠ rb ∧ p5 ≠ rb ∧ p6 ≠ rb by have := blk_lt HP4.out; have := blk_lt HP5.out; have := blk_lt HP6.out; omega)
  have HP4 := Aside0.mk ((HU7.out.block p4 (blk_lt HP4.out)).trans HP4.out)
  have HP5 := Aside0.mk ((HU7.out.block p5 (blk_lt HP5.out)).trans HP5.out)
  have HP6 := Aside0.mk ((HU7.out.block p6 (blk_lt HP6.out)).trans HP6.out)
  clear hrb hu7
  refine hK.out _ _ (pw_cell_below HV7.out HB2.out) (fun hHeld => ?_)
  clear hK K
  refine norm_ (a' := ?_) ?_ ?_
  rotate_left
  · show Act.put _ (some 76) _ = _
    simp only [sxx]; rfl
  refine one_ (i := 10) (N := some 81) bq81 rfl rfl (by kernel_rfl) (by decide) (fun K hK => ?_)
  refine goes_ Try.func84 (by kernel_rfl) rfl #[.pointer (some ⟨rb, 0, none⟩), .int .i64 (wrap64 kd)] (by rfl) rfl rfl (by simp only [mxx]; rfl) ?_
  rw [HKD.out]
  with_reducible refine (HREC.out u7 rb AM (c - 16) HV7.out HRW.out (by have := HCC.out; have := H20.out; omega) HRB.out HCM.out).mono ?_
  rintro e u8 ⟨B, nb, cb, rfl, hl2, hr2, hb⟩
  refine ⟨_, rfl, ?_⟩
  have HL2 := Aside0.mk hl2
  have HR2 := Aside0.mk (Kd.R_lower hr2 HV7.out.size)
  have HV8 := Aside0.mk (below_frm HV7.out hb (N := w.heap.size) (fun k hk => by rw [hk]; exact HRW.out) (Nat.le_refl _))
  have HP4 := Aside0.mk (hb.blk HP4.out HRN.out.1)
  have HP5 := Aside0.mk (hb.blk HP5.out HRN.out.2.1)
  have HP6 := Aside0.mk (hb.blk HP6.out HRN.out.2.2)
  clear hl2 hr2 hb
  refine hK.out _ _ (pw_cell_below HV8.out HB2.out) (fun hHeld => ?_)
  clear hK K
  refine norm_ (a' := ?_) ?_ ?_
  rotate_left
  · show Act.put _ (some 81) _ = _
    simp only [sxx]; rfl
  refine last_ (i := 11) (N := none) bq82 rfl rfl (by kernel_rfl) (by decide) (fun K hK => ?_)
  refine store_arm 28 _ _ rfl (by rfl) rfl (q := p4) (i := 0) (cur' := recCells kd s v k se rq B nb cb vn vp vb st of x) (recCells kd s v k se rq B nb cb vn vp vb st of x).toList rfl rfl rfl (by kernel_rfl) (by intro u hu; simp at hu; rcases hu with rfl | rfl | rfl | rfl | rfl | rfl | rfl | rfl | rfl | rfl | rfl | rfl | rfl <;> rfl) HP4.out (by simp) rfl ?_
  intro u9 hp9 hg9
  refine hK.out _ _ ?_
  clear hK K
  refine done_ (by kernel_rfl) ?_
  have HP9 := Aside0.mk hp9
  have HV9 := Aside0.mk (HV8.out.grown hg9 HV8.out.size (fun k e => by cases e; exact HPW.out.1))
  have HP5 := Aside0.mk ((hg9.block p5 (blk_lt HP5.out) (fun e => by have := HPW.out; have := Option.some.inj e; omega)).trans HP5.out)
  have HP6 := Aside0.mk ((hg9.block p6 (blk_lt HP6.out) (fun e => by have := HPW.out; have := Option.some.inj e; omega)).trans HP6.out)
  have HR9 := Aside0.mk (R40_other HR2.out HP4.out hg9)
  clear hHeld hm16 c2 HQ2 HV6 HV7 HV8 hp9 hg9 HR2 HRB HD
  have m0 := (blk_cell HP9.out 0).trans rfl
  have m1 := (blk_cell HP9.out 1).trans rfl
  have m2 := (blk_cell HP9.out 2).trans rfl
  have m3 := (blk_cell HP9.out 3).trans rfl
  have m4 := (blk_cell HP9.out 4).trans rfl
  have m5 := (blk_cell HP9.out 5).trans rfl
  have m6 := (blk_cell HP9.out 6).trans rfl
  have m7 := (blk_cell HP9.out 7).trans rfl
  have m8 := (blk_cell HP9.out 8).trans rfl
  have m9 := (blk_cell HP9.out 9).trans rfl
  have m10 := (blk_cell HP9.out 10).trans rfl
  have m11 := (blk_cell HP9.out 11).trans rfl
  have m12 := (blk_cell HP9.out 12).trans rfl
  go_wp2_with fail
  refine (encode_C sq kd s v k se rq B cb nb l2 vn vp vb st of x u9 HL2.out (R40_C HR9.out) (by obtain ⟨A2, n2, c2, e2, _, h2, _⟩ := R40_form HR9.out; cases e2; exact h2) r1 0 HE.out).mono ?_
  rintro e w10 ⟨V, rfl, _, hb⟩
  have HPA := Aside0.mk ((hb.block p4 (blk_lt HP9.out)).trans HP9.out)
  have HP5 := Aside0.mk ((hb.block p5 (blk_lt HP5.out)).trans HP5.out)
  have HP6 := Aside0.mk ((hb.block p6 (blk_lt HP6.out)).trans HP6.out)
  have HVA := Aside0.mk (below_step HV9.out hb)
  have HRA := Aside0.mk (Kd.R_below HR9.out hb)
  clear hb HV9 HR9 HP9 m0 m1 m2 m3 m4 m5 m6 m7 m8 m9 m10 m11 m12
  have m0 := (blk_cell HPA.out 0).trans rfl
  have m1 := (blk_cell HPA.out 1).trans rfl
  have m2 := (blk_cell HPA.out 2).trans rfl
  have m3 := (blk_cell HPA.out 3).trans rfl
  have m4 := (blk_cell HPA.out 4).trans rfl
  have m5 := (blk_cell HPA.out 5).trans rfl
  have m6 := (blk_cell HPA.out 6).trans rfl
  have m7 := (blk_cell HPA.out 7).trans rfl
  have m8 := (blk_cell HPA.out 8).trans rfl
  have m9 := (blk_cell HPA.out 9).trans rfl
  have m10 := (blk_cell HPA.out 10).trans rfl
  have m11 := (blk_cell HPA.out 11).trans rfl
  have m12 := (blk_cell HPA.out 12).trans rfl
  go_wp2_with (with_reducible refine stop_store rfl ?_)
  refine store_blk rfl rfl 28 _ _ rfl (q := p4) (i := 0) (cur' := recCells kd s v k se rq B nb cb vn vp vb st of x) (recCells kd s v k se rq B nb cb vn vp vb st of x).toList rfl rfl rfl (by kernel_rfl) (by intro u hu; simp at hu; rcases hu with rfl | rfl | rfl | rfl | rfl | rfl | rfl | rfl | rfl | rfl | rfl | rfl | rfl <;> rfl) HPA.out (by simp) rfl ?_
  intro w11 hpb hgb
  have HPB := Aside0.mk hpb
  have HVB := Aside0.mk (HVA.out.grown hgb HVA.out.size (fun k e => by cases e; exact HPW.out.1))
  have HP5 := Aside0.mk ((hgb.block p5 (blk_lt HP5.out) (fun e => by have := HPW.out; have := Option.some.inj e; omega)).trans HP5.out)
  have HP6 := Aside0.mk ((hgb.block p6 (blk_lt HP6.out) (fun e => by have := HPW.out; have := Option.some.inj e; omega)).trans HP6.out)
  have HRB2 := Aside0.mk (R40_other HRA.out HPA.out hgb)
  clear hpb hgb HVA HRA HPA m0 m1 m2 m3 m4 m5 m6 m7 m8 m9 m10 m11 m12
  have n5 := (blk_cell HP5.out 0).trans rfl
  have f5 := blk_frozen HP5.out 0
  have n6 := (blk_cell HP6.out 0).trans rfl
  have f6 := blk_frozen HP6.out 0
  have HN56 := Aside0.mk (show p5 ≠ p6 by have := HPW.out; omega)
  have hne := HN56.out
  have hw := wr_add20 (n := m) (by have := H20.out; have := HM.out; omega)
  go_wp2_with fail
  clear hw hne n5 n6 f5 f6
  obtain ⟨wy, hwy⟩ : ∃ wy, wy = w11.setCell ⟨p5, 0, none⟩ (.int .i64 ((m : Int) + 20)) := ⟨_, rfl⟩
  obtain ⟨wz, hwz⟩ : ∃ wz, wz = wy.setCell ⟨p6, 0, none⟩ (.bool true) := ⟨_, rfl⟩
  rw [← hwy, ← hwz]
  have k4 : wz.heap[p4]? = some (.cells (recCells kd s v k se rq B nb cb vn vp vb st of x) 28 (0, 0)) := by
    have := HPW.out
    rw [hwz, Below.heap_setCell wy _ _ p4 (by simp only; omega), hwy, Below.heap_setCell w11 _ _ p4 (by simp only; omega)]
    exact HPB.out
  have k6 : wy.heap[p6]? = some (.cells #[.bool false] 4 (0, 0)) := by
    have := HPW.out
    rw [hwy, Below.heap_setCell w11 _ _ p6 (by simp only; omega)]
    exact HP6.out
  have c5 : wz.cell? ⟨p5, 0, none⟩ = some (.int .i64 ((m : Int) + 20)) := by
    have hy : wy.cell? ⟨p5, 0, none⟩ = some (.int .i64 ((m : Int) + 20)) := by rw [hwy]; exact World.cell?_setCell_same' _ _ _ (by rw [blk_cell HP5.out 0]; rfl)
    have := HPW.out
    have he : wz.heap[p5]? = wy.heap[p5]? := by rw [hwz, Below.heap_setCell wy _ _ p5 (by simp only; omega)]
    simp only [World.cell?, he] at hy ⊢
    exact hy
  have c6 : wz.cell? ⟨p6, 0, none⟩ = some (.bool true) := by rw [hwz]; exact World.cell?_setCell_same' _ _ _ (by rw [blk_cell k6 0]; rfl)
  have hR : R40 wz w.heap.size (.slice B nb cb) l2 := by
    have hy1 : R40 wy w.heap.size (.slice B nb cb) l2 := by rw [hwy]; exact Kd.R_set HRB2.out HP5.out (fun t ht => by rw [k40_only ht]; decide) 0 _
    rw [hwz]
    exact Kd.R_set hy1 k6 (fun t ht => by rw [k40_only ht]; decide) 0 _
  have hBZ : Below w.heap.size w wz := by
    rw [hwz, hwy]
    exact (HVB.out.setCell (p := ⟨p5, 0, none⟩) (by have := HPW.out; simp only; omega) _).setCell (p := ⟨p6, 0, none⟩) (by have := HPW.out; simp only; omega) _
  exact door71 rfl (results71_row _ _ p4 p5 p6 _ _ _ rfl rfl rfl k4 rfl c5 c6) ⟨B, nb, cb, rfl, HL2.out, hR, hBZ⟩

abbrev zeroCells13 : Array Value := recCells 0 0 0 0 0 0 none 0 0 0 0 0 0 0 ⟨#[]⟩
set_option maxHeartbeats 16000000 in
set_option maxRecDepth 100000 in
theorem read_short (w : World) (A : Option Addr) (n c : Nat) (sq : Int) (h20 : n < 20) :
    Calls Try.prog 71 #[.slice A n c, .int .i64 sq] w fun e w' => e = .returned (.tuple #[zeroRec, .int .i64 0, .bool false]) ∧ Below w.heap.size w w' := by
  have hu28 := Try.underlying28
  have hu26 := Try.underlying26
  have hu24 := Try.underlying24
  have hmf : ∀ (fn : Fn) (first cap : Array Value) (w : World), (Instr.makeFunc fn first cap).run Try.prog w = .ok (.func fn first cap) w := fun _ _ _ _ => rfl
  have hd20 : decide ((n : Int) < 20) = true := decide_eq_true (by omega)
  have hd21 : decide (n < 20) = true := decide_eq_true (by omega)
  have H20 := Aside0.mk h20
  clear h20
  go_enter_defers Try.func71, Try.ntmps71
  go_wp2_with fail
  obtain ⟨p4, hp4⟩ : ∃ p4, p4 = w.heap.size := ⟨_, rfl⟩
  obtain ⟨p5, hp5⟩ : ∃ p5, p5 = w.heap.size + 1 := ⟨_, rfl⟩
  obtain ⟨p6, hp6⟩ : ∃ p6, p6 = w.heap.size + 1 + 1 := ⟨_, rfl⟩
  obtain ⟨wa, hwa⟩ : ∃ wa, wa = w.alloc (.cells #[.int .i64 0, .int .i64 0, .int .i64 0, .int .i64 0, .int .i64 0, .int .i64 0, .slice none 0 0, .int .i64 0, .int .i64 0, .int .i64 0, .int .i64 0, .int .i64 0, .string ⟨#[]⟩] 28) := ⟨_, rfl⟩
  obtain ⟨wb, hwb⟩ : ∃ wb, wb = wa.alloc (.cells #[.int .i64 0] 3) := ⟨_, rfl⟩
  obtain ⟨wc, hwc⟩ : ∃ wc, wc = wb.alloc (.cells #[.bool false] 4) := ⟨_, rfl⟩
  rw [← hwa, ← hwb, ← hwc, ← hp6, ← hp5, ← hp4]
  have hza : wa.heap.size = w.heap.size + 1 := by rw [hwa]; simp
  have hzb : wb.heap.size = w.heap.size + 1 + 1 := by rw [hwb, ← hza]; simp
  have hba : Below wa.heap.size wa wb := by rw [hwb]; exact below_alloc (Below.refl _ _) _
  have hbb : Below wb.heap.size wb wc := by rw [hwc]; exact below_alloc (Below.refl _ _) _
  have HB := Aside0.mk (show Below w.heap.size w wc from below_step (below_step (by rw [hwa]; exact below_alloc (Below.refl _ _) _) hba) hbb)
  have HP4 := Aside0.mk (show wc.heap[p4]? = some (.cells #[.int .i64 0, .int .i64 0, .int .i64 0, .int .i64 0, .int .i64 0, .int .i64 0, .slice none 0 0, .int .i64 0, .int .i64 0, .int .i64 0, .int .i64 0, .int .i64 0, .string ⟨#[]⟩] 28 (0, 0)) by
    refine (hbb.block p4 (by omega)).trans ((hba.block p4 (by omega)).trans ?_)
    rw [hwa, hp4]; exact heap_alloc_new w _)
  have HP5 := Aside0.mk (show wc.heap[p5]? = some (.cells #[.int .i64 0] 3 (0, 0)) by
    refine (hbb.block p5 (by omega)).trans ?_
    rw [hwb, hp5, ← hza]; exact heap_alloc_new wa _)
  have HP6 := Aside0.mk (show wc.heap[p6]? = some (.cells #[.bool false] 4 (0, 0)) by rw [hwc, hp6, ← hzb]; exact heap_alloc_new wb _)
  have HPW := Aside0.mk (show w.heap.size ≤ p4 ∧ p4 < p5 ∧ p5 < p6 by omega)
  clear hp4 hp5 hp6 hwa hwb hwc hza hzb hba hbb
  refine start_ (n := 37) (S := fun w' => True) (ds := []) bq83 (by kernel_rfl) rfl rfl trivial (fun hHeld => ?_)
  refine pure_ (i := 0) (N := some 11) (v := ?_) (a' := ?_) bq84 rfl rfl (by kernel_rfl) (hq71 (by decide)) (Or.inl ⟨by rfl, ?_⟩) ?_ ?_
  rotate_left
  · intro w'; go_simp; with_reducible rfl
  rotate_left
  · simp only [sxx]; rfl
  refine pure_ (i := 1) (N := some 12) (v := ?_) (a' := ?_) bq85 rfl rfl (by kernel_rfl) (hq71 (by decide)) (Or.inl ⟨by rfl, ?_⟩) ?_ ?_
  rotate_left
  · intro w'; go_simp; with_reducible rfl
  rotate_left
  · simp only [sxx]; rfl
  refine pure_ (i := 2) (N := some 13) (v := ?_) (a' := ?_) bq86 rfl rfl (by kernel_rfl) (hq71 (by decide)) (Or.inl ⟨by rfl, ?_⟩) ?_ ?_
  rotate_left
  · intro w'; go_simp; with_reducible rfl
  rotate_left
  · simp only [sxx]; rfl
  refine pure_ (i := 3) (N := some 14) (v := ?_) (a' := ?_) bq87 rfl rfl (by kernel_rfl) (hq71 (by decide)) (Or.inl ⟨by rfl, ?_⟩) ?_ ?_
  rotate_left
  · intro w'; go_simp; with_reducible rfl
  rotate_left
  · simp only [sxx]; rfl
  refine pure_ (i := 4) (N := some 15) (v := undef) (a' := ?_) bq88 rfl rfl (by kernel_rfl) (hq71 (by decide)) (Or.inr ⟨by rfl, rfl⟩) ?_ ?_
  rotate_left
  · simp only [sxx]; rfl
  refine pure_ (i := 5) (N := some 16) (v := undef) (a' := ?_) bq89 rfl rfl (by kernel_rfl) (hq71 (by decide)) (Or.inr ⟨by rfl, rfl⟩) ?_ ?_
  rotate_left
  · simp only [sxx]; rfl
  refine pure_ (i := 6) (N := some 17) (v := undef) (a' := ?_) bq90 rfl rfl (by kernel_rfl) (hq71 (by decide)) (Or.inr ⟨by rfl, rfl⟩) ?_ ?_
  rotate_left
  · simp only [sxx]; rfl
  refine pure_ (i := 7) (N := some 18) (v := undef) (a' := ?_) bq91 rfl rfl (by kernel_rfl) (hq71 (by decide)) (Or.inr ⟨by rfl, rfl⟩) ?_ ?_
  rotate_left
  · simp only [sxx]; rfl
  refine pure_ (i := 8) (N := some 19) (v := ?_) (a' := ?_) bq92 rfl rfl (by kernel_rfl) (hq71 (by decide)) (Or.inl ⟨by rfl, ?_⟩) ?_ ?_
  rotate_left
  · intro w'; go_simp; with_reducible rfl
  rotate_left
  · simp only [sxx]; rfl
  refine pure_ (i := 9) (N := some 20) (v := ?_) (a' := ?_) bq93 rfl rfl (by kernel_rfl) (hq71 (by decide)) (Or.inl ⟨by rfl, ?_⟩) ?_ ?_
  rotate_left
  · intro w'; go_simp; with_reducible rfl
  rotate_left
  · simp only [sxx]; rfl
  refine pure_ (i := 10) (N := some 21) (v := undef) (a' := ?_) bq94 rfl rfl (by kernel_rfl) (hq71 (by decide)) (Or.inr ⟨by rfl, rfl⟩) ?_ ?_
  rotate_left
  · simp only [sxx]; rfl
  refine pure_ (i := 11) (N := some 22) (v := undef) (a' := ?_) bq95 rfl rfl (by kernel_rfl) (hq71 (by decide)) (Or.inr ⟨by rfl, rfl⟩) ?_ ?_
  rotate_left
  · simp only [sxx]; rfl
  refine pure_ (i := 12) (N := some 23) (v := undef) (a' := ?_) bq96 rfl rfl (by kernel_rfl) (hq71 (by decide)) (Or.inr ⟨by rfl, rfl⟩) ?_ ?_
  rotate_left
  · simp only [sxx]; rfl
  refine pure_ (i := 13) (N := some 24) (v := undef) (a' := ?_) bq97 rfl rfl (by kernel_rfl) (hq71 (by decide)) (Or.inr ⟨by rfl, rfl⟩) ?_ ?_
  rotate_left
  · simp only [sxx]; rfl
  refine pure_ (i := 14) (N := some 25) (v := ?_) (a' := ?_) bq98 rfl rfl (by kernel_rfl) (hq71 (by decide)) (Or.inl ⟨by rfl, ?_⟩) ?_ ?_
  rotate_left
  · intro w'; go_simp; with_reducible rfl
  rotate_left
  · simp only [sxx]; rfl
  refine pure_ (i := 15) (N := some 26) (v := ?_) (a' := ?_) bq99 rfl rfl (by kernel_rfl) (hq71 (by decide)) (Or.inl ⟨by rfl, ?_⟩) ?_ ?_
  rotate_left
  · intro w'; go_simp; with_reducible rfl
  rotate_left
  · simp only [sxx]; rfl
  refine pure_ (i := 16) (N := some 27) (v := undef) (a' := ?_) bq100 rfl rfl (by kernel_rfl) (hq71 (by decide)) (Or.inr ⟨by rfl, rfl⟩) ?_ ?_
  rotate_left
  · simp only [sxx]; rfl
  refine pure_ (i := 17) (N := some 28) (v := undef) (a' := ?_) bq101 rfl rfl (by kernel_rfl) (hq71 (by decide)) (Or.inr ⟨by rfl, rfl⟩) ?_ ?_
  rotate_left
  · simp only [sxx]; rfl
  refine pure_ (i := 18) (N := some 29) (v := undef) (a' := ?_) bq102 rfl rfl (by kernel_rfl) (hq71 (by decide)) (Or.inr ⟨by rfl, rfl⟩) ?_ ?_
  rotate_left
  · simp only [sxx]; rfl
  refine pure_ (i := 19) (N := some 30) (v := undef) (a' := ?_) bq103 rfl rfl (by kernel_rfl) (hq71 (by decide)) (Or.inr ⟨by rfl, rfl⟩) ?_ ?_
  rotate_left
  · simp only [sxx]; rfl
  refine pure_ (i := 20) (N := some 31) (v := ?_) (a' := ?_) bq104 rfl rfl (by kernel_rfl) (hq71 (by decide)) (Or.inl ⟨by rfl, ?_⟩) ?_ ?_
  rotate_left
  · intro w'; go_simp; with_reducible rfl
  rotate_left
  · simp only [sxx]; rfl
  refine pure_ (i := 21) (N := some 32) (v := ?_) (a' := ?_) bq105 rfl rfl (by kernel_rfl) (hq71 (by decide)) (Or.inl ⟨by rfl, ?_⟩) ?_ ?_
  rotate_left
  · intro w'; go_simp; with_reducible rfl
  rotate_left
  · simp only [sxx]; rfl
  refine pure_ (i := 22) (N := some 33) (v := undef) (a' := ?_) bq106 rfl rfl (by kernel_rfl) (hq71 (by decide)) (Or.inr ⟨by rfl, rfl⟩) ?_ ?_
  rotate_left
  · simp only [sxx]; rfl
  refine pure_ (i := 23) (N := some 34) (v := undef) (a' := ?_) bq107 rfl rfl (by kernel_rfl) (hq71 (by decide)) (Or.inr ⟨by rfl, rfl⟩) ?_ ?_
  rotate_left
  · simp only [sxx]; rfl
  refine pure_ (i := 24) (N := some 35) (v := undef) (a' := ?_) bq144 rfl rfl (by kernel_rfl) (hq71 (by decide)) (Or.inr ⟨by rfl, rfl⟩) ?_ ?_
  rotate_left
  · simp only [sxx]; rfl
  refine pure_ (i := 25) (N := some 36) (v := undef) (a' := ?_) bq109 rfl rfl (by kernel_rfl) (hq71 (by decide)) (Or.inr ⟨by rfl, rfl⟩) ?_ ?_
  rotate_left
  · simp only [sxx]; rfl
  refine pure_ (i := 26) (N := some 37) (v := undef) (a' := ?_) bq110 rfl rfl (by kernel_rfl) (hq71 (by decide)) (Or.inr ⟨by rfl, rfl⟩) ?_ ?_
  rotate_left
  · simp only [sxx]; rfl
  refine pure_ (i := 27) (N := some 38) (v := ?_) (a' := ?_) bq111 rfl rfl (by kernel_rfl) (hq71 (by decide)) (Or.inl ⟨by rfl, ?_⟩) ?_ ?_
  rotate_left
  · intro w'; go_simp; with_reducible rfl
  rotate_left
  · simp only [sxx]; rfl
  refine pure_ (i := 28) (N := some 39) (v := ?_) (a' := ?_) bq112 rfl rfl (by kernel_rfl) (hq71 (by decide)) (Or.inl ⟨by rfl, ?_⟩) ?_ ?_
  rotate_left
  · intro w'; go_simp; with_reducible rfl
  rotate_left
  · simp only [sxx]; rfl
  refine pure_ (i := 29) (N := some 40) (v := undef) (a' := ?_) bq113 rfl rfl (by kernel_rfl) (hq71 (by decide)) (Or.inr ⟨by rfl, rfl⟩) ?_ ?_
  rotate_left
  · simp only [sxx]; rfl
  refine pure_ (i := 30) (N := some 41) (v := undef) (a' := ?_) bq114 rfl rfl (by kernel_rfl) (hq71 (by decide)) (Or.inr ⟨by rfl, rfl⟩) ?_ ?_
  rotate_left
  · simp only [sxx]; rfl
  refine pure_ (i := 31) (N := some 42) (v := undef) (a' := ?_) bq145 rfl rfl (by kernel_rfl) (hq71 (by decide)) (Or.inr ⟨by rfl, rfl⟩) ?_ ?_
  rotate_left
  · simp only [sxx]; rfl
  refine pure_ (i := 32) (N := some 43) (v := undef) (a' := ?_) bq146 rfl rfl (by kernel_rfl) (hq71 (by decide)) (Or.inr ⟨by rfl, rfl⟩) ?_ ?_
  rotate_left
  · simp only [sxx]; rfl
  refine pure_ (i := 33) (N := some 44) (v := undef) (a' := ?_) bq117 rfl rfl (by kernel_rfl) (hq71 (by decide)) (Or.inr ⟨by rfl, rfl⟩) ?_ ?_
  rotate_left
  · simp only [sxx]; rfl
  refine pure_ (i := 34) (N := some 45) (v := undef) (a' := ?_) bq118 rfl rfl (by kernel_rfl) (hq71 (by decide)) (Or.inr ⟨by rfl, rfl⟩) ?_ ?_
  rotate_left
  · simp only [sxx]; rfl
  refine pure_ (i := 35) (N := some 46) (v := undef) (a' := ?_) bq119 rfl rfl (by kernel_rfl) (hq71 (by decide)) (Or.inr ⟨by rfl, rfl⟩) ?_ ?_
  rotate_left
  · simp only [sxx]; rfl
  refine pure_ (i := 36) (N := some 47) (v := ?_) (a' := ?_) bq120 rfl rfl (by kernel_rfl) (hq71 (by decide)) (Or.inl ⟨by rfl, ?_⟩) ?_ ?_
  rotate_left
  · intro w'; go_simp; with_reducible rfl
  rotate_left
  · simp only [sxx]; rfl
  refine done_ (by kernel_rfl) ?_
  have HV := Aside0.mk (below_drew1 HB.out)
  have HP4 := Aside0.mk (show wc.drew.heap[p4]? = _ from HP4.out)
  have HP5 := Aside0.mk (show wc.drew.heap[p5]? = _ from HP5.out)
  have HP6 := Aside0.mk (show wc.drew.heap[p6]? = _ from HP6.out)
  clear HB hHeld
  go_wp2_with (with_reducible refine stop_store rfl ?_)
  refine store_blk rfl rfl 28 _ _ rfl (q := p4) (i := 0) (cur' := zeroCells13) zeroCells13.toList rfl rfl rfl (by kernel_rfl) (by intro u hu; simp at hu; rcases hu with rfl | rfl | rfl | rfl <;> rfl) HP4.out (by simp) rfl ?_
  intro w11 hpb hgb
  have HPB := Aside0.mk hpb
  have HVB := Aside0.mk (HV.out.grown hgb HV.out.size (fun k e => by cases e; exact HPW.out.1))
  have HP5 := Aside0.mk ((hgb.block p5 (blk_lt HP5.out) (fun e => by have := HPW.out; have := Option.some.inj e; omega)).trans HP5.out)
  have HP6 := Aside0.mk ((hgb.block p6 (blk_lt HP6.out) (fun e => by have := HPW.out; have := Option.some.inj e; omega)).trans HP6.out)
  clear hpb hgb HV
  have n5 := (blk_cell HP5.out 0).trans rfl
  have f5 := blk_frozen HP5.out 0
  have n6 := (blk_cell HP6.out 0).trans rfl
  have f6 := blk_frozen HP6.out 0
  have HN56 := Aside0.mk (show p5 ≠ p6 by have := HPW.out; omega)
  have hne := HN56.out
  go_wp2_with fail
  clear hne n5 n6 f5 f6
  obtain ⟨wy, hwy⟩ : ∃ wy, wy = w11.setCell ⟨p5, 0, none⟩ (.int .i64 0) := ⟨_, rfl⟩
  obtain ⟨wz, hwz⟩ : ∃ wz, wz = wy.setCell ⟨p6, 0, none⟩ (.bool false) := ⟨_, rfl⟩
  rw [← hwy, ← hwz]
  have k4 : wz.heap[p4]? = some (.cells zeroCells13 28 (0, 0)) := by
    have := HPW.out
    rw [hwz, Below.heap_setCell wy _ _ p4 (by simp only; omega), hwy, Below.heap_setCell w11 _ _ p4 (by simp only; omega)]
    exact HPB.out
  have k6 : wy.heap[p6]? = some (.cells #[.bool false] 4 (0, 0)) := by
    have := HPW.out
    rw [hwy, Below.heap_setCell w11 _ _ p6 (by simp only; omega)]
    exact HP6.out
  have c5 : wz.cell? ⟨p5, 0, none⟩ = some (.int .i64 0) := by
    have hy : wy.cell? ⟨p5, 0, none⟩ = some (.int .i64 0) := by rw [hwy]; exact World.cell?_setCell_same' _ _ _ (by rw [blk_cell HP5.out 0]; rfl)
    have := HPW.out
    have he : wz.heap[p5]? = wy.heap[p5]? := by rw [hwz, Below.heap_setCell wy _ _ p5 (by simp only; omega)]
    simp only [World.cell?, he] at hy ⊢
    exact hy
  have c6 : wz.cell? ⟨p6, 0, none⟩ = some (.bool false) := by rw [hwz]; exact World.cell?_setCell_same' _ _ _ (by rw [blk_cell k6 0]; rfl)
  have hBZ : Below w.heap.size w wz := by
    rw [hwz, hwy]
    exact (HVB.out.setCell (p := ⟨p5, 0, none⟩) (by have := HPW.out; simp only; omega) _).setCell (p := ⟨p6, 0, none⟩) (by have := HPW.out; simp only; omega) _
  exact door71 rfl (results71_row _ _ p4 p5 p6 _ _ _ rfl rfl rfl k4 rfl c5 c6) ⟨rfl, hBZ⟩

set_option maxHeartbeats 16000000 in
set_option maxRecDepth 100000 in
theorem read_mark0 (w : World) (A : Option Addr) (n c : Nat) (l : List Int) (sq : Int) (bm : Int)
    (hn : l.length = n) (hc : n ≤ c) (hmx : n ≤ 1000000000000) (hok : bytesOk l = true) (hC : C8 w A n l)
    (h20 : 20 ≤ n)  (h0 : rd l 0 = bm) (hbd : ¬ bm = 74) :
    Calls Try.prog 71 #[.slice A n c, .int .i64 sq] w fun e w' => e = .returned (.tuple #[zeroRec, .int .i64 0, .bool false]) ∧ Below w.heap.size w w' := by
  have hu28 := Try.underlying28
  have hb1_ : decide (bm = 74) = false := decide_eq_false hbd
  have hb2_ : (bm == 74) = false := by simpa using hbd
  have hb3_ : (bm != 74) = true := by simpa using hbd
  have hu26 := Try.underlying26
  have hu24 := Try.underlying24
  have hu147 := Try.underlying147
  have hmf : ∀ (fn : Fn) (first cap : Array Value) (w : World), (Instr.makeFunc fn first cap).run Try.prog w = .ok (.func fn first cap) w := fun _ _ _ _ => rfl
  obtain ⟨ad, rfl, hb0⟩ := Kd.at_int hC 0 (by decide) (by omega)
  rw [h0] at hb0
  replace hb0 : w.cell? ad = some (.int .u8 bm) := by rw [show ad.add (Int.toNat 0) = ad from by simp [Addr.add]] at hb0; exact hb0
  have HN := Aside0.mk hn
  have HCC := Aside0.mk hc
  have HC := Aside0.mk hC
  have HOK := Aside0.mk hok
  have HM := Aside0.mk hmx
  have H20 := Aside0.mk h20
  clear hn hc hmx hok hC h20  hbd
  have hd20 : decide ((n : Int) < 20) = false := decide_eq_false (by have := H20.out; omega)
  have hd21 : decide (n < 20) = false := decide_eq_false (by have := H20.out; omega)
  have i0 : (0 < n) = True := eq_true (by have := H20.out; omega)
  have j0 : ((0 : Int) < (n : Int)) = True := eq_true (by have := H20.out; omega)
  go_enter_defers Try.func71, Try.ntmps71
  go_wp2_with fail
  obtain ⟨p4, hp4⟩ : ∃ p4, p4 = w.heap.size := ⟨_, rfl⟩
  obtain ⟨p5, hp5⟩ : ∃ p5, p5 = w.heap.size + 1 := ⟨_, rfl⟩
  obtain ⟨p6, hp6⟩ : ∃ p6, p6 = w.heap.size + 1 + 1 := ⟨_, rfl⟩
  obtain ⟨wa, hwa⟩ : ∃ wa, wa = w.alloc (.cells #[.int .i64 0, .int .i64 0, .int .i64 0, .int .i64 0, .int .i64 0, .int .i64 0, .slice none 0 0, .int .i64 0, .int .i64 0, .int .i64 0, .int .i64 0, .int .i64 0, .string ⟨#[]⟩] 28) := ⟨_, rfl⟩
  obtain ⟨wb, hwb⟩ : ∃ wb, wb = wa.alloc (.cells #[.int .i64 0] 3) := ⟨_, rfl⟩
  obtain ⟨wc, hwc⟩ : ∃ wc, wc = wb.alloc (.cells #[.bool false] 4) := ⟨_, rfl⟩
  rw [← hwa, ← hwb, ← hwc, ← hp6, ← hp5, ← hp4]
  have hza : wa.heap.size = w.heap.size + 1 := by rw [hwa]; simp
  have hzb : wb.heap.size = w.heap.size + 1 + 1 := by rw [hwb, ← hza]; simp
  have hba : Below wa.heap.size wa wb := by rw [hwb]; exact below_alloc (Below.refl _ _) _
  have hbb : Below wb.heap.size wb wc := by rw [hwc]; exact below_alloc (Below.refl _ _) _
  have HB := Aside0.mk (show Below w.heap.size w wc from below_step (below_step (by rw [hwa]; exact below_alloc (Below.refl _ _) _) hba) hbb)
  have HP4 := Aside0.mk (show wc.heap[p4]? = some (.cells #[.int .i64 0, .int .i64 0, .int .i64 0, .int .i64 0, .int .i64 0, .int .i64 0, .slice none 0 0, .int .i64 0, .int .i64 0, .int .i64 0, .int .i64 0, .int .i64 0, .string ⟨#[]⟩] 28 (0, 0)) by
    refine (hbb.block p4 (by omega)).trans ((hba.block p4 (by omega)).trans ?_)
    rw [hwa, hp4]; exact heap_alloc_new w _)
  have HP5 := Aside0.mk (show wc.heap[p5]? = some (.cells #[.int .i64 0] 3 (0, 0)) by
    refine (hbb.block p5 (by omega)).trans ?_
    rw [hwb, hp5, ← hza]; exact heap_alloc_new wa _)
  have HP6 := Aside0.mk (show wc.heap[p6]? = some (.cells #[.bool false] 4 (0, 0)) by rw [hwc, hp6, ← hzb]; exact heap_alloc_new wb _)
  have HPW := Aside0.mk (show w.heap.size ≤ p4 ∧ p4 < p5 ∧ p5 < p6 by omega)
  clear hp4 hp5 hp6 hwa hwb hwc hza hzb hba hbb
  have HB0 := Aside0.mk (pw_cell_below (below_drew1 HB.out) hb0)
  clear hb0
  have c0 := HB0.out
  refine start_ (n := 37) (S := fun w' => w'.cell? ad = some (.int .u8 bm)) (ds := []) bq83 (by kernel_rfl) rfl rfl (c0) (fun hHeld => ?_)
  refine pure_ (i := 0) (N := some 11) (v := ?_) (a' := ?_) bq84 rfl rfl (by kernel_rfl) (hq71 (by decide)) (Or.inl ⟨by rfl, ?_⟩) ?_ ?_
  rotate_left
  · intro w'; go_simp; with_reducible rfl
  rotate_left
  · simp only [sxx]; rfl
  refine pure_ (i := 1) (N := some 12) (v := ?_) (a' := ?_) bq85 rfl rfl (by kernel_rfl) (hq71 (by decide)) (Or.inl ⟨by rfl, ?_⟩) ?_ ?_
  rotate_left
  · intro w'; go_simp; with_reducible rfl
  rotate_left
  · simp only [sxx]; rfl
  refine pure_ (i := 2) (N := some 13) (v := ?_) (a' := ?_) bq86 rfl rfl (by kernel_rfl) (hq71 (by decide)) (Or.inl ⟨by rfl, ?_⟩) ?_ ?_
  rotate_left
  · intro w'; go_simp; with_reducible rfl
  rotate_left
  · simp only [sxx]; rfl
  refine pure_ (i := 3) (N := some 14) (v := ?_) (a' := ?_) bq87 rfl rfl (by kernel_rfl) (hq71 (by decide)) (Or.inl ⟨by rfl, ?_⟩) ?_ ?_
  rotate_left
  · intro w'; go_simp; with_reducible rfl
  rotate_left
  · simp only [sxx]; rfl
  refine pure_ (i := 4) (N := some 15) (v := ?_) (a' := ?_) bq88 rfl rfl (by kernel_rfl) (hq71 (by decide)) (Or.inl ⟨by rfl, ?_⟩) ?_ ?_
  rotate_left
  · intro w'; go_simp; with_reducible rfl
  rotate_left
  · simp only [sxx]; rfl
  refine pure_ (i := 5) (N := some 16) (v := ?_) (a' := ?_) bq89 rfl rfl (by kernel_rfl) (hq71 (by decide)) (Or.inl ⟨by rfl, ?_⟩) ?_ ?_
  rotate_left
  · intro w'; go_simp; with_reducible rfl
  rotate_left
  · simp only [sxx]; rfl
  refine take_ (i := 6) (N := some 17) (v := ?_) (a' := ?_) bq90 rfl rfl (by kernel_rfl) (hq71 (by decide)) (Or.inl ⟨by rfl, ?_⟩) hHeld ?_ ?_
  rotate_left
  · intro w' s0; go_simp; with_reducible rfl
  rotate_left
  · simp only [sxx]; rfl
  refine pure_ (i := 7) (N := some 18) (v := ?_) (a' := ?_) bq91 rfl rfl (by kernel_rfl) (hq71 (by decide)) (Or.inl ⟨by rfl, ?_⟩) ?_ ?_
  rotate_left
  · intro w'; go_simp; with_reducible rfl
  rotate_left
  · simp only [sxx]; rfl
  refine pure_ (i := 8) (N := some 19) (v := ?_) (a' := ?_) bq92 rfl rfl (by kernel_rfl) (hq71 (by decide)) (Or.inl ⟨by rfl, ?_⟩) ?_ ?_
  rotate_left
  · intro w'; go_simp; with_reducible rfl
  rotate_left
  · simp only [sxx]; rfl
  refine pure_ (i := 9) (N := some 20) (v := ?_) (a' := ?_) bq93 rfl rfl (by kernel_rfl) (hq71 (by decide)) (Or.inl ⟨by rfl, ?_⟩) ?_ ?_
  rotate_left
  · intro w'; go_simp; with_reducible rfl
  rotate_left
  · simp only [sxx]; rfl
  refine pure_ (i := 10) (N := some 21) (v := undef) (a' := ?_) bq94 rfl rfl (by kernel_rfl) (hq71 (by decide)) (Or.inr ⟨by rfl, rfl⟩) ?_ ?_
  rotate_left
  · simp only [sxx]; rfl
  refine pure_ (i := 11) (N := some 22) (v := undef) (a' := ?_) bq95 rfl rfl (by kernel_rfl) (hq71 (by decide)) (Or.inr ⟨by rfl, rfl⟩) ?_ ?_
  rotate_left
  · simp only [sxx]; rfl
  refine pure_ (i := 12) (N := some 23) (v := undef) (a' := ?_) bq96 rfl rfl (by kernel_rfl) (hq71 (by decide)) (Or.inr ⟨by rfl, rfl⟩) ?_ ?_
  rotate_left
  · simp only [sxx]; rfl
  refine pure_ (i := 13) (N := some 24) (v := undef) (a' := ?_) bq97 rfl rfl (by kernel_rfl) (hq71 (by decide)) (Or.inr ⟨by rfl, rfl⟩) ?_ ?_
  rotate_left
  · simp only [sxx]; rfl
  refine pure_ (i := 14) (N := some 25) (v := ?_) (a' := ?_) bq98 rfl rfl (by kernel_rfl) (hq71 (by decide)) (Or.inl ⟨by rfl, ?_⟩) ?_ ?_
  rotate_left
  · intro w'; go_simp; with_reducible rfl
  rotate_left
  · simp only [sxx]; rfl
  refine pure_ (i := 15) (N := some 26) (v := ?_) (a' := ?_) bq99 rfl rfl (by kernel_rfl) (hq71 (by decide)) (Or.inl ⟨by rfl, ?_⟩) ?_ ?_
  rotate_left
  · intro w'; go_simp; with_reducible rfl
  rotate_left
  · simp only [sxx]; rfl
  refine pure_ (i := 16) (N := some 27) (v := undef) (a' := ?_) bq100 rfl rfl (by kernel_rfl) (hq71 (by decide)) (Or.inr ⟨by rfl, rfl⟩) ?_ ?_
  rotate_left
  · simp only [sxx]; rfl
  refine pure_ (i := 17) (N := some 28) (v := undef) (a' := ?_) bq101 rfl rfl (by kernel_rfl) (hq71 (by decide)) (Or.inr ⟨by rfl, rfl⟩) ?_ ?_
  rotate_left
  · simp only [sxx]; rfl
  refine pure_ (i := 18) (N := some 29) (v := undef) (a' := ?_) bq102 rfl rfl (by kernel_rfl) (hq71 (by decide)) (Or.inr ⟨by rfl, rfl⟩) ?_ ?_
  rotate_left
  · simp only [sxx]; rfl
  refine pure_ (i := 19) (N := some 30) (v := undef) (a' := ?_) bq103 rfl rfl (by kernel_rfl) (hq71 (by decide)) (Or.inr ⟨by rfl, rfl⟩) ?_ ?_
  rotate_left
  · simp only [sxx]; rfl
  refine pure_ (i := 20) (N := some 31) (v := ?_) (a' := ?_) bq104 rfl rfl (by kernel_rfl) (hq71 (by decide)) (Or.inl ⟨by rfl, ?_⟩) ?_ ?_
  rotate_left
  · intro w'; go_simp; with_reducible rfl
  rotate_left
  · simp only [sxx]; rfl
  refine pure_ (i := 21) (N := some 32) (v := ?_) (a' := ?_) bq105 rfl rfl (by kernel_rfl) (hq71 (by decide)) (Or.inl ⟨by rfl, ?_⟩) ?_ ?_
  rotate_left
  · intro w'; go_simp; with_reducible rfl
  rotate_left
  · simp only [sxx]; rfl
  refine pure_ (i := 22) (N := some 33) (v := undef) (a' := ?_) bq106 rfl rfl (by kernel_rfl) (hq71 (by decide)) (Or.inr ⟨by rfl, rfl⟩) ?_ ?_
  rotate_left
  · simp only [sxx]; rfl
  refine pure_ (i := 23) (N := some 34) (v := undef) (a' := ?_) bq107 rfl rfl (by kernel_rfl) (hq71 (by decide)) (Or.inr ⟨by rfl, rfl⟩) ?_ ?_
  rotate_left
  · simp only [sxx]; rfl
  refine pure_ (i := 24) (N := some 35) (v := undef) (a' := ?_) bq144 rfl rfl (by kernel_rfl) (hq71 (by decide)) (Or.inr ⟨by rfl, rfl⟩) ?_ ?_
  rotate_left
  · simp only [sxx]; rfl
  refine pure_ (i := 25) (N := some 36) (v := undef) (a' := ?_) bq109 rfl rfl (by kernel_rfl) (hq71 (by decide)) (Or.inr ⟨by rfl, rfl⟩) ?_ ?_
  rotate_left
  · simp only [sxx]; rfl
  refine pure_ (i := 26) (N := some 37) (v := undef) (a' := ?_) bq110 rfl rfl (by kernel_rfl) (hq71 (by decide)) (Or.inr ⟨by rfl, rfl⟩) ?_ ?_
  rotate_left
  · simp only [sxx]; rfl
  refine pure_ (i := 27) (N := some 38) (v := ?_) (a' := ?_) bq111 rfl rfl (by kernel_rfl) (hq71 (by decide)) (Or.inl ⟨by rfl, ?_⟩) ?_ ?_
  rotate_left
  · intro w'; go_simp; with_reducible rfl
  rotate_left
  · simp only [sxx]; rfl
  refine pure_ (i := 28) (N := some 39) (v := ?_) (a' := ?_) bq112 rfl rfl (by kernel_rfl) (hq71 (by decide)) (Or.inl ⟨by rfl, ?_⟩) ?_ ?_
  rotate_left
  · intro w'; go_simp; with_reducible rfl
  rotate_left
  · simp only [sxx]; rfl
  refine pure_ (i := 29) (N := some 40) (v := undef) (a' := ?_) bq113 rfl rfl (by kernel_rfl) (hq71 (by decide)) (Or.inr ⟨by rfl, rfl⟩) ?_ ?_
  rotate_left
  · simp only [sxx]; rfl
  refine pure_ (i := 30) (N := some 41) (v := undef) (a' := ?_) bq114 rfl rfl (by kernel_rfl) (hq71 (by decide)) (Or.inr ⟨by rfl, rfl⟩) ?_ ?_
  rotate_left
  · simp only [sxx]; rfl
  refine pure_ (i := 31) (N := some 42) (v := undef) (a' := ?_) bq145 rfl rfl (by kernel_rfl) (hq71 (by decide)) (Or.inr ⟨by rfl, rfl⟩) ?_ ?_
  rotate_left
  · simp only [sxx]; rfl
  refine pure_ (i := 32) (N := some 43) (v := undef) (a' := ?_) bq146 rfl rfl (by kernel_rfl) (hq71 (by decide)) (Or.inr ⟨by rfl, rfl⟩) ?_ ?_
  rotate_left
  · simp only [sxx]; rfl
  refine pure_ (i := 33) (N := some 44) (v := undef) (a' := ?_) bq117 rfl rfl (by kernel_rfl) (hq71 (by decide)) (Or.inr ⟨by rfl, rfl⟩) ?_ ?_
  rotate_left
  · simp only [sxx]; rfl
  refine pure_ (i := 34) (N := some 45) (v := undef) (a' := ?_) bq118 rfl rfl (by kernel_rfl) (hq71 (by decide)) (Or.inr ⟨by rfl, rfl⟩) ?_ ?_
  rotate_left
  · simp only [sxx]; rfl
  refine pure_ (i := 35) (N := some 46) (v := undef) (a' := ?_) bq119 rfl rfl (by kernel_rfl) (hq71 (by decide)) (Or.inr ⟨by rfl, rfl⟩) ?_ ?_
  rotate_left
  · simp only [sxx]; rfl
  refine pure_ (i := 36) (N := some 47) (v := ?_) (a' := ?_) bq120 rfl rfl (by kernel_rfl) (hq71 (by decide)) (Or.inl ⟨by rfl, ?_⟩) ?_ ?_
  rotate_left
  · intro w'; go_simp; with_reducible rfl
  rotate_left
  · simp only [sxx]; rfl
  refine done_ (by kernel_rfl) ?_
  have HV := Aside0.mk (below_drew1 HB.out)
  have HP4 := Aside0.mk (show wc.drew.heap[p4]? = _ from HP4.out)
  have HP5 := Aside0.mk (show wc.drew.heap[p5]? = _ from HP5.out)
  have HP6 := Aside0.mk (show wc.drew.heap[p6]? = _ from HP6.out)
  clear HB hHeld c0 HB0 hb1_ hb2_ hb3_
  go_wp2_with (with_reducible refine stop_store rfl ?_)
  refine store_blk rfl rfl 28 _ _ rfl (q := p4) (i := 0) (cur' := zeroCells13) zeroCells13.toList rfl rfl rfl (by kernel_rfl) (by intro u hu; simp at hu; rcases hu with rfl | rfl | rfl | rfl <;> rfl) HP4.out (by simp) rfl ?_
  intro w11 hpb hgb
  have HPB := Aside0.mk hpb
  have HVB := Aside0.mk (HV.out.grown hgb HV.out.size (fun k e => by cases e; exact HPW.out.1))
  have HP5 := Aside0.mk ((hgb.block p5 (blk_lt HP5.out) (fun e => by have := HPW.out; have := Option.some.inj e; omega)).trans HP5.out)
  have HP6 := Aside0.mk ((hgb.block p6 (blk_lt HP6.out) (fun e => by have := HPW.out; have := Option.some.inj e; omega)).trans HP6.out)
  clear hpb hgb HV
  have n5 := (blk_cell HP5.out 0).trans rfl
  have f5 := blk_frozen HP5.out 0
  have n6 := (blk_cell HP6.out 0).trans rfl
  have f6 := blk_frozen HP6.out 0
  have HN56 := Aside0.mk (show p5 ≠ p6 by have := HPW.out; omega)
  have hne := HN56.out
  go_wp2_with fail
  clear hne n5 n6 f5 f6
  obtain ⟨wy, hwy⟩ : ∃ wy, wy = w11.setCell ⟨p5, 0, none⟩ (.int .i64 0) := ⟨_, rfl⟩
  obtain ⟨wz, hwz⟩ : ∃ wz, wz = wy.setCell ⟨p6, 0, none⟩ (.bool false) := ⟨_, rfl⟩
  rw [← hwy, ← hwz]
  have k4 : wz.heap[p4]? = some (.cells zeroCells13 28 (0, 0)) := by
    have := HPW.out
    rw [hwz, Below.heap_setCell wy _ _ p4 (by simp only; omega), hwy, Below.heap_setCell w11 _ _ p4 (by simp only; omega)]
    exact HPB.out
  have k6 : wy.heap[p6]? = some (.cells #[.bool false] 4 (0, 0)) := by
    have := HPW.out
    rw [hwy, Below.heap_setCell w11 _ _ p6 (by simp only; omega)]
    exact HP6.out
  have c5 : wz.cell? ⟨p5, 0, none⟩ = some (.int .i64 0) := by
    have hy : wy.cell? ⟨p5, 0, none⟩ = some (.int .i64 0) := by rw [hwy]; exact World.cell?_setCell_same' _ _ _ (by rw [blk_cell HP5.out 0]; rfl)
    have := HPW.out
    have he : wz.heap[p5]? = wy.heap[p5]? := by rw [hwz, Below.heap_setCell wy _ _ p5 (by simp only; omega)]
    simp only [World.cell?, he] at hy ⊢
    exact hy
  have c6 : wz.cell? ⟨p6, 0, none⟩ = some (.bool false) := by rw [hwz]; exact World.cell?_setCell_same' _ _ _ (by rw [blk_cell k6 0]; rfl)
  have hBZ : Below w.heap.size w wz := by
    rw [hwz, hwy]
    exact (HVB.out.setCell (p := ⟨p5, 0, none⟩) (by have := HPW.out; simp only; omega) _).setCell (p := ⟨p6, 0, none⟩) (by have := HPW.out; simp only; omega) _
  exact door71 rfl (results71_row _ _ p4 p5 p6 _ _ _ rfl rfl rfl k4 rfl c5 c6) ⟨rfl, hBZ⟩
set_option maxHeartbeats 16000000 in
set_option maxRecDepth 100000 in
theorem read_mark1 (w : World) (A : Option Addr) (n c : Nat) (l : List Int) (sq : Int) (bm : Int)
    (hn : l.length = n) (hc : n ≤ c) (hmx : n ≤ 1000000000000) (hok : bytesOk l = true) (hC : C8 w A n l)
    (h20 : 20 ≤ n) (h0 : rd l 0 = 74) (h1 : rd l 1 = bm) (hbd : ¬ bm = 82) :
    Calls Try.prog 71 #[.slice A n c, .int .i64 sq] w fun e w' => e = .returned (.tuple #[zeroRec, .int .i64 0, .bool false]) ∧ Below w.heap.size w w' := by
  have hu28 := Try.underlying28
  have hb1_ : decide (bm = 82) = false := decide_eq_false hbd
  have hb2_ : (bm == 82) = false := by simpa using hbd
  have hb3_ : (bm != 82) = true := by simpa using hbd
  have hu26 := Try.underlying26
  have hu24 := Try.underlying24
  have hu147 := Try.underlying147
  have hmf : ∀ (fn : Fn) (first cap : Array Value) (w : World), (Instr.makeFunc fn first cap).run Try.prog w = .ok (.func fn first cap) w := fun _ _ _ _ => rfl
  obtain ⟨ad, rfl, hb0⟩ := Kd.at_int hC 0 (by decide) (by omega)
  obtain ⟨ad1, e1, hb1⟩ := Kd.at_int hC 1 (by decide) (by omega)
  cases e1
  rw [h0] at hb0
  rw [h1] at hb1
  replace hb0 : w.cell? ad = some (.int .u8 74) := by rw [show ad.add (Int.toNat 0) = ad from by simp [Addr.add]] at hb0; exact hb0
  replace hb1 : w.cell? ⟨ad.block, ad.off + 1, none⟩ = some (.int .u8 bm) := by rw [show ad.add (Int.toNat 1) = ⟨ad.block, ad.off + 1, none⟩ from by simp [Addr.add]] at hb1; exact hb1
  have HN := Aside0.mk hn
  have HCC := Aside0.mk hc
  have HC := Aside0.mk hC
  have HOK := Aside0.mk hok
  have HM := Aside0.mk hmx
  have H20 := Aside0.mk h20
  clear hn hc hmx hok hC h20 h0 hbd
  have hd20 : decide ((n : Int) < 20) = false := decide_eq_false (by have := H20.out; omega)
  have hd21 : decide (n < 20) = false := decide_eq_false (by have := H20.out; omega)
  have i0 : (0 < n) = True := eq_true (by have := H20.out; omega)
  have i1 : (1 < n) = True := eq_true (by have := H20.out; omega)
  have j0 : ((0 : Int) < (n : Int)) = True := eq_true (by have := H20.out; omega)
  have j1 : ((1 : Int) < (n : Int)) = True := eq_true (by have := H20.out; omega)
  go_enter_defers Try.func71, Try.ntmps71
  go_wp2_with fail
  obtain ⟨p4, hp4⟩ : ∃ p4, p4 = w.heap.size := ⟨_, rfl⟩
  obtain ⟨p5, hp5⟩ : ∃ p5, p5 = w.heap.size + 1 := ⟨_, rfl⟩
  obtain ⟨p6, hp6⟩ : ∃ p6, p6 = w.heap.size + 1 + 1 := ⟨_, rfl⟩
  obtain ⟨wa, hwa⟩ : ∃ wa, wa = w.alloc (.cells #[.int .i64 0, .int .i64 0, .int .i64 0, .int .i64 0, .int .i64 0, .int .i64 0, .slice none 0 0, .int .i64 0, .int .i64 0, .int .i64 0, .int .i64 0, .int .i64 0, .string ⟨#[]⟩] 28) := ⟨_, rfl⟩
  obtain ⟨wb, hwb⟩ : ∃ wb, wb = wa.alloc (.cells #[.int .i64 0] 3) := ⟨_, rfl⟩
  obtain ⟨wc, hwc⟩ : ∃ wc, wc = wb.alloc (.cells #[.bool false] 4) := ⟨_, rfl⟩
  rw [← hwa, ← hwb, ← hwc, ← hp6, ← hp5, ← hp4]
  have hza : wa.heap.size = w.heap.size + 1 := by rw [hwa]; simp
  have hzb : wb.heap.size = w.heap.size + 1 + 1 := by rw [hwb, ← hza]; simp
  have hba : Below wa.heap.size wa wb := by rw [hwb]; exact below_alloc (Below.refl _ _) _
  have hbb : Below wb.heap.size wb wc := by rw [hwc]; exact below_alloc (Below.refl _ _) _
  have HB := Aside0.mk (show Below w.heap.size w wc from below_step (below_step (by rw [hwa]; exact below_alloc (Below.refl _ _) _) hba) hbb)
  have HP4 := Aside0.mk (show wc.heap[p4]? = some (.cells #[.int .i64 0, .int .i64 0, .int .i64 0, .int .i64 0, .int .i64 0, .int .i64 0, .slice none 0 0, .int .i64 0, .int .i64 0, .int .i64 0, .int .i64 0, .int .i64 0, .string ⟨#[]⟩] 28 (0, 0)) by
    refine (hbb.block p4 (by omega)).trans ((hba.block p4 (by omega)).trans ?_)
    rw [hwa, hp4]; exact heap_alloc_new w _)
  have HP5 := Aside0.mk (show wc.heap[p5]? = some (.cells #[.int .i64 0] 3 (0, 0)) by
    refine (hbb.block p5 (by omega)).trans ?_
    rw [hwb, hp5, ← hza]; exact heap_alloc_new wa _)
  have HP6 := Aside0.mk (show wc.heap[p6]? = some (.cells #[.bool false] 4 (0, 0)) by rw [hwc, hp6, ← hzb]; exact heap_alloc_new wb _)
  have HPW := Aside0.mk (show w.heap.size ≤ p4 ∧ p4 < p5 ∧ p5 < p6 by omega)
  clear hp4 hp5 hp6 hwa hwb hwc hza hzb hba hbb
  have HB0 := Aside0.mk (pw_cell_below (below_drew1 HB.out) hb0)
  have HB1 := Aside0.mk (pw_cell_below (below_drew1 HB.out) hb1)
  clear hb0 hb1
  have c0 := HB0.out
  have c1 := HB1.out
  refine start_ (n := 37) (S := fun w' => w'.cell? ad = some (.int .u8 74) ∧ w'.cell? ⟨ad.block, ad.off + 1, none⟩ = some (.int .u8 bm)) (ds := []) bq83 (by kernel_rfl) rfl rfl ⟨c0, c1⟩ (fun hHeld => ?_)
  refine pure_ (i := 0) (N := some 11) (v := ?_) (a' := ?_) bq84 rfl rfl (by kernel_rfl) (hq71 (by decide)) (Or.inl ⟨by rfl, ?_⟩) ?_ ?_
  rotate_left
  · intro w'; go_simp; with_reducible rfl
  rotate_left
  · simp only [sxx]; rfl
  refine pure_ (i := 1) (N := some 12) (v := ?_) (a' := ?_) bq85 rfl rfl (by kernel_rfl) (hq71 (by decide)) (Or.inl ⟨by rfl, ?_⟩) ?_ ?_
  rotate_left
  · intro w'; go_simp; with_reducible rfl
  rotate_left
  · simp only [sxx]; rfl
  refine pure_ (i := 2) (N := some 13) (v := ?_) (a' := ?_) bq86 rfl rfl (by kernel_rfl) (hq71 (by decide)) (Or.inl ⟨by rfl, ?_⟩) ?_ ?_
  rotate_left
  · intro w'; go_simp; with_reducible rfl
  rotate_left
  · simp only [sxx]; rfl
  refine pure_ (i := 3) (N := some 14) (v := ?_) (a' := ?_) bq87 rfl rfl (by kernel_rfl) (hq71 (by decide)) (Or.inl ⟨by rfl, ?_⟩) ?_ ?_
  rotate_left
  · intro w'; go_simp; with_reducible rfl
  rotate_left
  · simp only [sxx]; rfl
  refine pure_ (i := 4) (N := some 15) (v := ?_) (a' := ?_) bq88 rfl rfl (by kernel_rfl) (hq71 (by decide)) (Or.inl ⟨by rfl, ?_⟩) ?_ ?_
  rotate_left
  · intro w'; go_simp; with_reducible rfl
  rotate_left
  · simp only [sxx]; rfl
  refine pure_ (i := 5) (N := some 16) (v := ?_) (a' := ?_) bq89 rfl rfl (by kernel_rfl) (hq71 (by decide)) (Or.inl ⟨by rfl, ?_⟩) ?_ ?_
  rotate_left
  · intro w'; go_simp; with_reducible rfl
  rotate_left
  · simp only [sxx]; rfl
  refine take_ (i := 6) (N := some 17) (v := ?_) (a' := ?_) bq90 rfl rfl (by kernel_rfl) (hq71 (by decide)) (Or.inl ⟨by rfl, ?_⟩) hHeld ?_ ?_
  rotate_left
  · rintro w' ⟨s0, s1⟩
    go_simp; with_reducible rfl
  rotate_left
  · simp only [sxx]; rfl
  refine pure_ (i := 7) (N := some 18) (v := ?_) (a' := ?_) bq91 rfl rfl (by kernel_rfl) (hq71 (by decide)) (Or.inl ⟨by rfl, ?_⟩) ?_ ?_
  rotate_left
  · intro w'; go_simp; with_reducible rfl
  rotate_left
  · simp only [sxx]; rfl
  refine pure_ (i := 8) (N := some 19) (v := ?_) (a' := ?_) bq92 rfl rfl (by kernel_rfl) (hq71 (by decide)) (Or.inl ⟨by rfl, ?_⟩) ?_ ?_
  rotate_left
  · intro w'; go_simp; with_reducible rfl
  rotate_left
  · simp only [sxx]; rfl
  refine pure_ (i := 9) (N := some 20) (v := ?_) (a' := ?_) bq93 rfl rfl (by kernel_rfl) (hq71 (by decide)) (Or.inl ⟨by rfl, ?_⟩) ?_ ?_
  rotate_left
  · intro w'; go_simp; with_reducible rfl
  rotate_left
  · simp only [sxx]; rfl
  refine pure_ (i := 10) (N := some 21) (v := ?_) (a' := ?_) bq94 rfl rfl (by kernel_rfl) (hq71 (by decide)) (Or.inl ⟨by rfl, ?_⟩) ?_ ?_
  rotate_left
  · intro w'; go_simp; with_reducible rfl
  rotate_left
  · simp only [sxx]; rfl
  refine pure_ (i := 11) (N := some 22) (v := ?_) (a' := ?_) bq95 rfl rfl (by kernel_rfl) (hq71 (by decide)) (Or.inl ⟨by rfl, ?_⟩) ?_ ?_
  rotate_left
  · intro w'; go_simp; with_reducible rfl
  rotate_left
  · simp only [sxx]; rfl
  refine take_ (i := 12) (N := some 23) (v := ?_) (a' := ?_) bq96 rfl rfl (by kernel_rfl) (hq71 (by decide)) (Or.inl ⟨by rfl, ?_⟩) hHeld ?_ ?_
  rotate_left
  · rintro w' ⟨s0, s1⟩
    go_simp; with_reducible rfl
  rotate_left
  · simp only [sxx]; rfl
  refine pure_ (i := 13) (N := some 24) (v := ?_) (a' := ?_) bq97 rfl rfl (by kernel_rfl) (hq71 (by decide)) (Or.inl ⟨by rfl, ?_⟩) ?_ ?_
  rotate_left
  · intro w'; go_simp; with_reducible rfl
  rotate_left
  · simp only [sxx]; rfl
  refine pure_ (i := 14) (N := some 25) (v := ?_) (a' := ?_) bq98 rfl rfl (by kernel_rfl) (hq71 (by decide)) (Or.inl ⟨by rfl, ?_⟩) ?_ ?_
  rotate_left
  · intro w'; go_simp; with_reducible rfl
  rotate_left
  · simp only [sxx]; rfl
  refine pure_ (i := 15) (N := some 26) (v := ?_) (a' := ?_) bq99 rfl rfl (by kernel_rfl) (hq71 (by decide)) (Or.inl ⟨by rfl, ?_⟩) ?_ ?_
  rotate_left
  · intro w'; go_simp; with_reducible rfl
  rotate_left
  · simp only [sxx]; rfl
  refine pure_ (i := 16) (N := some 27) (v := undef) (a' := ?_) bq100 rfl rfl (by kernel_rfl) (hq71 (by decide)) (Or.inr ⟨by rfl, rfl⟩) ?_ ?_
  rotate_left
  · simp only [sxx]; rfl
  refine pure_ (i := 17) (N := some 28) (v := undef) (a' := ?_) bq101 rfl rfl (by kernel_rfl) (hq71 (by decide)) (Or.inr ⟨by rfl, rfl⟩) ?_ ?_
  rotate_left
  · simp only [sxx]; rfl
  refine pure_ (i := 18) (N := some 29) (v := undef) (a' := ?_) bq102 rfl rfl (by kernel_rfl) (hq71 (by decide)) (Or.inr ⟨by rfl, rfl⟩) ?_ ?_
  rotate_left
  · simp only [sxx]; rfl
  refine pure_ (i := 19) (N := some 30) (v := undef) (a' := ?_) bq103 rfl rfl (by kernel_rfl) (hq71 (by decide)) (Or.inr ⟨by rfl, rfl⟩) ?_ ?_
  rotate_left
  · simp only [sxx]; rfl
  refine pure_ (i := 20) (N := some 31) (v := ?_) (a' := ?_) bq104 rfl rfl (by kernel_rfl) (hq71 (by decide)) (Or.inl ⟨by rfl, ?_⟩) ?_ ?_
  rotate_left
  · intro w'; go_simp; with_reducible rfl
  rotate_left
  · simp only [sxx]; rfl
  refine pure_ (i := 21) (N := some 32) (v := ?_) (a' := ?_) bq105 rfl rfl (by kernel_rfl) (hq71 (by decide)) (Or.inl ⟨by rfl, ?_⟩) ?_ ?_
  rotate_left
  · intro w'; go_simp; with_reducible rfl
  rotate_left
  · simp only [sxx]; rfl
  refine pure_ (i := 22) (N := some 33) (v := undef) (a' := ?_) bq106 rfl rfl (by kernel_rfl) (hq71 (by decide)) (Or.inr ⟨by rfl, rfl⟩) ?_ ?_
  rotate_left
  · simp only [sxx]; rfl
  refine pure_ (i := 23) (N := some 34) (v := undef) (a' := ?_) bq107 rfl rfl (by kernel_rfl) (hq71 (by decide)) (Or.inr ⟨by rfl, rfl⟩) ?_ ?_
  rotate_left
  · simp only [sxx]; rfl
  refine pure_ (i := 24) (N := some 35) (v := undef) (a' := ?_) bq144 rfl rfl (by kernel_rfl) (hq71 (by decide)) (Or.inr ⟨by rfl, rfl⟩) ?_ ?_
  rotate_left
  · simp only [sxx]; rfl
  refine pure_ (i := 25) (N := some 36) (v := undef) (a' := ?_) bq109 rfl rfl (by kernel_rfl) (hq71 (by decide)) (Or.inr ⟨by rfl, rfl⟩) ?_ ?_
  rotate_left
  · simp only [sxx]; rfl
  refine pure_ (i := 26) (N := some 37) (v := undef) (a' := ?_) bq110 rfl rfl (by kernel_rfl) (hq71 (by decide)) (Or.inr ⟨by rfl, rfl⟩) ?_ ?_
  rotate_left
  · simp only [sxx]; rfl
  refine pure_ (i := 27) (N := some 38) (v := ?_) (a' := ?_) bq111 rfl rfl (by kernel_rfl) (hq71 (by decide)) (Or.inl ⟨by rfl, ?_⟩) ?_ ?_
  rotate_left
  · intro w'; go_simp; with_reducible rfl
  rotate_left
  · simp only [sxx]; rfl
  refine pure_ (i := 28) (N := some 39) (v := ?_) (a' := ?_) bq112 rfl rfl (by kernel_rfl) (hq71 (by decide)) (Or.inl ⟨by rfl, ?_⟩) ?_ ?_
  rotate_left
  · intro w'; go_simp; with_reducible rfl
  rotate_left
  · simp only [sxx]; rfl
  refine pure_ (i := 29) (N := some 40) (v := undef) (a' := ?_) bq113 rfl rfl (by kernel_rfl) (hq71 (by decide)) (Or.inr ⟨by rfl, rfl⟩) ?_ ?_
  rotate_left
  · simp only [sxx]; rfl
  refine pure_ (i := 30) (N := some 41) (v := undef) (a' := ?_) bq114 rfl rfl (by kernel_rfl) (hq71 (by decide)) (Or.inr ⟨by rfl, rfl⟩) ?_ ?_
  rotate_left
  · simp only [sxx]; rfl
  refine pure_ (i := 31) (N := some 42) (v := undef) (a' := ?_) bq145 rfl rfl (by kernel_rfl) (hq71 (by decide)) (Or.inr ⟨by rfl, rfl⟩) ?_ ?_
  rotate_left
  · simp only [sxx]; rfl
  refine pure_ (i := 32) (N := some 43) (v := undef) (a' := ?_) bq146 rfl rfl (by kernel_rfl) (hq71 (by decide)) (Or.inr ⟨by rfl, rfl⟩) ?_ ?_
  rotate_left
  · simp only [sxx]; rfl
  refine pure_ (i := 33) (N := some 44) (v := undef) (a' := ?_) bq117 rfl rfl (by kernel_rfl) (hq71 (by decide)) (Or.inr ⟨by rfl, rfl⟩) ?_ ?_
  rotate_left
  · simp only [sxx]; rfl
  refine pure_ (i := 34) (N := some 45) (v := undef) (a' := ?_) bq118 rfl rfl (by kernel_rfl) (hq71 (by decide)) (Or.inr ⟨by rfl, rfl⟩) ?_ ?_
  rotate_left
  · simp only [sxx]; rfl
  refine pure_ (i := 35) (N := some 46) (v := undef) (a' := ?_) bq119 rfl rfl (by kernel_rfl) (hq71 (by decide)) (Or.inr ⟨by rfl, rfl⟩) ?_ ?_
  rotate_left
  · simp only [sxx]; rfl
  refine pure_ (i := 36) (N := some 47) (v := ?_) (a' := ?_) bq120 rfl rfl (by kernel_rfl) (hq71 (by decide)) (Or.inl ⟨by rfl, ?_⟩) ?_ ?_
  rotate_left
  · intro w'; go_simp; with_reducible rfl
  rotate_left
  · simp only [sxx]; rfl
  refine done_ (by kernel_rfl) ?_
  have HV := Aside0.mk (below_drew1 HB.out)
  have HP4 := Aside0.mk (show wc.drew.heap[p4]? = _ from HP4.out)
  have HP5 := Aside0.mk (show wc.drew.heap[p5]? = _ from HP5.out)
  have HP6 := Aside0.mk (show wc.drew.heap[p6]? = _ from HP6.out)
  clear HB hHeld c0 HB0 c1 HB1 hb1_ hb2_ hb3_
  go_wp2_with (with_reducible refine stop_store rfl ?_)
  refine store_blk rfl rfl 28 _ _ rfl (q := p4) (i := 0) (cur' := zeroCells13) zeroCells13.toList rfl rfl rfl (by kernel_rfl) (by intro u hu; simp at hu; rcases hu with rfl | rfl | rfl | rfl <;> rfl) HP4.out (by simp) rfl ?_
  intro w11 hpb hgb
  have HPB := Aside0.mk hpb
  have HVB := Aside0.mk (HV.out.grown hgb HV.out.size (fun k e => by cases e; exact HPW.out.1))
  have HP5 := Aside0.mk ((hgb.block p5 (blk_lt HP5.out) (fun e => by have := HPW.out; have := Option.some.inj e; omega)).trans HP5.out)
  have HP6 := Aside0.mk ((hgb.block p6 (blk_lt HP6.out) (fun e => by have := HPW.out; have := Option.some.inj e; omega)).trans HP6.out)
  clear hpb hgb HV
  have n5 := (blk_cell HP5.out 0).trans rfl
  have f5 := blk_frozen HP5.out 0
  have n6 := (blk_cell HP6.out 0).trans rfl
  have f6 := blk_frozen HP6.out 0
  have HN56 := Aside0.mk (show p5 ≠ p6 by have := HPW.out; omega)
  have hne := HN56.out
  go_wp2_with fail
  clear hne n5 n6 f5 f6
  obtain ⟨wy, hwy⟩ : ∃ wy, wy = w11.setCell ⟨p5, 0, none⟩ (.int .i64 0) := ⟨_, rfl⟩
  obtain ⟨wz, hwz⟩ : ∃ wz, wz = wy.setCell ⟨p6, 0, none⟩ (.bool false) := ⟨_, rfl⟩
  rw [← hwy, ← hwz]
  have k4 : wz.heap[p4]? = some (.cells zeroCells13 28 (0, 0)) := by
    have := HPW.out
    rw [hwz, Below.heap_setCell wy _ _ p4 (by simp only; omega), hwy, Below.heap_setCell w11 _ _ p4 (by simp only; omega)]
    exact HPB.out
  have k6 : wy.heap[p6]? = some (.cells #[.bool false] 4 (0, 0)) := by
    have := HPW.out
    rw [hwy, Below.heap_setCell w11 _ _ p6 (by simp only; omega)]
    exact HP6.out
  have c5 : wz.cell? ⟨p5, 0, none⟩ = some (.int .i64 0) := by
    have hy : wy.cell? ⟨p5, 0, none⟩ = some (.int .i64 0) := by rw [hwy]; exact World.cell?_setCell_same' _ _ _ (by rw [blk_cell HP5.out 0]; rfl)
    have := HPW.out
    have he : wz.heap[p5]? = wy.heap[p5]? := by rw [hwz, Below.heap_setCell wy _ _ p5 (by simp only; omega)]
    simp only [World.cell?, he] at hy ⊢
    exact hy
  have c6 : wz.cell? ⟨p6, 0, none⟩ = some (.bool false) := by rw [hwz]; exact World.cell?_setCell_same' _ _ _ (by rw [blk_cell k6 0]; rfl)
  have hBZ : Below w.heap.size w wz := by
    rw [hwz, hwy]
    exact (HVB.out.setCell (p := ⟨p5, 0, none⟩) (by have := HPW.out; simp only; omega) _).setCell (p := ⟨p6, 0, none⟩) (by have := HPW.out; simp only; omega) _
  exact door71 rfl (results71_row _ _ p4 p5 p6 _ _ _ rfl rfl rfl k4 rfl c5 c6) ⟨rfl, hBZ⟩
set_option maxHeartbeats 16000000 in
set_option maxRecDepth 100000 in
theorem read_mark3 (w : World) (A : Option Addr) (n c : Nat) (l : List Int) (sq : Int) (bm : Int)
    (hn : l.length = n) (hc : n ≤ c) (hmx : n ≤ 1000000000000) (hok : bytesOk l = true) (hC : C8 w A n l)
    (h20 : 20 ≤ n) (h0 : rd l 0 = 74) (h1 : rd l 1 = 82) (h3 : rd l 3 = bm) (hbd : ¬ bm = 0) :
    Calls Try.prog 71 #[.slice A n c, .int .i64 sq] w fun e w' => e = .returned (.tuple #[zeroRec, .int .i64 0, .bool false]) ∧ Below w.heap.size w w' := by
  have hu28 := Try.underlying28
  have hb1_ : decide (bm = 0) = false := decide_eq_false hbd
  have hb2_ : (bm == 0) = false := by simpa using hbd
  have hb3_ : (bm != 0) = true := by simpa using hbd
  have hu26 := Try.underlying26
  have hu24 := Try.underlying24
  have hu147 := Try.underlying147
  have hmf : ∀ (fn : Fn) (first cap : Array Value) (w : World), (Instr.makeFunc fn first cap).run Try.prog w = .ok (.func fn first cap) w := fun _ _ _ _ => rfl
  obtain ⟨ad, rfl, hb0⟩ := Kd.at_int hC 0 (by decide) (by omega)
  obtain ⟨ad1, e1, hb1⟩ := Kd.at_int hC 1 (by decide) (by omega)
  cases e1
  obtain ⟨ad1, e1, hb3⟩ := Kd.at_int hC 3 (by decide) (by omega)
  cases e1
  rw [h0] at hb0
  rw [h1] at hb1
  rw [h3] at hb3
  replace hb0 : w.cell? ad = some (.int .u8 74) := by rw [show ad.add (Int.toNat 0) = ad from by simp [Addr.add]] at hb0; exact hb0
  replace hb1 : w.cell? ⟨ad.block, ad.off + 1, none⟩ = some (.int .u8 82) := by rw [show ad.add (Int.toNat 1) = ⟨ad.block, ad.off + 1, none⟩ from by simp [Addr.add]] at hb1; exact hb1
  replace hb3 : w.cell? ⟨ad.block, ad.off + 3, none⟩ = some (.int .u8 bm) := by rw [show ad.add (Int.toNat 3) = ⟨ad.block, ad.off + 3, none⟩ from by simp [Addr.add]] at hb3; exact hb3
  have HN := Aside0.mk hn
  have HCC := Aside0.mk hc
  have HC := Aside0.mk hC
  have HOK := Aside0.mk hok
  have HM := Aside0.mk hmx
  have H20 := Aside0.mk h20
  clear hn hc hmx hok hC h20 h0 h1 hbd
  have hd20 : decide ((n : Int) < 20) = false := decide_eq_false (by have := H20.out; omega)
  have hd21 : decide (n < 20) = false := decide_eq_false (by have := H20.out; omega)
  have i0 : (0 < n) = True := eq_true (by have := H20.out; omega)
  have i1 : (1 < n) = True := eq_true (by have := H20.out; omega)
  have i3 : (3 < n) = True := eq_true (by have := H20.out; omega)
  have j0 : ((0 : Int) < (n : Int)) = True := eq_true (by have := H20.out; omega)
  have j1 : ((1 : Int) < (n : Int)) = True := eq_true (by have := H20.out; omega)
  have j3 : ((3 : Int) < (n : Int)) = True := eq_true (by have := H20.out; omega)
  go_enter_defers Try.func71, Try.ntmps71
  go_wp2_with fail
  obtain ⟨p4, hp4⟩ : ∃ p4, p4 = w.heap.size := ⟨_, rfl⟩
  obtain ⟨p5, hp5⟩ : ∃ p5, p5 = w.heap.size + 1 := ⟨_, rfl⟩
  obtain ⟨p6, hp6⟩ : ∃ p6, p6 = w.heap.size + 1 + 1 := ⟨_, rfl⟩
  obtain ⟨wa, hwa⟩ : ∃ wa, wa = w.alloc (.cells #[.int .i64 0, .int .i64 0, .int .i64 0, .int .i64 0, .int .i64 0, .int .i64 0, .slice none 0 0, .int .i64 0, .int .i64 0, .int .i64 0, .int .i64 0, .int .i64 0, .string ⟨#[]⟩] 28) := ⟨_, rfl⟩
  obtain ⟨wb, hwb⟩ : ∃ wb, wb = wa.alloc (.cells #[.int .i64 0] 3) := ⟨_, rfl⟩
  obtain ⟨wc, hwc⟩ : ∃ wc, wc = wb.alloc (.cells #[.bool false] 4) := ⟨_, rfl⟩
  rw [← hwa, ← hwb, ← hwc, ← hp6, ← hp5, ← hp4]
  have hza : wa.heap.size = w.heap.size + 1 := by rw [hwa]; simp
  have hzb : wb.heap.size = w.heap.size + 1 + 1 := by rw [hwb, ← hza]; simp
  have hba : Below wa.heap.size wa wb := by rw [hwb]; exact below_alloc (Below.refl _ _) _
  have hbb : Below wb.heap.size wb wc := by rw [hwc]; exact below_alloc (Below.refl _ _) _
  have HB := Aside0.mk (show Below w.heap.size w wc from below_step (below_step (by rw [hwa]; exact below_alloc (Below.refl _ _) _) hba) hbb)
  have HP4 := Aside0.mk (show wc.heap[p4]? = some (.cells #[.int .i64 0, .int .i64 0, .int .i64 0, .int .i64 0, .int .i64 0, .int .i64 0, .slice none 0 0, .int .i64 0, .int .i64 0, .int .i64 0, .int .i64 0, .int .i64 0, .string ⟨#[]⟩] 28 (0, 0)) by
    refine (hbb.block p4 (by omega)).trans ((hba.block p4 (by omega)).trans ?_)
    rw [hwa, hp4]; exact heap_alloc_new w _)
  have HP5 := Aside0.mk (show wc.heap[p5]? = some (.cells #[.int .i64 0] 3 (0, 0)) by
    refine (hbb.block p5 (by omega)).trans ?_
    rw [hwb, hp5, ← hza]; exact heap_alloc_new wa _)
  have HP6 := Aside0.mk (show wc.heap[p6]? = some (.cells #[.bool false] 4 (0, 0)) by rw [hwc, hp6, ← hzb]; exact heap_alloc_new wb _)
  have HPW := Aside0.mk (show w.heap.size ≤ p4 ∧ p4 < p5 ∧ p5 < p6 by omega)
  clear hp4 hp5 hp6 hwa hwb hwc hza hzb hba hbb
  have HB0 := Aside0.mk (pw_cell_below (below_drew1 HB.out) hb0)
  have HB1 := Aside0.mk (pw_cell_below (below_drew1 HB.out) hb1)
  have HB3 := Aside0.mk (pw_cell_below (below_drew1 HB.out) hb3)
  clear hb0 hb1 hb3
  have c0 := HB0.out
  have c1 := HB1.out
  have c3 := HB3.out
  refine start_ (n := 37) (S := fun w' => w'.cell? ad = some (.int .u8 74) ∧ w'.cell? ⟨ad.block, ad.off + 1, none⟩ = some (.int .u8 82) ∧ w'.cell? ⟨ad.block, ad.off + 3, none⟩ = some (.int .u8 bm)) (ds := []) bq83 (by kernel_rfl) rfl rfl ⟨c0, c1, c3⟩ (fun hHeld => ?_)
  refine pure_ (i := 0) (N := some 11) (v := ?_) (a' := ?_) bq84 rfl rfl (by kernel_rfl) (hq71 (by decide)) (Or.inl ⟨by rfl, ?_⟩) ?_ ?_
  rotate_left
  · intro w'; go_simp; with_reducible rfl
  rotate_left
  · simp only [sxx]; rfl
  refine pure_ (i := 1) (N := some 12) (v := ?_) (a' := ?_) bq85 rfl rfl (by kernel_rfl) (hq71 (by decide)) (Or.inl ⟨by rfl, ?_⟩) ?_ ?_
  rotate_left
  · intro w'; go_simp; with_reducible rfl
  rotate_left
  · simp only [sxx]; rfl
  refine pure_ (i := 2) (N := some 13) (v := ?_) (a' := ?_) bq86 rfl rfl (by kernel_rfl) (hq71 (by decide)) (Or.inl ⟨by rfl, ?_⟩) ?_ ?_
  rotate_left
  · intro w'; go_simp; with_reducible rfl
  rotate_left
  · simp only [sxx]; rfl
  refine pure_ (i := 3) (N := some 14) (v := ?_) (a' := ?_) bq87 rfl rfl (by kernel_rfl) (hq71 (by decide)) (Or.inl ⟨by rfl, ?_⟩) ?_ ?_
  rotate_left
  · intro w'; go_simp; with_reducible rfl
  rotate_left
  · simp only [sxx]; rfl
  refine pure_ (i := 4) (N := some 15) (v := ?_) (a' := ?_) bq88 rfl rfl (by kernel_rfl) (hq71 (by decide)) (Or.inl ⟨by rfl, ?_⟩) ?_ ?_
  rotate_left
  · intro w'; go_simp; with_reducible rfl
  rotate_left
  · simp only [sxx]; rfl
  refine pure_ (i := 5) (N := some 16) (v := ?_) (a' := ?_) bq89 rfl rfl (by kernel_rfl) (hq71 (by decide)) (Or.inl ⟨by rfl, ?_⟩) ?_ ?_
  rotate_left
  · intro w'; go_simp; with_reducible rfl
  rotate_left
  · simp only [sxx]; rfl
  refine take_ (i := 6) (N := some 17) (v := ?_) (a' := ?_) bq90 rfl rfl (by kernel_rfl) (hq71 (by decide)) (Or.inl ⟨by rfl, ?_⟩) hHeld ?_ ?_
  rotate_left
  · rintro w' ⟨s0, s1, s2⟩
    go_simp; with_reducible rfl
  rotate_left
  · simp only [sxx]; rfl
  refine pure_ (i := 7) (N := some 18) (v := ?_) (a' := ?_) bq91 rfl rfl (by kernel_rfl) (hq71 (by decide)) (Or.inl ⟨by rfl, ?_⟩) ?_ ?_
  rotate_left
  · intro w'; go_simp; with_reducible rfl
  rotate_left
  · simp only [sxx]; rfl
  refine pure_ (i := 8) (N := some 19) (v := ?_) (a' := ?_) bq92 rfl rfl (by kernel_rfl) (hq71 (by decide)) (Or.inl ⟨by rfl, ?_⟩) ?_ ?_
  rotate_left
  · intro w'; go_simp; with_reducible rfl
  rotate_left
  · simp only [sxx]; rfl
  refine pure_ (i := 9) (N := some 20) (v := ?_) (a' := ?_) bq93 rfl rfl (by kernel_rfl) (hq71 (by decide)) (Or.inl ⟨by rfl, ?_⟩) ?_ ?_
  rotate_left
  · intro w'; go_simp; with_reducible rfl
  rotate_left
  · simp only [sxx]; rfl
  refine pure_ (i := 10) (N := some 21) (v := ?_) (a' := ?_) bq94 rfl rfl (by kernel_rfl) (hq71 (by decide)) (Or.inl ⟨by rfl, ?_⟩) ?_ ?_
  rotate_left
  · intro w'; go_simp; with_reducible rfl
  rotate_left
  · simp only [sxx]; rfl
  refine pure_ (i := 11) (N := some 22) (v := ?_) (a' := ?_) bq95 rfl rfl (by kernel_rfl) (hq71 (by decide)) (Or.inl ⟨by rfl, ?_⟩) ?_ ?_
  rotate_left
  · intro w'; go_simp; with_reducible rfl
  rotate_left
  · simp only [sxx]; rfl
  refine take_ (i := 12) (N := some 23) (v := ?_) (a' := ?_) bq96 rfl rfl (by kernel_rfl) (hq71 (by decide)) (Or.inl ⟨by rfl, ?_⟩) hHeld ?_ ?_
  rotate_left
  · rintro w' ⟨s0, s1, s2⟩
    go_simp; with_reducible rfl
  rotate_left
  · simp only [sxx]; rfl
  refine pure_ (i := 13) (N := some 24) (v := ?_) (a' := ?_) bq97 rfl rfl (by kernel_rfl) (hq71 (by decide)) (Or.inl ⟨by rfl, ?_⟩) ?_ ?_
  rotate_left
  · intro w'; go_simp; with_reducible rfl
  rotate_left
  · simp only [sxx]; rfl
  refine pure_ (i := 14) (N := some 25) (v := ?_) (a' := ?_) bq98 rfl rfl (by kernel_rfl) (hq71 (by decide)) (Or.inl ⟨by rfl, ?_⟩) ?_ ?_
  rotate_left
  · intro w'; go_simp; with_reducible rfl
  rotate_left
  · simp only [sxx]; rfl
  refine pure_ (i := 15) (N := some 26) (v := ?_) (a' := ?_) bq99 rfl rfl (by kernel_rfl) (hq71 (by decide)) (Or.inl ⟨by rfl, ?_⟩) ?_ ?_
  rotate_left
  · intro w'; go_simp; with_reducible rfl
  rotate_left
  · simp only [sxx]; rfl
  refine pure_ (i := 16) (N := some 27) (v := ?_) (a' := ?_) bq100 rfl rfl (by kernel_rfl) (hq71 (by decide)) (Or.inl ⟨by rfl, ?_⟩) ?_ ?_
  rotate_left
  · intro w'; go_simp; with_reducible rfl
  rotate_left
  · simp only [sxx]; rfl
  refine pure_ (i := 17) (N := some 28) (v := ?_) (a' := ?_) bq101 rfl rfl (by kernel_rfl) (hq71 (by decide)) (Or.inl ⟨by rfl, ?_⟩) ?_ ?_
  rotate_left
  · intro w'; go_simp; with_reducible rfl
  rotate_left
  · simp only [sxx]; rfl
  refine take_ (i := 18) (N := some 29) (v := ?_) (a' := ?_) bq102 rfl rfl (by kernel_rfl) (hq71 (by decide)) (Or.inl ⟨by rfl, ?_⟩) hHeld ?_ ?_
  rotate_left
  · rintro w' ⟨s0, s1, s2⟩
    go_simp; with_reducible rfl
  rotate_left
  · simp only [sxx]; rfl
  refine pure_ (i := 19) (N := some 30) (v := ?_) (a' := ?_) bq103 rfl rfl (by kernel_rfl) (hq71 (by decide)) (Or.inl ⟨by rfl, ?_⟩) ?_ ?_
  rotate_left
  · intro w'; go_simp; with_reducible rfl
  rotate_left
  · simp only [sxx]; rfl
  refine pure_ (i := 20) (N := some 31) (v := ?_) (a' := ?_) bq104 rfl rfl (by kernel_rfl) (hq71 (by decide)) (Or.inl ⟨by rfl, ?_⟩) ?_ ?_
  rotate_left
  · intro w'; go_simp; with_reducible rfl
  rotate_left
  · simp only [sxx]; rfl
  refine pure_ (i := 21) (N := some 32) (v := ?_) (a' := ?_) bq105 rfl rfl (by kernel_rfl) (hq71 (by decide)) (Or.inl ⟨by rfl, ?_⟩) ?_ ?_
  rotate_left
  · intro w'; go_simp; with_reducible rfl
  rotate_left
  · simp only [sxx]; rfl
  refine pure_ (i := 22) (N := some 33) (v := undef) (a' := ?_) bq106 rfl rfl (by kernel_rfl) (hq71 (by decide)) (Or.inr ⟨by rfl, rfl⟩) ?_ ?_
  rotate_left
  · simp only [sxx]; rfl
  refine pure_ (i := 23) (N := some 34) (v := undef) (a' := ?_) bq107 rfl rfl (by kernel_rfl) (hq71 (by decide)) (Or.inr ⟨by rfl, rfl⟩) ?_ ?_
  rotate_left
  · simp only [sxx]; rfl
  refine pure_ (i := 24) (N := some 35) (v := undef) (a' := ?_) bq144 rfl rfl (by kernel_rfl) (hq71 (by decide)) (Or.inr ⟨by rfl, rfl⟩) ?_ ?_
  rotate_left
  · simp only [sxx]; rfl
  refine pure_ (i := 25) (N := some 36) (v := undef) (a' := ?_) bq109 rfl rfl (by kernel_rfl) (hq71 (by decide)) (Or.inr ⟨by rfl, rfl⟩) ?_ ?_
  rotate_left
  · simp only [sxx]; rfl
  refine pure_ (i := 26) (N := some 37) (v := undef) (a' := ?_) bq110 rfl rfl (by kernel_rfl) (hq71 (by decide)) (Or.inr ⟨by rfl, rfl⟩) ?_ ?_
  rotate_left
  · simp only [sxx]; rfl
  refine pure_ (i := 27) (N := some 38) (v := ?_) (a' := ?_) bq111 rfl rfl (by kernel_rfl) (hq71 (by decide)) (Or.inl ⟨by rfl, ?_⟩) ?_ ?_
  rotate_left
  · intro w'; go_simp; with_reducible rfl
  rotate_left
  · simp only [sxx]; rfl
  refine pure_ (i := 28) (N := some 39) (v := ?_) (a' := ?_) bq112 rfl rfl (by kernel_rfl) (hq71 (by decide)) (Or.inl ⟨by rfl, ?_⟩) ?_ ?_
  rotate_left
  · intro w'; go_simp; with_reducible rfl
  rotate_left
  · simp only [sxx]; rfl
  refine pure_ (i := 29) (N := some 40) (v := undef) (a' := ?_) bq113 rfl rfl (by kernel_rfl) (hq71 (by decide)) (Or.inr ⟨by rfl, rfl⟩) ?_ ?_
  rotate_left
  · simp only [sxx]; rfl
  refine pure_ (i := 30) (N := some 41) (v := undef) (a' := ?_) bq114 rfl rfl (by kernel_rfl) (hq71 (by decide)) (Or.inr ⟨by rfl, rfl⟩) ?_ ?_
  rotate_left
  · simp only [sxx]; rfl
  refine pure_ (i := 31) (N := some 42) (v := undef) (a' := ?_) bq145 rfl rfl (by kernel_rfl) (hq71 (by decide)) (Or.inr ⟨by rfl, rfl⟩) ?_ ?_
  rotate_left
  · simp only [sxx]; rfl
  refine pure_ (i := 32) (N := some 43) (v := undef) (a' := ?_) bq146 rfl rfl (by kernel_rfl) (hq71 (by decide)) (Or.inr ⟨by rfl, rfl⟩) ?_ ?_
  rotate_left
  · simp only [sxx]; rfl
  refine pure_ (i := 33) (N := some 44) (v := undef) (a' := ?_) bq117 rfl rfl (by kernel_rfl) (hq71 (by decide)) (Or.inr ⟨by rfl, rfl⟩) ?_ ?_
  rotate_left
  · simp only [sxx]; rfl
  refine pure_ (i := 34) (N := some 45) (v := undef) (a' := ?_) bq118 rfl rfl (by kernel_rfl) (hq71 (by decide)) (Or.inr ⟨by rfl, rfl⟩) ?_ ?_
  rotate_left
  · simp only [sxx]; rfl
  refine pure_ (i := 35) (N := some 46) (v := undef) (a' := ?_) bq119 rfl rfl (by kernel_rfl) (hq71 (by decide)) (Or.inr ⟨by rfl, rfl⟩) ?_ ?_
  rotate_left
  · simp only [sxx]; rfl
  refine pure_ (i := 36) (N := some 47) (v := ?_) (a' := ?_) bq120 rfl rfl (by kernel_rfl) (hq71 (by decide)) (Or.inl ⟨by rfl, ?_⟩) ?_ ?_
  rotate_left
  · intro w'; go_simp; with_reducible rfl
  rotate_left
  · simp only [sxx]; rfl
  refine done_ (by kernel_rfl) ?_
  have HV := Aside0.mk (below_drew1 HB.out)
  have HP4 := Aside0.mk (show wc.drew.heap[p4]? = _ from HP4.out)
  have HP5 := Aside0.mk (show wc.drew.heap[p5]? = _ from HP5.out)
  have HP6 := Aside0.mk (show wc.drew.heap[p6]? = _ from HP6.out)
  clear HB hHeld c0 HB0 c1 HB1 c3 HB3 hb1_ hb2_ hb3_
  go_wp2_with (with_reducible refine stop_store rfl ?_)
  refine store_blk rfl rfl 28 _ _ rfl (q := p4) (i := 0) (cur' := zeroCells13) zeroCells13.toList rfl rfl rfl (by kernel_rfl) (by intro u hu; simp at hu; rcases hu with rfl | rfl | rfl | rfl <;> rfl) HP4.out (by simp) rfl ?_
  intro w11 hpb hgb
  have HPB := Aside0.mk hpb
  have HVB := Aside0.mk (HV.out.grown hgb HV.out.size (fun k e => by cases e; exact HPW.out.1))
  have HP5 := Aside0.mk ((hgb.block p5 (blk_lt HP5.out) (fun e => by have := HPW.out; have := Option.some.inj e; omega)).trans HP5.out)
  have HP6 := Aside0.mk ((hgb.block p6 (blk_lt HP6.out) (fun e => by have := HPW.out; have := Option.some.inj e; omega)).trans HP6.out)
  clear hpb hgb HV
  have n5 := (blk_cell HP5.out 0).trans rfl
  have f5 := blk_frozen HP5.out 0
  have n6 := (blk_cell HP6.out 0).trans rfl
  have f6 := blk_frozen HP6.out 0
  have HN56 := Aside0.mk (show p5 ≠ p6 by have := HPW.out; omega)
  have hne := HN56.out
  go_wp2_with fail
  clear hne n5 n6 f5 f6
  obtain ⟨wy, hwy⟩ : ∃ wy, wy = w11.setCell ⟨p5, 0, none⟩ (.int .i64 0) := ⟨_, rfl⟩
  obtain ⟨wz, hwz⟩ : ∃ wz, wz = wy.setCell ⟨p6, 0, none⟩ (.bool false) := ⟨_, rfl⟩
  rw [← hwy, ← hwz]
  have k4 : wz.heap[p4]? = some (.cells zeroCells13 28 (0, 0)) := by
    have := HPW.out
    rw [hwz, Below.heap_setCell wy _ _ p4 (by simp only; omega), hwy, Below.heap_setCell w11 _ _ p4 (by simp only; omega)]
    exact HPB.out
  have k6 : wy.heap[p6]? = some (.cells #[.bool false] 4 (0, 0)) := by
    have := HPW.out
    rw [hwy, Below.heap_setCell w11 _ _ p6 (by simp only; omega)]
    exact HP6.out
  have c5 : wz.cell? ⟨p5, 0, none⟩ = some (.int .i64 0) := by
    have hy : wy.cell? ⟨p5, 0, none⟩ = some (.int .i64 0) := by rw [hwy]; exact World.cell?_setCell_same' _ _ _ (by rw [blk_cell HP5.out 0]; rfl)
    have := HPW.out
    have he : wz.heap[p5]? = wy.heap[p5]? := by rw [hwz, Below.heap_setCell wy _ _ p5 (by simp only; omega)]
    simp only [World.cell?, he] at hy ⊢
    exact hy
  have c6 : wz.cell? ⟨p6, 0, none⟩ = some (.bool false) := by rw [hwz]; exact World.cell?_setCell_same' _ _ _ (by rw [blk_cell k6 0]; rfl)
  have hBZ : Below w.heap.size w wz := by
    rw [hwz, hwy]
    exact (HVB.out.setCell (p := ⟨p5, 0, none⟩) (by have := HPW.out; simp only; omega) _).setCell (p := ⟨p6, 0, none⟩) (by have := HPW.out; simp only; omega) _
  exact door71 rfl (results71_row _ _ p4 p5 p6 _ _ _ rfl rfl rfl k4 rfl c5 c6) ⟨rfl, hBZ⟩

set_option maxHeartbeats 16000000 in
set_option maxRecDepth 100000 in
theorem read_head (w : World) (A : Option Addr) (n c : Nat) (l : List Int) (sq : Int) (hs : Int)
    (hn : l.length = n) (hc : n ≤ c) (hmx : n ≤ 1000000000000) (hok : bytesOk l = true) (hC : C8 w A n l)
    (h20 : 20 ≤ n) (h0 : rd l 0 = 74) (h1 : rd l 1 = 82) (h3 : rd l 3 = 0) (h4 : journal_four.f (l.drop 4) = some sq) (h12 : journal_four.f (l.drop 12) = some hs) (hbd : ¬ hs = sumW (l.take 12)) :
    Calls Try.prog 71 #[.slice A n c, .int .i64 sq] w fun e w' => e = .returned (.tuple #[zeroRec, .int .i64 0, .bool false]) ∧ Below w.heap.size w w' := by
  have hu28 := Try.underlying28
  obtain ⟨su, hsu⟩ : ∃ su, su = sumW (l.take 12) := ⟨_, rfl⟩
  have HSU := Aside0.mk hsu
  rw [← hsu] at hbd
  have hb1_ : decide (hs = su) = false := decide_eq_false hbd
  have hb2_ : (hs == su) = false := by simpa using hbd
  have hb3_ : (hs != su) = true := by simpa using hbd
  clear hsu
  have hu26 := Try.underlying26
  have hu24 := Try.underlying24
  have hu147 := Try.underlying147
  have hmf : ∀ (fn : Fn) (first cap : Array Value) (w : World), (Instr.makeFunc fn first cap).run Try.prog w = .ok (.func fn first cap) w := fun _ _ _ _ => rfl
  obtain ⟨ad, rfl, hb0⟩ := Kd.at_int hC 0 (by decide) (by omega)
  obtain ⟨ad1, e1, hb1⟩ := Kd.at_int hC 1 (by decide) (by omega)
  cases e1
  obtain ⟨ad1, e1, hb3⟩ := Kd.at_int hC 3 (by decide) (by omega)
  cases e1
  rw [h0] at hb0
  rw [h1] at hb1
  rw [h3] at hb3
  obtain ⟨A4, hc4, hC4⟩ := cutf8 (A := some ad) (n := n) (c := c) (xs := l) 4 (by omega) hc
  obtain ⟨A12, hc12, hC12⟩ := cutf8 (A := some ad) (n := n) (c := c) (xs := l) 12 (by omega) hc
  obtain ⟨ht12, hCt12⟩ := cutt8 (A := some ad) (n := n) (c := c) (xs := l) 12 (by omega) hc
  replace hc4 : ∀ (W : World), (Instr.slice 29 (.slice (some ad) n c) (some (.int .i64 4)) none none).run Try.prog W = .ok (.slice A4 (n - 4) (c - 4)) W := hc4
  replace hc12 : ∀ (W : World), (Instr.slice 29 (.slice (some ad) n c) (some (.int .i64 12)) none none).run Try.prog W = .ok (.slice A12 (n - 12) (c - 12)) W := hc12
  replace ht12 : ∀ (W : World), (Instr.slice 29 (.slice (some ad) n c) none (some (.int .i64 12)) none).run Try.prog W = .ok (.slice (some ad) 12 c) W := ht12
  replace hb0 : w.cell? ad = some (.int .u8 74) := by rw [show ad.add (Int.toNat 0) = ad from by simp [Addr.add]] at hb0; exact hb0
  replace hb1 : w.cell? ⟨ad.block, ad.off + 1, none⟩ = some (.int .u8 82) := by rw [show ad.add (Int.toNat 1) = ⟨ad.block, ad.off + 1, none⟩ from by simp [Addr.add]] at hb1; exact hb1
  replace hb3 : w.cell? ⟨ad.block, ad.off + 3, none⟩ = some (.int .u8 0) := by rw [show ad.add (Int.toNat 3) = ⟨ad.block, ad.off + 3, none⟩ from by simp [Addr.add]] at hb3; exact hb3
  have HN := Aside0.mk hn
  have HCC := Aside0.mk hc
  have HC := Aside0.mk hC
  have HOK := Aside0.mk hok
  have HM := Aside0.mk hmx
  have H20 := Aside0.mk h20
  have HC4 := Aside0.mk (hC4 w hC)
  have HC12 := Aside0.mk (hC12 w hC)
  have HCT := Aside0.mk (hCt12 w hC)
  have H4 := Aside0.mk h4
  have H12 := Aside0.mk h12
  clear hn hc hmx hok hC h20 hC4 hC12 hCt12 h4 h12 h0 h1 h3 hbd
  have hd20 : decide ((n : Int) < 20) = false := decide_eq_false (by have := H20.out; omega)
  have hd21 : decide (n < 20) = false := decide_eq_false (by have := H20.out; omega)
  have i0 : (0 < n) = True := eq_true (by have := H20.out; omega)
  have i1 : (1 < n) = True := eq_true (by have := H20.out; omega)
  have i2 : (2 < n) = True := eq_true (by have := H20.out; omega)
  have i3 : (3 < n) = True := eq_true (by have := H20.out; omega)
  have j0 : ((0 : Int) < (n : Int)) = True := eq_true (by have := H20.out; omega)
  have j1 : ((1 : Int) < (n : Int)) = True := eq_true (by have := H20.out; omega)
  have j2 : ((2 : Int) < (n : Int)) = True := eq_true (by have := H20.out; omega)
  have j3 : ((3 : Int) < (n : Int)) = True := eq_true (by have := H20.out; omega)
  go_enter_defers Try.func71, Try.ntmps71
  go_wp2_with fail
  obtain ⟨p4, hp4⟩ : ∃ p4, p4 = w.heap.size := ⟨_, rfl⟩
  obtain ⟨p5, hp5⟩ : ∃ p5, p5 = w.heap.size + 1 := ⟨_, rfl⟩
  obtain ⟨p6, hp6⟩ : ∃ p6, p6 = w.heap.size + 1 + 1 := ⟨_, rfl⟩
  obtain ⟨wa, hwa⟩ : ∃ wa, wa = w.alloc (.cells #[.int .i64 0, .int .i64 0, .int .i64 0, .int .i64 0, .int .i64 0, .int .i64 0, .slice none 0 0, .int .i64 0, .int .i64 0, .int .i64 0, .int .i64 0, .int .i64 0, .string ⟨#[]⟩] 28) := ⟨_, rfl⟩
  obtain ⟨wb, hwb⟩ : ∃ wb, wb = wa.alloc (.cells #[.int .i64 0] 3) := ⟨_, rfl⟩
  obtain ⟨wc, hwc⟩ : ∃ wc, wc = wb.alloc (.cells #[.bool false] 4) := ⟨_, rfl⟩
  rw [← hwa, ← hwb, ← hwc, ← hp6, ← hp5, ← hp4]
  have hza : wa.heap.size = w.heap.size + 1 := by rw [hwa]; simp
  have hzb : wb.heap.size = w.heap.size + 1 + 1 := by rw [hwb, ← hza]; simp
  have hba : Below wa.heap.size wa wb := by rw [hwb]; exact below_alloc (Below.refl _ _) _
  have hbb : Below wb.heap.size wb wc := by rw [hwc]; exact below_alloc (Below.refl _ _) _
  have HB := Aside0.mk (show Below w.heap.size w wc from below_step (below_step (by rw [hwa]; exact below_alloc (Below.refl _ _) _) hba) hbb)
  have HP4 := Aside0.mk (show wc.heap[p4]? = some (.cells #[.int .i64 0, .int .i64 0, .int .i64 0, .int .i64 0, .int .i64 0, .int .i64 0, .slice none 0 0, .int .i64 0, .int .i64 0, .int .i64 0, .int .i64 0, .int .i64 0, .string ⟨#[]⟩] 28 (0, 0)) by
    refine (hbb.block p4 (by omega)).trans ((hba.block p4 (by omega)).trans ?_)
    rw [hwa, hp4]; exact heap_alloc_new w _)
  have HP5 := Aside0.mk (show wc.heap[p5]? = some (.cells #[.int .i64 0] 3 (0, 0)) by
    refine (hbb.block p5 (by omega)).trans ?_
    rw [hwb, hp5, ← hza]; exact heap_alloc_new wa _)
  have HP6 := Aside0.mk (show wc.heap[p6]? = some (.cells #[.bool false] 4 (0, 0)) by rw [hwc, hp6, ← hzb]; exact heap_alloc_new wb _)
  have HPW := Aside0.mk (show w.heap.size ≤ p4 ∧ p4 < p5 ∧ p5 < p6 by omega)
  clear hp4 hp5 hp6 hwa hwb hwc hza hzb hba hbb
  have HB0 := Aside0.mk (pw_cell_below (below_drew1 HB.out) hb0)
  have HB1 := Aside0.mk (pw_cell_below (below_drew1 HB.out) hb1)
  have HB3 := Aside0.mk (pw_cell_below (below_drew1 HB.out) hb3)
  clear hb0 hb1 hb3
  have c0 := HB0.out
  have c1 := HB1.out
  have c3 := HB3.out
  have HD := Aside0.mk (below_drew1 HB.out)
  refine start_ (n := 37) (S := fun w' => w'.cell? ad = some (.int .u8 74) ∧ w'.cell? ⟨ad.block, ad.off + 1, none⟩ = some (.int .u8 82) ∧ w'.cell? ⟨ad.block, ad.off + 3, none⟩ = some (.int .u8 0)) (ds := []) bq83 (by kernel_rfl) rfl rfl ⟨c0, c1, c3⟩ (fun hHeld => ?_)
  refine pure_ (i := 0) (N := some 11) (v := ?_) (a' := ?_) bq84 rfl rfl (by kernel_rfl) (hq71 (by decide)) (Or.inl ⟨by rfl, ?_⟩) ?_ ?_
  rotate_left
  · intro w'; go_simp; with_reducible rfl
  rotate_left
  · simp only [sxx]; rfl
  refine pure_ (i := 1) (N := some 12) (v := ?_) (a' := ?_) bq85 rfl rfl (by kernel_rfl) (hq71 (by decide)) (Or.inl ⟨by rfl, ?_⟩) ?_ ?_
  rotate_left
  · intro w'; go_simp; with_reducible rfl
  rotate_left
  · simp only [sxx]; rfl
  refine pure_ (i := 2) (N := some 13) (v := ?_) (a' := ?_) bq86 rfl rfl (by kernel_rfl) (hq71 (by decide)) (Or.inl ⟨by rfl, ?_⟩) ?_ ?_
  rotate_left
  · intro w'; go_simp; with_reducible rfl
  rotate_left
  · simp only [sxx]; rfl
  refine pure_ (i := 3) (N := some 14) (v := ?_) (a' := ?_) bq87 rfl rfl (by kernel_rfl) (hq71 (by decide)) (Or.inl ⟨by rfl, ?_⟩) ?_ ?_
  rotate_left
  · intro w'; go_simp; with_reducible rfl
  rotate_left
  · simp only [sxx]; rfl
  refine pure_ (i := 4) (N := some 15) (v := ?_) (a' := ?_) bq88 rfl rfl (by kernel_rfl) (hq71 (by decide)) (Or.inl ⟨by rfl, ?_⟩) ?_ ?_
  rotate_left
  · intro w'; go_simp; with_reducible rfl
  rotate_left
  · simp only [sxx]; rfl
  refine pure_ (i := 5) (N := some 16) (v := ?_) (a' := ?_) bq89 rfl rfl (by kernel_rfl) (hq71 (by decide)) (Or.inl ⟨by rfl, ?_⟩) ?_ ?_
  rotate_left
  · intro w'; go_simp; with_reducible rfl
  rotate_left
  · simp only [sxx]; rfl
  refine take_ (i := 6) (N := some 17) (v := ?_) (a' := ?_) bq90 rfl rfl (by kernel_rfl) (hq71 (by decide)) (Or.inl ⟨by rfl, ?_⟩) hHeld ?_ ?_
  rotate_left
  · rintro w' ⟨s0, s1, s2⟩
    go_simp; with_reducible rfl
  rotate_left
  · simp only [sxx]; rfl
  refine pure_ (i := 7) (N := some 18) (v := ?_) (a' := ?_) bq91 rfl rfl (by kernel_rfl) (hq71 (by decide)) (Or.inl ⟨by rfl, ?_⟩) ?_ ?_
  rotate_left
  · intro w'; go_simp; with_reducible rfl
  rotate_left
  · simp only [sxx]; rfl
  refine pure_ (i := 8) (N := some 19) (v := ?_) (a' := ?_) bq92 rfl rfl (by kernel_rfl) (hq71 (by decide)) (Or.inl ⟨by rfl, ?_⟩) ?_ ?_
  rotate_left
  · intro w'; go_simp; with_reducible rfl
  rotate_left
  · simp only [sxx]; rfl
  refine pure_ (i := 9) (N := some 20) (v := ?_) (a' := ?_) bq93 rfl rfl (by kernel_rfl) (hq71 (by decide)) (Or.inl ⟨by rfl, ?_⟩) ?_ ?_
  rotate_left
  · intro w'; go_simp; with_reducible rfl
  rotate_left
  · simp only [sxx]; rfl
  refine pure_ (i := 10) (N := some 21) (v := ?_) (a' := ?_) bq94 rfl rfl (by kernel_rfl) (hq71 (by decide)) (Or.inl ⟨by rfl, ?_⟩) ?_ ?_
  rotate_left
  · intro w'; go_simp; with_reducible rfl
  rotate_left
  · simp only [sxx]; rfl
  refine pure_ (i := 11) (N := some 22) (v := ?_) (a' := ?_) bq95 rfl rfl (by kernel_rfl) (hq71 (by decide)) (Or.inl ⟨by rfl, ?_⟩) ?_ ?_
  rotate_left
  · intro w'; go_simp; with_reducible rfl
  rotate_left
  · simp only [sxx]; rfl
  refine take_ (i := 12) (N := some 23) (v := ?_) (a' := ?_) bq96 rfl rfl (by kernel_rfl) (hq71 (by decide)) (Or.inl ⟨by rfl, ?_⟩) hHeld ?_ ?_
  rotate_left
  · rintro w' ⟨s0, s1, s2⟩
    go_simp; with_reducible rfl
  rotate_left
  · simp only [sxx]; rfl
  refine pure_ (i := 13) (N := some 24) (v := ?_) (a' := ?_) bq97 rfl rfl (by kernel_rfl) (hq71 (by decide)) (Or.inl ⟨by rfl, ?_⟩) ?_ ?_
  rotate_left
  · intro w'; go_simp; with_reducible rfl
  rotate_left
  · simp only [sxx]; rfl
  refine pure_ (i := 14) (N := some 25) (v := ?_) (a' := ?_) bq98 rfl rfl (by kernel_rfl) (hq71 (by decide)) (Or.inl ⟨by rfl, ?_⟩) ?_ ?_
  rotate_left
  · intro w'; go_simp; with_reducible rfl
  rotate_left
  · simp only [sxx]; rfl
  refine pure_ (i := 15) (N := some 26) (v := ?_) (a' := ?_) bq99 rfl rfl (by kernel_rfl) (hq71 (by decide)) (Or.inl ⟨by rfl, ?_⟩) ?_ ?_
  rotate_left
  · intro w'; go_simp; with_reducible rfl
  rotate_left
  · simp only [sxx]; rfl
  refine pure_ (i := 16) (N := some 27) (v := ?_) (a' := ?_) bq100 rfl rfl (by kernel_rfl) (hq71 (by decide)) (Or.inl ⟨by rfl, ?_⟩) ?_ ?_
  rotate_left
  · intro w'; go_simp; with_reducible rfl
  rotate_left
  · simp only [sxx]; rfl
  refine pure_ (i := 17) (N := some 28) (v := ?_) (a' := ?_) bq101 rfl rfl (by kernel_rfl) (hq71 (by decide)) (Or.inl ⟨by rfl, ?_⟩) ?_ ?_
  rotate_left
  · intro w'; go_simp; with_reducible rfl
  rotate_left
  · simp only [sxx]; rfl
  refine take_ (i := 18) (N := some 29) (v := ?_) (a' := ?_) bq102 rfl rfl (by kernel_rfl) (hq71 (by decide)) (Or.inl ⟨by rfl, ?_⟩) hHeld ?_ ?_
  rotate_left
  · rintro w' ⟨s0, s1, s2⟩
    go_simp; with_reducible rfl
  rotate_left
  · simp only [sxx]; rfl
  refine pure_ (i := 19) (N := some 30) (v := ?_) (a' := ?_) bq103 rfl rfl (by kernel_rfl) (hq71 (by decide)) (Or.inl ⟨by rfl, ?_⟩) ?_ ?_
  rotate_left
  · intro w'; go_simp; with_reducible rfl
  rotate_left
  · simp only [sxx]; rfl
  refine pure_ (i := 20) (N := some 31) (v := ?_) (a' := ?_) bq104 rfl rfl (by kernel_rfl) (hq71 (by decide)) (Or.inl ⟨by rfl, ?_⟩) ?_ ?_
  rotate_left
  · intro w'; go_simp; with_reducible rfl
  rotate_left
  · simp only [sxx]; rfl
  refine pure_ (i := 21) (N := some 32) (v := ?_) (a' := ?_) bq105 rfl rfl (by kernel_rfl) (hq71 (by decide)) (Or.inl ⟨by rfl, ?_⟩) ?_ ?_
  rotate_left
  · intro w'; go_simp; with_reducible rfl
  rotate_left
  · simp only [sxx]; rfl
  refine pure_ (i := 22) (N := some 33) (v := ?_) (a' := ?_) bq106 rfl rfl (by kernel_rfl) (hq71 (by decide)) (Or.inl ⟨by rfl, ?_⟩) ?_ ?_
  rotate_left
  · intro w'; go_simp; with_reducible rfl
  rotate_left
  · simp only [sxx]; rfl
  refine pure_ (i := 23) (N := some 34) (v := ?_) (a' := ?_) bq107 rfl rfl (by kernel_rfl) (hq71 (by decide)) (Or.inl ⟨by rfl, ?_⟩) ?_ ?_
  rotate_left
  · intro w'; go_simp; with_reducible rfl
  rotate_left
  · simp only [sxx]; rfl
  refine pure_ (i := 25) (N := some 36) (v := ?_) (a' := ?_) bq108 rfl rfl (by kernel_rfl) (hq71 (by decide)) (Or.inl ⟨by rfl, ?_⟩) ?_ ?_
  rotate_left
  · intro w'; go_simp; with_reducible rfl
  rotate_left
  · simp only [sxx]; rfl
  refine one_ (i := 24) (N := some 35) bq109 rfl rfl (by kernel_rfl) (by decide) (fun K hK => ?_)
  refine goes_ Try.func83 (by kernel_rfl) rfl #[.slice A4 (n - 4) (c - 4)] (by rfl) rfl rfl (by simp only [mxx]; rfl) ?_
  with_reducible refine (four_N A4 (n - 4) (c - 4) (l.drop 4) sq _ (by rw [List.length_drop, HN.out]) (Nat.sub_le_sub_right HCC.out 4) (Kd.C_below HC4.out HD.out) H4.out).mono ?_
  rintro e u1 ⟨rfl, hb⟩
  refine ⟨_, rfl, ?_⟩
  have HU1 := Aside0.mk hb
  have HV1 := Aside0.mk (below_step HD.out hb)
  clear hb
  refine hK.out _ _ ⟨pw_cell_below HU1.out HB0.out, pw_cell_below HU1.out HB1.out, pw_cell_below HU1.out HB3.out⟩ (fun hHeld => ?_)
  clear hK K
  refine norm_ (a' := ?_) ?_ ?_
  rotate_left
  · show Act.put _ (some 35) _ = _
    simp only [sxx]; rfl
  refine pure_ (i := 26) (N := some 37) (v := ?_) (a' := ?_) bq110 rfl rfl (by kernel_rfl) (hq71 (by decide)) (Or.inl ⟨by rfl, ?_⟩) ?_ ?_
  rotate_left
  · intro w'; go_simp; with_reducible rfl
  rotate_left
  · simp only [sxx]; rfl
  refine pure_ (i := 27) (N := some 38) (v := ?_) (a' := ?_) bq111 rfl rfl (by kernel_rfl) (hq71 (by decide)) (Or.inl ⟨by rfl, ?_⟩) ?_ ?_
  rotate_left
  · intro w'; go_simp; with_reducible rfl
  rotate_left
  · simp only [sxx]; rfl
  refine pure_ (i := 28) (N := some 39) (v := ?_) (a' := ?_) bq112 rfl rfl (by kernel_rfl) (hq71 (by decide)) (Or.inl ⟨by rfl, ?_⟩) ?_ ?_
  rotate_left
  · intro w'; go_simp; with_reducible rfl
  rotate_left
  · simp only [sxx]; rfl
  refine pure_ (i := 29) (N := some 40) (v := ?_) (a' := ?_) bq113 rfl rfl (by kernel_rfl) (hq71 (by decide)) (Or.inl ⟨by rfl, ?_⟩) ?_ ?_
  rotate_left
  · intro w'; go_simp; with_reducible rfl
  rotate_left
  · simp only [sxx]; rfl
  refine pure_ (i := 30) (N := some 41) (v := ?_) (a' := ?_) bq114 rfl rfl (by kernel_rfl) (hq71 (by decide)) (Or.inl ⟨by rfl, ?_⟩) ?_ ?_
  rotate_left
  · intro w'; go_simp; with_reducible rfl
  rotate_left
  · simp only [sxx]; rfl
  refine pure_ (i := 32) (N := some 43) (v := ?_) (a' := ?_) bq115 rfl rfl (by kernel_rfl) (hq71 (by decide)) (Or.inl ⟨by rfl, ?_⟩) ?_ ?_
  rotate_left
  · intro w'; go_simp; with_reducible rfl
  rotate_left
  · simp only [sxx]; rfl
  refine pure_ (i := 33) (N := some 44) (v := ?_) (a' := ?_) bq116 rfl rfl (by kernel_rfl) (hq71 (by decide)) (Or.inl ⟨by rfl, ?_⟩) ?_ ?_
  rotate_left
  · intro w'; go_simp; with_reducible rfl
  rotate_left
  · simp only [sxx]; rfl
  refine one_ (i := 31) (N := some 42) bq117 rfl rfl (by kernel_rfl) (by decide) (fun K hK => ?_)
  refine goes_ Try.func83 (by kernel_rfl) rfl #[.slice A12 (n - 12) (c - 12)] (by rfl) rfl rfl (by simp only [mxx]; rfl) ?_
  with_reducible refine (four_N A12 (n - 12) (c - 12) (l.drop 12) hs _ (by rw [List.length_drop, HN.out]) (Nat.sub_le_sub_right HCC.out 12) (Kd.C_below HC12.out HV1.out) H12.out).mono ?_
  rintro e u2 ⟨rfl, hb⟩
  refine ⟨_, rfl, ?_⟩
  have HU2 := Aside0.mk (below_step HU1.out hb)
  have HV2 := Aside0.mk (below_step HV1.out hb)
  clear hb
  refine hK.out _ _ ⟨pw_cell_below HU2.out HB0.out, pw_cell_below HU2.out HB1.out, pw_cell_below HU2.out HB3.out⟩ (fun hHeld => ?_)
  clear hK K
  refine norm_ (a' := ?_) ?_ ?_
  rotate_left
  · show Act.put _ (some 42) _ = _
    simp only [sxx]; rfl
  refine one_ (i := 34) (N := some 45) bq118 rfl rfl (by kernel_rfl) (by decide) (fun K hK => ?_)
  refine goes_ Try.func33 (by kernel_rfl) rfl #[.slice (some ad) 12 c] (by rfl) rfl rfl (by simp only [mxx]; rfl) ?_
  with_reducible refine (sum_N (some ad) 12 c (l.take 12) _ (by rw [List.length_take, HN.out]; have := H20.out; omega) (by have := H20.out; have := HCC.out; omega) (Kd.C_below HCT.out HV2.out) (bytesOk_take HOK.out 12)).mono ?_
  rintro e u3 ⟨rfl, hb⟩
  rw [← HSU.out]
  refine ⟨_, rfl, ?_⟩
  have HU3 := Aside0.mk (below_step HU2.out hb)
  have HV3 := Aside0.mk (below_step HV2.out hb)
  clear hb
  refine hK.out _ _ ⟨pw_cell_below HU3.out HB0.out, pw_cell_below HU3.out HB1.out, pw_cell_below HU3.out HB3.out⟩ (fun hHeld => ?_)
  clear hK K
  refine norm_ (a' := ?_) ?_ ?_
  rotate_left
  · show Act.put _ (some 45) _ = _
    simp only [sxx]; rfl
  refine pure_ (i := 35) (N := some 46) (v := ?_) (a' := ?_) bq119 rfl rfl (by kernel_rfl) (hq71 (by decide)) (Or.inl ⟨by rfl, ?_⟩) ?_ ?_
  rotate_left
  · intro w'; go_simp; with_reducible rfl
  rotate_left
  · simp only [sxx]; rfl
  refine pure_ (i := 36) (N := some 47) (v := ?_) (a' := ?_) bq120 rfl rfl (by kernel_rfl) (hq71 (by decide)) (Or.inl ⟨by rfl, ?_⟩) ?_ ?_
  rotate_left
  · intro w'; go_simp; with_reducible rfl
  rotate_left
  · simp only [sxx]; rfl
  refine done_ (by kernel_rfl) ?_
  have HV := HV3
  have HP4 := Aside0.mk ((HU3.out.block p4 (blk_lt HP4.out)).trans HP4.out)
  have HP5 := Aside0.mk ((HU3.out.block p5 (blk_lt HP5.out)).trans HP5.out)
  have HP6 := Aside0.mk ((HU3.out.block p6 (blk_lt HP6.out)).trans HP6.out)
  clear HB hHeld HU1 HU2 HU3 HV1 HV2 HB0 HB1 HB3 HD c0 c1 c3 hc4 hc12 ht12 hb1_ hb2_ hb3_
  go_wp2_with (with_reducible refine stop_store rfl ?_)
  refine store_blk rfl rfl 28 _ _ rfl (q := p4) (i := 0) (cur' := zeroCells13) zeroCells13.toList rfl rfl rfl (by kernel_rfl) (by intro u hu; simp at hu; rcases hu with rfl | rfl | rfl | rfl <;> rfl) HP4.out (by simp) rfl ?_
  intro w11 hpb hgb
  have HPB := Aside0.mk hpb
  have HVB := Aside0.mk (HV.out.grown hgb HV.out.size (fun k e => by cases e; exact HPW.out.1))
  have HP5 := Aside0.mk ((hgb.block p5 (blk_lt HP5.out) (fun e => by have := HPW.out; have := Option.some.inj e; omega)).trans HP5.out)
  have HP6 := Aside0.mk ((hgb.block p6 (blk_lt HP6.out) (fun e => by have := HPW.out; have := Option.some.inj e; omega)).trans HP6.out)
  clear hpb hgb HV
  have n5 := (blk_cell HP5.out 0).trans rfl
  have f5 := blk_frozen HP5.out 0
  have n6 := (blk_cell HP6.out 0).trans rfl
  have f6 := blk_frozen HP6.out 0
  have HN56 := Aside0.mk (show p5 ≠ p6 by have := HPW.out; omega)
  have hne := HN56.out
  go_wp2_with fail
  clear hne n5 n6 f5 f6
  obtain ⟨wy, hwy⟩ : ∃ wy, wy = w11.setCell ⟨p5, 0, none⟩ (.int .i64 0) := ⟨_, rfl⟩
  obtain ⟨wz, hwz⟩ : ∃ wz, wz = wy.setCell ⟨p6, 0, none⟩ (.bool false) := ⟨_, rfl⟩
  rw [← hwy, ← hwz]
  have k4 : wz.heap[p4]? = some (.cells zeroCells13 28 (0, 0)) := by
    have := HPW.out
    rw [hwz, Below.heap_setCell wy _ _ p4 (by simp only; omega), hwy, Below.heap_setCell w11 _ _ p4 (by simp only; omega)]
    exact HPB.out
  have k6 : wy.heap[p6]? = some (.cells #[.bool false] 4 (0, 0)) := by
    have := HPW.out
    rw [hwy, Below.heap_setCell w11 _ _ p6 (by simp only; omega)]
    exact HP6.out
  have c5 : wz.cell? ⟨p5, 0, none⟩ = some (.int .i64 0) := by
    have hy : wy.cell? ⟨p5, 0, none⟩ = some (.int .i64 0) := by rw [hwy]; exact World.cell?_setCell_same' _ _ _ (by rw [blk_cell HP5.out 0]; rfl)
    have := HPW.out
    have he : wz.heap[p5]? = wy.heap[p5]? := by rw [hwz, Below.heap_setCell wy _ _ p5 (by simp only; omega)]
    simp only [World.cell?, he] at hy ⊢
    exact hy
  have c6 : wz.cell? ⟨p6, 0, none⟩ = some (.bool false) := by rw [hwz]; exact World.cell?_setCell_same' _ _ _ (by rw [blk_cell k6 0]; rfl)
  have hBZ : Below w.heap.size w wz := by
    rw [hwz, hwy]
    exact (HVB.out.setCell (p := ⟨p5, 0, none⟩) (by have := HPW.out; simp only; omega) _).setCell (p := ⟨p6, 0, none⟩) (by have := HPW.out; simp only; omega) _
  exact door71 rfl (results71_row _ _ p4 p5 p6 _ _ _ rfl rfl rfl k4 rfl c5 c6) ⟨rfl, hBZ⟩

set_option maxHeartbeats 16000000 in
set_option maxRecDepth 100000 in
theorem read_tail (w : World) (A : Option Addr) (n c : Nat) (l : List Int) (sq : Int) (m : Nat) (hs : Int)
    (hn : l.length = n) (hc : n ≤ c) (hmx : n ≤ 1000000000000) (hok : bytesOk l = true) (hC : C8 w A n l)
    (h20 : 20 + m ≤ n) (h0 : rd l 0 = 74) (h1 : rd l 1 = 82) (h3 : rd l 3 = 0) (h4 : journal_four.f (l.drop 4) = some sq) (h8 : journal_four.f (l.drop 8) = some (m : Int)) (h12 : journal_four.f (l.drop 12) = some (sumW (l.take 12))) (h16 : journal_four.f (l.drop (16 + m)) = some hs) (hbd : ¬ hs = sumW (l.take (16 + m))) :
    Calls Try.prog 71 #[.slice A n c, .int .i64 sq] w fun e w' => e = .returned (.tuple #[zeroRec, .int .i64 0, .bool false]) ∧ Below w.heap.size w w' := by
  have hu28 := Try.underlying28
  obtain ⟨su, hsu⟩ : ∃ su, su = sumW (l.take (16 + m)) := ⟨_, rfl⟩
  have HSU := Aside0.mk hsu
  rw [← hsu] at hbd
  have hb1_ : decide (hs = su) = false := decide_eq_false hbd
  have hb2_ : (hs == su) = false := by simpa using hbd
  have hb3_ : (hs != su) = true := by simpa using hbd
  clear hsu
  have hu26 := Try.underlying26
  have hu24 := Try.underlying24
  have hu147 := Try.underlying147
  have hmf : ∀ (fn : Fn) (first cap : Array Value) (w : World), (Instr.makeFunc fn first cap).run Try.prog w = .ok (.func fn first cap) w := fun _ _ _ _ => rfl
  obtain ⟨ad, rfl, hb0⟩ := Kd.at_int hC 0 (by decide) (by omega)
  obtain ⟨ad1, e1, hb1⟩ := Kd.at_int hC 1 (by decide) (by omega)
  cases e1
  obtain ⟨ad1, e1, hb3⟩ := Kd.at_int hC 3 (by decide) (by omega)
  cases e1
  rw [h0] at hb0
  rw [h1] at hb1
  rw [h3] at hb3
  obtain ⟨A4, hc4, hC4⟩ := cutf8 (A := some ad) (n := n) (c := c) (xs := l) 4 (by omega) hc
  obtain ⟨A8, hc8, hC8⟩ := cutf8 (A := some ad) (n := n) (c := c) (xs := l) 8 (by omega) hc
  obtain ⟨A12, hc12, hC12⟩ := cutf8 (A := some ad) (n := n) (c := c) (xs := l) 12 (by omega) hc
  obtain ⟨ht12, hCt12⟩ := cutt8 (A := some ad) (n := n) (c := c) (xs := l) 12 (by omega) hc
  replace hc4 : ∀ (W : World), (Instr.slice 29 (.slice (some ad) n c) (some (.int .i64 4)) none none).run Try.prog W = .ok (.slice A4 (n - 4) (c - 4)) W := hc4
  replace hc8 : ∀ (W : World), (Instr.slice 29 (.slice (some ad) n c) (some (.int .i64 8)) none none).run Try.prog W = .ok (.slice A8 (n - 8) (c - 8)) W := hc8
  replace hc12 : ∀ (W : World), (Instr.slice 29 (.slice (some ad) n c) (some (.int .i64 12)) none none).run Try.prog W = .ok (.slice A12 (n - 12) (c - 12)) W := hc12
  replace ht12 : ∀ (W : World), (Instr.slice 29 (.slice (some ad) n c) none (some (.int .i64 12)) none).run Try.prog W = .ok (.slice (some ad) 12 c) W := ht12
  replace hb0 : w.cell? ad = some (.int .u8 74) := by rw [show ad.add (Int.toNat 0) = ad from by simp [Addr.add]] at hb0; exact hb0
  replace hb1 : w.cell? ⟨ad.block, ad.off + 1, none⟩ = some (.int .u8 82) := by rw [show ad.add (Int.toNat 1) = ⟨ad.block, ad.off + 1, none⟩ from by simp [Addr.add]] at hb1; exact hb1
  replace hb3 : w.cell? ⟨ad.block, ad.off + 3, none⟩ = some (.int .u8 0) := by rw [show ad.add (Int.toNat 3) = ⟨ad.block, ad.off + 3, none⟩ from by simp [Addr.add]] at hb3; exact hb3
  have HN := Aside0.mk hn
  have HCC := Aside0.mk hc
  have HC := Aside0.mk hC
  have HOK := Aside0.mk hok
  have HM := Aside0.mk hmx
  have H20 := Aside0.mk h20
  have HC4 := Aside0.mk (hC4 w hC)
  have HC8 := Aside0.mk (hC8 w hC)
  have HC12 := Aside0.mk (hC12 w hC)
  have HCT := Aside0.mk (hCt12 w hC)
  have H4 := Aside0.mk h4
  have H8 := Aside0.mk h8
  have H12 := Aside0.mk h12
  have H16 := Aside0.mk h16
  clear hn hc hmx hok hC h20 hC4 hC8 hC12 hCt12 h4 h8 h12 h16 h0 h1 h3 hbd
  have hd20 : decide ((n : Int) < 20) = false := decide_eq_false (by have := H20.out; omega)
  have hd21 : decide (n < 20) = false := decide_eq_false (by have := H20.out; omega)
  have i0 : (0 < n) = True := eq_true (by have := H20.out; omega)
  have i1 : (1 < n) = True := eq_true (by have := H20.out; omega)
  have i2 : (2 < n) = True := eq_true (by have := H20.out; omega)
  have i3 : (3 < n) = True := eq_true (by have := H20.out; omega)
  have j0 : ((0 : Int) < (n : Int)) = True := eq_true (by have := H20.out; omega)
  have j1 : ((1 : Int) < (n : Int)) = True := eq_true (by have := H20.out; omega)
  have j2 : ((2 : Int) < (n : Int)) = True := eq_true (by have := H20.out; omega)
  have j3 : ((3 : Int) < (n : Int)) = True := eq_true (by have := H20.out; omega)
  go_enter_defers Try.func71, Try.ntmps71
  go_wp2_with fail
  obtain ⟨p4, hp4⟩ : ∃ p4, p4 = w.heap.size := ⟨_, rfl⟩
  obtain ⟨p5, hp5⟩ : ∃ p5, p5 = w.heap.size + 1 := ⟨_, rfl⟩
  obtain ⟨p6, hp6⟩ : ∃ p6, p6 = w.heap.size + 1 + 1 := ⟨_, rfl⟩
  obtain ⟨wa, hwa⟩ : ∃ wa, wa = w.alloc (.cells #[.int .i64 0, .int .i64 0, .int .i64 0, .int .i64 0, .int .i64 0, .int .i64 0, .slice none 0 0, .int .i64 0, .int .i64 0, .int .i64 0, .int .i64 0, .int .i64 0, .string ⟨#[]⟩] 28) := ⟨_, rfl⟩
  obtain ⟨wb, hwb⟩ : ∃ wb, wb = wa.alloc (.cells #[.int .i64 0] 3) := ⟨_, rfl⟩
  obtain ⟨wc, hwc⟩ : ∃ wc, wc = wb.alloc (.cells #[.bool false] 4) := ⟨_, rfl⟩
  rw [← hwa, ← hwb, ← hwc, ← hp6, ← hp5, ← hp4]
  have hza : wa.heap.size = w.heap.size + 1 := by rw [hwa]; simp
  have hzb : wb.heap.size = w.heap.size + 1 + 1 := by rw [hwb, ← hza]; simp
  have hba : Below wa.heap.size wa wb := by rw [hwb]; exact below_alloc (Below.refl _ _) _
  have hbb : Below wb.heap.size wb wc := by rw [hwc]; exact below_alloc (Below.refl _ _) _
  have HB := Aside0.mk (show Below w.heap.size w wc from below_step (below_step (by rw [hwa]; exact below_alloc (Below.refl _ _) _) hba) hbb)
  have HP4 := Aside0.mk (show wc.heap[p4]? = some (.cells #[.int .i64 0, .int .i64 0, .int .i64 0, .int .i64 0, .int .i64 0, .int .i64 0, .slice none 0 0, .int .i64 0, .int .i64 0, .int .i64 0, .int .i64 0, .int .i64 0, .string ⟨#[]⟩] 28 (0, 0)) by
    refine (hbb.block p4 (by omega)).trans ((hba.block p4 (by omega)).trans ?_)
    rw [hwa, hp4]; exact heap_alloc_new w _)
  have HP5 := Aside0.mk (show wc.heap[p5]? = some (.cells #[.int .i64 0] 3 (0, 0)) by
    refine (hbb.block p5 (by omega)).trans ?_
    rw [hwb, hp5, ← hza]; exact heap_alloc_new wa _)
  have HP6 := Aside0.mk (show wc.heap[p6]? = some (.cells #[.bool false] 4 (0, 0)) by rw [hwc, hp6, ← hzb]; exact heap_alloc_new wb _)
  have HPW := Aside0.mk (show w.heap.size ≤ p4 ∧ p4 < p5 ∧ p5 < p6 by omega)
  clear hp4 hp5 hp6 hwa hwb hwc hza hzb hba hbb
  have HB0 := Aside0.mk (pw_cell_below (below_drew1 HB.out) hb0)
  have HB1 := Aside0.mk (pw_cell_below (below_drew1 HB.out) hb1)
  have HB3 := Aside0.mk (pw_cell_below (below_drew1 HB.out) hb3)
  clear hb0 hb1 hb3
  have c0 := HB0.out
  have c1 := HB1.out
  have c3 := HB3.out
  have HD := Aside0.mk (below_drew1 HB.out)
  refine start_ (n := 37) (S := fun w' => w'.cell? ad = some (.int .u8 74) ∧ w'.cell? ⟨ad.block, ad.off + 1, none⟩ = some (.int .u8 82) ∧ w'.cell? ⟨ad.block, ad.off + 3, none⟩ = some (.int .u8 0)) (ds := []) bq83 (by kernel_rfl) rfl rfl ⟨c0, c1, c3⟩ (fun hHeld => ?_)
  refine pure_ (i := 0) (N := some 11) (v := ?_) (a' := ?_) bq84 rfl rfl (by kernel_rfl) (hq71 (by decide)) (Or.inl ⟨by rfl, ?_⟩) ?_ ?_
  rotate_left
  · intro w'; go_simp; with_reducible rfl
  rotate_left
  · simp only [sxx]; rfl
  refine pure_ (i := 1) (N := some 12) (v := ?_) (a' := ?_) bq85 rfl rfl (by kernel_rfl) (hq71 (by decide)) (Or.inl ⟨by rfl, ?_⟩) ?_ ?_
  rotate_left
  · intro w'; go_simp; with_reducible rfl
  rotate_left
  · simp only [sxx]; rfl
  refine pure_ (i := 2) (N := some 13) (v := ?_) (a' := ?_) bq86 rfl rfl (by kernel_rfl) (hq71 (by decide)) (Or.inl ⟨by rfl, ?_⟩) ?_ ?_
  rotate_left
  · intro w'; go_simp; with_reducible rfl
  rotate_left
  · simp only [sxx]; rfl
  refine pure_ (i := 3) (N := some 14) (v := ?_) (a' := ?_) bq87 rfl rfl (by kernel_rfl) (hq71 (by decide)) (Or.inl ⟨by rfl, ?_⟩) ?_ ?_
  rotate_left
  · intro w'; go_simp; with_reducible rfl
  rotate_left
  · simp only [sxx]; rfl
  refine pure_ (i := 4) (N := some 15) (v := ?_) (a' := ?_) bq88 rfl rfl (by kernel_rfl) (hq71 (by decide)) (Or.inl ⟨by rfl, ?_⟩) ?_ ?_
  rotate_left
  · intro w'; go_simp; with_reducible rfl
  rotate_left
  · simp only [sxx]; rfl
  refine pure_ (i := 5) (N := some 16) (v := ?_) (a' := ?_) bq89 rfl rfl (by kernel_rfl) (hq71 (by decide)) (Or.inl ⟨by rfl, ?_⟩) ?_ ?_
  rotate_left
  · intro w'; go_simp; with_reducible rfl
  rotate_left
  · simp only [sxx]; rfl
  refine take_ (i := 6) (N := some 17) (v := ?_) (a' := ?_) bq90 rfl rfl (by kernel_rfl) (hq71 (by decide)) (Or.inl ⟨by rfl, ?_⟩) hHeld ?_ ?_
  rotate_left
  · rintro w' ⟨s0, s1, s2⟩
    go_simp; with_reducible rfl
  rotate_left
  · simp only [sxx]; rfl
  refine pure_ (i := 7) (N := some 18) (v := ?_) (a' := ?_) bq91 rfl rfl (by kernel_rfl) (hq71 (by decide)) (Or.inl ⟨by rfl, ?_⟩) ?_ ?_
  rotate_left
  · intro w'; go_simp; with_reducible rfl
  rotate_left
  · simp only [sxx]; rfl
  refine pure_ (i := 8) (N := some 19) (v := ?_) (a' := ?_) bq92 rfl rfl (by kernel_rfl) (hq71 (by decide)) (Or.inl ⟨by rfl, ?_⟩) ?_ ?_
  rotate_left
  · intro w'; go_simp; with_reducible rfl
  rotate_left
  · simp only [sxx]; rfl
  refine pure_ (i := 9) (N := some 20) (v := ?_) (a' := ?_) bq93 rfl rfl (by kernel_rfl) (hq71 (by decide)) (Or.inl ⟨by rfl, ?_⟩) ?_ ?_
  rotate_left
  · intro w'; go_simp; with_reducible rfl
  rotate_left
  · simp only [sxx]; rfl
  refine pure_ (i := 10) (N := some 21) (v := ?_) (a' := ?_) bq94 rfl rfl (by kernel_rfl) (hq71 (by decide)) (Or.inl ⟨by rfl, ?_⟩) ?_ ?_
  rotate_left
  · intro w'; go_simp; with_reducible rfl
  rotate_left
  · simp only [sxx]; rfl
  refine pure_ (i := 11) (N := some 22) (v := ?_) (a' := ?_) bq95 rfl rfl (by kernel_rfl) (hq71 (by decide)) (Or.inl ⟨by rfl, ?_⟩) ?_ ?_
  rotate_left
  · intro w'; go_simp; with_reducible rfl
  rotate_left
  · simp only [sxx]; rfl
  refine take_ (i := 12) (N := some 23) (v := ?_) (a' := ?_) bq96 rfl rfl (by kernel_rfl) (hq71 (by decide)) (Or.inl ⟨by rfl, ?_⟩) hHeld ?_ ?_
  rotate_left
  · rintro w' ⟨s0, s1, s2⟩
    go_simp; with_reducible rfl
  rotate_left
  · simp only [sxx]; rfl
  refine pure_ (i := 13) (N := some 24) (v := ?_) (a' := ?_) bq97 rfl rfl (by kernel_rfl) (hq71 (by decide)) (Or.inl ⟨by rfl, ?_⟩) ?_ ?_
  rotate_left
  · intro w'; go_simp; with_reducible rfl
  rotate_left
  · simp only [sxx]; rfl
  refine pure_ (i := 14) (N := some 25) (v := ?_) (a' := ?_) bq98 rfl rfl (by kernel_rfl) (hq71 (by decide)) (Or.inl ⟨by rfl, ?_⟩) ?_ ?_
  rotate_left
  · intro w'; go_simp; with_reducible rfl
  rotate_left
  · simp only [sxx]; rfl
  refine pure_ (i := 15) (N := some 26) (v := ?_) (a' := ?_) bq99 rfl rfl (by kernel_rfl) (hq71 (by decide)) (Or.inl ⟨by rfl, ?_⟩) ?_ ?_
  rotate_left
  · intro w'; go_simp; with_reducible rfl
  rotate_left
  · simp only [sxx]; rfl
  refine pure_ (i := 16) (N := some 27) (v := ?_) (a' := ?_) bq100 rfl rfl (by kernel_rfl) (hq71 (by decide)) (Or.inl ⟨by rfl, ?_⟩) ?_ ?_
  rotate_left
  · intro w'; go_simp; with_reducible rfl
  rotate_left
  · simp only [sxx]; rfl
  refine pure_ (i := 17) (N := some 28) (v := ?_) (a' := ?_) bq101 rfl rfl (by kernel_rfl) (hq71 (by decide)) (Or.inl ⟨by rfl, ?_⟩) ?_ ?_
  rotate_left
  · intro w'; go_simp; with_reducible rfl
  rotate_left
  · simp only [sxx]; rfl
  refine take_ (i := 18) (N := some 29) (v := ?_) (a' := ?_) bq102 rfl rfl (by kernel_rfl) (hq71 (by decide)) (Or.inl ⟨by rfl, ?_⟩) hHeld ?_ ?_
  rotate_left
  · rintro w' ⟨s0, s1, s2⟩
    go_simp; with_reducible rfl
  rotate_left
  · simp only [sxx]; rfl
  refine pure_ (i := 19) (N := some 30) (v := ?_) (a' := ?_) bq103 rfl rfl (by kernel_rfl) (hq71 (by decide)) (Or.inl ⟨by rfl, ?_⟩) ?_ ?_
  rotate_left
  · intro w'; go_simp; with_reducible rfl
  rotate_left
  · simp only [sxx]; rfl
  refine pure_ (i := 20) (N := some 31) (v := ?_) (a' := ?_) bq104 rfl rfl (by kernel_rfl) (hq71 (by decide)) (Or.inl ⟨by rfl, ?_⟩) ?_ ?_
  rotate_left
  · intro w'; go_simp; with_reducible rfl
  rotate_left
  · simp only [sxx]; rfl
  refine pure_ (i := 21) (N := some 32) (v := ?_) (a' := ?_) bq105 rfl rfl (by kernel_rfl) (hq71 (by decide)) (Or.inl ⟨by rfl, ?_⟩) ?_ ?_
  rotate_left
  · intro w'; go_simp; with_reducible rfl
  rotate_left
  · simp only [sxx]; rfl
  refine pure_ (i := 22) (N := some 33) (v := ?_) (a' := ?_) bq106 rfl rfl (by kernel_rfl) (hq71 (by decide)) (Or.inl ⟨by rfl, ?_⟩) ?_ ?_
  rotate_left
  · intro w'; go_simp; with_reducible rfl
  rotate_left
  · simp only [sxx]; rfl
  refine pure_ (i := 23) (N := some 34) (v := ?_) (a' := ?_) bq107 rfl rfl (by kernel_rfl) (hq71 (by decide)) (Or.inl ⟨by rfl, ?_⟩) ?_ ?_
  rotate_left
  · intro w'; go_simp; with_reducible rfl
  rotate_left
  · simp only [sxx]; rfl
  refine pure_ (i := 25) (N := some 36) (v := ?_) (a' := ?_) bq108 rfl rfl (by kernel_rfl) (hq71 (by decide)) (Or.inl ⟨by rfl, ?_⟩) ?_ ?_
  rotate_left
  · intro w'; go_simp; with_reducible rfl
  rotate_left
  · simp only [sxx]; rfl
  refine one_ (i := 24) (N := some 35) bq109 rfl rfl (by kernel_rfl) (by decide) (fun K hK => ?_)
  refine goes_ Try.func83 (by kernel_rfl) rfl #[.slice A4 (n - 4) (c - 4)] (by rfl) rfl rfl (by simp only [mxx]; rfl) ?_
  with_reducible refine (four_N A4 (n - 4) (c - 4) (l.drop 4) sq _ (by rw [List.length_drop, HN.out]) (Nat.sub_le_sub_right HCC.out 4) (Kd.C_below HC4.out HD.out) H4.out).mono ?_
  rintro e u1 ⟨rfl, hb⟩
  refine ⟨_, rfl, ?_⟩
  have HU1 := Aside0.mk hb
  have HV1 := Aside0.mk (below_step HD.out hb)
  clear hb
  refine hK.out _ _ ⟨pw_cell_below HU1.out HB0.out, pw_cell_below HU1.out HB1.out, pw_cell_below HU1.out HB3.out⟩ (fun hHeld => ?_)
  clear hK K
  refine norm_ (a' := ?_) ?_ ?_
  rotate_left
  · show Act.put _ (some 35) _ = _
    simp only [sxx]; rfl
  refine pure_ (i := 26) (N := some 37) (v := ?_) (a' := ?_) bq110 rfl rfl (by kernel_rfl) (hq71 (by decide)) (Or.inl ⟨by rfl, ?_⟩) ?_ ?_
  rotate_left
  · intro w'; go_simp; with_reducible rfl
  rotate_left
  · simp only [sxx]; rfl
  refine pure_ (i := 27) (N := some 38) (v := ?_) (a' := ?_) bq111 rfl rfl (by kernel_rfl) (hq71 (by decide)) (Or.inl ⟨by rfl, ?_⟩) ?_ ?_
  rotate_left
  · intro w'; go_simp; with_reducible rfl
  rotate_left
  · simp only [sxx]; rfl
  refine pure_ (i := 28) (N := some 39) (v := ?_) (a' := ?_) bq112 rfl rfl (by kernel_rfl) (hq71 (by decide)) (Or.inl ⟨by rfl, ?_⟩) ?_ ?_
  rotate_left
  · intro w'; go_simp; with_reducible rfl
  rotate_left
  · simp only [sxx]; rfl
  refine pure_ (i := 29) (N := some 40) (v := ?_) (a' := ?_) bq113 rfl rfl (by kernel_rfl) (hq71 (by decide)) (Or.inl ⟨by rfl, ?_⟩) ?_ ?_
  rotate_left
  · intro w'; go_simp; with_reducible rfl
  rotate_left
  · simp only [sxx]; rfl
  refine pure_ (i := 30) (N := some 41) (v := ?_) (a' := ?_) bq114 rfl rfl (by kernel_rfl) (hq71 (by decide)) (Or.inl ⟨by rfl, ?_⟩) ?_ ?_
  rotate_left
  · intro w'; go_simp; with_reducible rfl
  rotate_left
  · simp only [sxx]; rfl
  refine pure_ (i := 32) (N := some 43) (v := ?_) (a' := ?_) bq115 rfl rfl (by kernel_rfl) (hq71 (by decide)) (Or.inl ⟨by rfl, ?_⟩) ?_ ?_
  rotate_left
  · intro w'; go_simp; with_reducible rfl
  rotate_left
  · simp only [sxx]; rfl
  refine pure_ (i := 33) (N := some 44) (v := ?_) (a' := ?_) bq116 rfl rfl (by kernel_rfl) (hq71 (by decide)) (Or.inl ⟨by rfl, ?_⟩) ?_ ?_
  rotate_left
  · intro w'; go_simp; with_reducible rfl
  rotate_left
  · simp only [sxx]; rfl
  refine one_ (i := 31) (N := some 42) bq117 rfl rfl (by kernel_rfl) (by decide) (fun K hK => ?_)
  refine goes_ Try.func83 (by kernel_rfl) rfl #[.slice A12 (n - 12) (c - 12)] (by rfl) rfl rfl (by simp only [mxx]; rfl) ?_
  with_reducible refine (four_N A12 (n - 12) (c - 12) (l.drop 12) _ _ (by rw [List.length_drop, HN.out]) (Nat.sub_le_sub_right HCC.out 12) (Kd.C_below HC12.out HV1.out) H12.out).mono ?_
  rintro e u2 ⟨rfl, hb⟩
  refine ⟨_, rfl, ?_⟩
  have HU2 := Aside0.mk (below_step HU1.out hb)
  have HV2 := Aside0.mk (below_step HV1.out hb)
  clear hb
  refine hK.out _ _ ⟨pw_cell_below HU2.out HB0.out, pw_cell_below HU2.out HB1.out, pw_cell_below HU2.out HB3.out⟩ (fun hHeld => ?_)
  clear hK K
  refine norm_ (a' := ?_) ?_ ?_
  rotate_left
  · show Act.put _ (some 42) _ = _
    simp only [sxx]; rfl
  refine one_ (i := 34) (N := some 45) bq118 rfl rfl (by kernel_rfl) (by decide) (fun K hK => ?_)
  refine goes_ Try.func33 (by kernel_rfl) rfl #[.slice (some ad) 12 c] (by rfl) rfl rfl (by simp only [mxx]; rfl) ?_
  with_reducible refine (sum_N (some ad) 12 c (l.take 12) _ (by rw [List.length_take, HN.out]; have := H20.out; omega) (by have := H20.out; have := HCC.out; omega) (Kd.C_below HCT.out HV2.out) (bytesOk_take HOK.out 12)).mono ?_
  rintro e u3 ⟨rfl, hb⟩
  refine ⟨_, rfl, ?_⟩
  have HU3 := Aside0.mk (below_step HU2.out hb)
  have HV3 := Aside0.mk (below_step HV2.out hb)
  clear hb
  refine hK.out _ _ ⟨pw_cell_below HU3.out HB0.out, pw_cell_below HU3.out HB1.out, pw_cell_below HU3.out HB3.out⟩ (fun hHeld => ?_)
  clear hK K
  refine norm_ (a' := ?_) ?_ ?_
  rotate_left
  · show Act.put _ (some 45) _ = _
    simp only [sxx]; rfl
  refine pure_ (i := 35) (N := some 46) (v := ?_) (a' := ?_) bq119 rfl rfl (by kernel_rfl) (hq71 (by decide)) (Or.inl ⟨by rfl, ?_⟩) ?_ ?_
  rotate_left
  · intro w'; go_simp; with_reducible rfl
  rotate_left
  · simp only [sxx]; rfl
  refine pure_ (i := 36) (N := some 47) (v := ?_) (a' := ?_) bq120 rfl rfl (by kernel_rfl) (hq71 (by decide)) (Or.inl ⟨by rfl, ?_⟩) ?_ ?_
  rotate_left
  · intro w'; go_simp; with_reducible rfl
  rotate_left
  · simp only [sxx]; rfl
  refine done_ (by kernel_rfl) ?_
  obtain ⟨A16, hc16, hC16⟩ := cutf8 (A := some ad) (n := n) (c := c) (xs := l) (16 + m) (by have := H20.out; omega) HCC.out
  obtain ⟨ht16, hCt16⟩ := cutt8 (A := some ad) (n := n) (c := c) (xs := l) (16 + m) (by have := H20.out; omega) HCC.out
  have ecast : (((16 + m : Nat) : Int)) = 16 + (m : Int) := by omega
  have HC16 := Aside0.mk (hC16 w HC.out)
  have HCT16 := Aside0.mk (hCt16 w HC.out)
  replace hc16 : ∀ (W : World), (Instr.slice 29 (.slice (some ad) n c) (some (.int .i64 (16 + (m : Int)))) none none).run Try.prog W = .ok (.slice A16 (n - (16 + m)) (c - (16 + m))) W := fun W => by have := hc16 W; rwa [ecast] at this
  replace ht16 : ∀ (W : World), (Instr.slice 29 (.slice (some ad) n c) none (some (.int .i64 (16 + (m : Int)))) none).run Try.prog W = .ok (.slice (some ad) (16 + m) c) W := fun W => by have := ht16 W; rwa [ecast] at this
  clear ecast hC16 hCt16 hc4 hc12 ht12 hd20 hd21 c0 c1 c3
  have HP4 := Aside0.mk ((HU3.out.block p4 (blk_lt HP4.out)).trans HP4.out)
  have HP5 := Aside0.mk ((HU3.out.block p5 (blk_lt HP5.out)).trans HP5.out)
  have HP6 := Aside0.mk ((HU3.out.block p6 (blk_lt HP6.out)).trans HP6.out)
  clear HU1 HU2 HU3 HV1 HV2 HB HB0 HB1 HB3 hHeld HD
  go_wp2_with fail
  refine (four_N A8 (n - 8) (c - 8) (l.drop 8) (m : Int) _ (by rw [List.length_drop, HN.out]) (Nat.sub_le_sub_right HCC.out 8) (Kd.C_below HC8.out HV3.out) H8.out).mono ?_
  rintro e4 u4 ⟨rfl, hb⟩
  have HV4 := Aside0.mk (below_step HV3.out hb)
  have HP4 := Aside0.mk ((hb.block p4 (blk_lt HP4.out)).trans HP4.out)
  have HP5 := Aside0.mk ((hb.block p5 (blk_lt HP5.out)).trans HP5.out)
  have HP6 := Aside0.mk ((hb.block p6 (blk_lt HP6.out)).trans HP6.out)
  clear hb HV3 hc8
  have hmo : (n : Int) ≤ 1000000000000 := by have := HM.out; omega
  have hm0 : (m : Int) ≤ 1000000000000 := by have := HM.out; have := H20.out; omega
  have hq5 : decide ((n : Int) - 20 < (m : Int)) = false := decide_eq_false (by have := H20.out; omega)
  go_wp2_with fail
  have HD := Aside0.mk (below_drew1 HV4.out)
  have hw20 := wr_sub20 (n := n) (by have := H20.out; omega) HM.out
  have hw16 := wr_add16 (n := m) (by have := H20.out; have := HM.out; omega)
  refine start_ (n := 18) (S := fun w' => True) (ds := []) bq121 (by kernel_rfl) rfl rfl trivial (fun hHeld => ?_)
  refine pure_ (i := 0) (N := some 52) (v := ?_) (a' := ?_) bq122 rfl rfl (by kernel_rfl) (hq71 (by decide)) (Or.inl ⟨by rfl, ?_⟩) ?_ ?_
  rotate_left
  · intro w'; go_simp; with_reducible rfl
  rotate_left
  · simp only [sxx]; rfl
  refine pure_ (i := 1) (N := some 53) (v := ?_) (a' := ?_) bq123 rfl rfl (by kernel_rfl) (hq71 (by decide)) (Or.inl ⟨by rfl, ?_⟩) ?_ ?_
  rotate_left
  · intro w'; go_simp; with_reducible rfl
  rotate_left
  · simp only [sxx]; rfl
  refine pure_ (i := 2) (N := some 54) (v := ?_) (a' := ?_) bq124 rfl rfl (by kernel_rfl) (hq71 (by decide)) (Or.inl ⟨by rfl, ?_⟩) ?_ ?_
  rotate_left
  · intro w'; go_simp; with_reducible rfl
  rotate_left
  · simp only [sxx]; rfl
  refine pure_ (i := 3) (N := some 55) (v := ?_) (a' := ?_) bq125 rfl rfl (by kernel_rfl) (hq71 (by decide)) (Or.inl ⟨by rfl, ?_⟩) ?_ ?_
  rotate_left
  · intro w'; go_simp; with_reducible rfl
  rotate_left
  · simp only [sxx]; rfl
  refine pure_ (i := 4) (N := some 56) (v := ?_) (a' := ?_) bq126 rfl rfl (by kernel_rfl) (hq71 (by decide)) (Or.inl ⟨by rfl, ?_⟩) ?_ ?_
  rotate_left
  · intro w'; go_simp; with_reducible rfl
  rotate_left
  · simp only [sxx]; rfl
  refine pure_ (i := 5) (N := some 57) (v := ?_) (a' := ?_) bq127 rfl rfl (by kernel_rfl) (hq71 (by decide)) (Or.inl ⟨by rfl, ?_⟩) ?_ ?_
  rotate_left
  · intro w'; go_simp; with_reducible rfl
  rotate_left
  · simp only [sxx]; rfl
  refine pure_ (i := 6) (N := some 58) (v := ?_) (a' := ?_) bq128 rfl rfl (by kernel_rfl) (hq71 (by decide)) (Or.inl ⟨by rfl, ?_⟩) ?_ ?_
  rotate_left
  · intro w'; go_simp; with_reducible rfl
  rotate_left
  · simp only [sxx]; rfl
  refine pure_ (i := 7) (N := some 59) (v := ?_) (a' := ?_) bq129 rfl rfl (by kernel_rfl) (hq71 (by decide)) (Or.inl ⟨by rfl, ?_⟩) ?_ ?_
  rotate_left
  · intro w'; go_simp; with_reducible rfl
  rotate_left
  · simp only [sxx]; rfl
  refine pure_ (i := 8) (N := some 60) (v := ?_) (a' := ?_) bq130 rfl rfl (by kernel_rfl) (hq71 (by decide)) (Or.inl ⟨by rfl, ?_⟩) ?_ ?_
  rotate_left
  · intro w'; go_simp; with_reducible rfl
  rotate_left
  · simp only [sxx]; rfl
  refine pure_ (i := 9) (N := some 61) (v := ?_) (a' := ?_) bq131 rfl rfl (by kernel_rfl) (hq71 (by decide)) (Or.inl ⟨by rfl, ?_⟩) ?_ ?_
  rotate_left
  · intro w'; go_simp; with_reducible rfl
  rotate_left
  · simp only [sxx]; rfl
  refine pure_ (i := 11) (N := some 63) (v := ?_) (a' := ?_) bq132 rfl rfl (by kernel_rfl) (hq71 (by decide)) (Or.inl ⟨by rfl, ?_⟩) ?_ ?_
  rotate_left
  · intro w'; go_simp; with_reducible rfl
  rotate_left
  · simp only [sxx]; rfl
  refine pure_ (i := 12) (N := some 64) (v := ?_) (a' := ?_) bq133 rfl rfl (by kernel_rfl) (hq71 (by decide)) (Or.inl ⟨by rfl, ?_⟩) ?_ ?_
  rotate_left
  · intro w'; go_simp; with_reducible rfl
  rotate_left
  · simp only [sxx]; rfl
  refine pure_ (i := 13) (N := some 65) (v := ?_) (a' := ?_) bq134 rfl rfl (by kernel_rfl) (hq71 (by decide)) (Or.inl ⟨by rfl, ?_⟩) ?_ ?_
  rotate_left
  · intro w'; go_simp; with_reducible rfl
  rotate_left
  · simp only [sxx]; rfl
  refine pure_ (i := 14) (N := some 66) (v := ?_) (a' := ?_) bq135 rfl rfl (by kernel_rfl) (hq71 (by decide)) (Or.inl ⟨by rfl, ?_⟩) ?_ ?_
  rotate_left
  · intro w'; go_simp; with_reducible rfl
  rotate_left
  · simp only [sxx]; rfl
  refine one_ (i := 10) (N := some 62) bq136 rfl rfl (by kernel_rfl) (by decide) (fun K hK => ?_)
  refine goes_ Try.func83 (by kernel_rfl) rfl #[.slice A16 (n - (16 + m)) (c - (16 + m))] (by rfl) rfl rfl (by simp only [mxx]; rfl) ?_
  with_reducible refine (four_N A16 (n - (16 + m)) (c - (16 + m)) (l.drop (16 + m)) hs _ (by rw [List.length_drop, HN.out]) (Nat.sub_le_sub_right HCC.out _) (Kd.C_below HC16.out HD.out) H16.out).mono ?_
  rintro e u5 ⟨rfl, hb⟩
  refine ⟨_, rfl, ?_⟩
  have HU5 := Aside0.mk hb
  have HV5 := Aside0.mk (below_step HD.out hb)
  clear hb
  refine hK.out _ _ trivial (fun hHeld => ?_)
  clear hK K
  refine norm_ (a' := ?_) ?_ ?_
  rotate_left
  · show Act.put _ (some 62) _ = _
    simp only [sxx]; rfl
  refine one_ (i := 15) (N := some 67) bq137 rfl rfl (by kernel_rfl) (by decide) (fun K hK => ?_)
  refine goes_ Try.func33 (by kernel_rfl) rfl #[.slice (some ad) (16 + m) c] (by rfl) rfl rfl (by simp only [mxx]; rfl) ?_
  with_reducible refine (sum_N (some ad) (16 + m) c (l.take (16 + m)) _ (by rw [List.length_take, HN.out]; have := H20.out; omega) (by have := H20.out; have := HCC.out; omega) (Kd.C_below HCT16.out HV5.out) (bytesOk_take HOK.out _)).mono ?_
  rintro e u6 ⟨rfl, hb⟩
  rw [← HSU.out]
  refine ⟨_, rfl, ?_⟩
  have HU6 := Aside0.mk (below_step HU5.out hb)
  have HV6 := Aside0.mk (below_step HV5.out hb)
  clear hb
  refine hK.out _ _ trivial (fun hHeld => ?_)
  clear hK K
  refine norm_ (a' := ?_) ?_ ?_
  rotate_left
  · show Act.put _ (some 67) _ = _
    simp only [sxx]; rfl
  refine pure_ (i := 16) (N := some 68) (v := ?_) (a' := ?_) bq138 rfl rfl (by kernel_rfl) (hq71 (by decide)) (Or.inl ⟨by rfl, ?_⟩) ?_ ?_
  rotate_left
  · intro w'; go_simp; with_reducible rfl
  rotate_left
  · simp only [sxx]; rfl
  refine pure_ (i := 17) (N := some 69) (v := ?_) (a' := ?_) bq139 rfl rfl (by kernel_rfl) (hq71 (by decide)) (Or.inl ⟨by rfl, ?_⟩) ?_ ?_
  rotate_left
  · intro w'; go_simp; with_reducible rfl
  rotate_left
  · simp only [sxx]; rfl
  refine done_ (by kernel_rfl) ?_
  have HV := HV6
  have HP4 := Aside0.mk ((HU6.out.block p4 (blk_lt HP4.out)).trans HP4.out)
  have HP5 := Aside0.mk ((HU6.out.block p5 (blk_lt HP5.out)).trans HP5.out)
  have HP6 := Aside0.mk ((HU6.out.block p6 (blk_lt HP6.out)).trans HP6.out)
  clear HU5 HU6 HV5 HD hHeld hc16 ht16 hq5 HV4 hb1_ hb2_ hb3_ hmo hm0 hw20 hw16
  go_wp2_with (with_reducible refine stop_store rfl ?_)
  refine store_blk rfl rfl 28 _ _ rfl (q := p4) (i := 0) (cur' := zeroCells13) zeroCells13.toList rfl rfl rfl (by kernel_rfl) (by intro u hu; simp at hu; rcases hu with rfl | rfl | rfl | rfl <;> rfl) HP4.out (by simp) rfl ?_
  intro w11 hpb hgb
  have HPB := Aside0.mk hpb
  have HVB := Aside0.mk (HV.out.grown hgb HV.out.size (fun k e => by cases e; exact HPW.out.1))
  have HP5 := Aside0.mk ((hgb.block p5 (blk_lt HP5.out) (fun e => by have := HPW.out; have := Option.some.inj e; omega)).trans HP5.out)
  have HP6 := Aside0.mk ((hgb.block p6 (blk_lt HP6.out) (fun e => by have := HPW.out; have := Option.some.inj e; omega)).trans HP6.out)
  clear hpb hgb HV
  have n5 := (blk_cell HP5.out 0).trans rfl
  have f5 := blk_frozen HP5.out 0
  have n6 := (blk_cell HP6.out 0).trans rfl
  have f6 := blk_frozen HP6.out 0
  have HN56 := Aside0.mk (show p5 ≠ p6 by have := HPW.out; omega)
  have hne := HN56.out
  go_wp2_with fail
  clear hne n5 n6 f5 f6
  obtain ⟨wy, hwy⟩ : ∃ wy, wy = w11.setCell ⟨p5, 0, none⟩ (.int .i64 0) := ⟨_, rfl⟩
  obtain ⟨wz, hwz⟩ : ∃ wz, wz = wy.setCell ⟨p6, 0, none⟩ (.bool false) := ⟨_, rfl⟩
  rw [← hwy, ← hwz]
  have k4 : wz.heap[p4]? = some (.cells zeroCells13 28 (0, 0)) := by
    have := HPW.out
    rw [hwz, Below.heap_setCell wy _ _ p4 (by simp only; omega), hwy, Below.heap_setCell w11 _ _ p4 (by simp only; omega)]
    exact HPB.out
  have k6 : wy.heap[p6]? = some (.cells #[.bool false] 4 (0, 0)) := by
    have := HPW.out
    rw [hwy, Below.heap_setCell w11 _ _ p6 (by simp only; omega)]
    exact HP6.out
  have c5 : wz.cell? ⟨p5, 0, none⟩ = some (.int .i64 0) := by
    have hy : wy.cell? ⟨p5, 0, none⟩ = some (.int .i64 0) := by rw [hwy]; exact World.cell?_setCell_same' _ _ _ (by rw [blk_cell HP5.out 0]; rfl)
    have := HPW.out
    have he : wz.heap[p5]? = wy.heap[p5]? := by rw [hwz, Below.heap_setCell wy _ _ p5 (by simp only; omega)]
    simp only [World.cell?, he] at hy ⊢
    exact hy
  have c6 : wz.cell? ⟨p6, 0, none⟩ = some (.bool false) := by rw [hwz]; exact World.cell?_setCell_same' _ _ _ (by rw [blk_cell k6 0]; rfl)
  have hBZ : Below w.heap.size w wz := by
    rw [hwz, hwy]
    exact (HVB.out.setCell (p := ⟨p5, 0, none⟩) (by have := HPW.out; simp only; omega) _).setCell (p := ⟨p6, 0, none⟩) (by have := HPW.out; simp only; omega) _
  exact door71 rfl (results71_row _ _ p4 p5 p6 _ _ _ rfl rfl rfl k4 rfl c5 c6) ⟨rfl, hBZ⟩
end Go.Proofs.Ytdbniihjkiecbaa.PW
