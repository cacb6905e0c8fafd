/- Words, contracts and walks of the law JournalGoes, in one text. -/
import Derived.Test.YtdbniihjkiecbaaX0
import Derived.Test.YtdbniihjkiecbaaPWx18
import Derived.Test.YtdbniihjkiecbaaPWx19
import Derived.RangeFuncNested
import Derived.RangeFuncBound
import Derived.RangeFuncCalls
import Derived.RangeFuncLeaves
import Derived.WalkKit
import Derived.OwnWalkIn
import Derived.TacticsInMore
import Derived.LoopNIn
import Derived.LoopIn
import Derived.Outline
import Derived.Test.YtdbniihjkiecbaaPWx12
import Derived.Test.YtdbniihjkiecbaaPWx17
import Derived.Test.YtdbniihjkiecbaaPWx0
import Derived.Recover
import Derived.Test.YtdbniihjkiecbaaPWx14
import Derived.Test.YtdbniihjkiecbaaPWx16
import Derived.Laws.Rows
namespace Go.Proofs.Ytdbniihjkiecbaa.PW
open Go.RowKit Go.Proofs.YtdbniihjkiecbaaW.PrintWords Go.Proofs.YtdbniihjkiecbaaW.PrintLast Go.Proofs.YtdbniihjkiecbaaW.PrintMore
set_option linter.unusedVariables false
set_option linter.unusedSimpArgs false
def rg12.T8 : Bool × List (List Nat × List Nat) := (true, [([], []), ([], []), ([], []), ([], []), ([3], [3]), ([4], [4]), ([0, 0], [0]), ([6, 0], [6]), ([1, 0, 1, 6, 7], [1]), ([8, 7, 0, 1, 6, 7], [8]), ([2, 0, 1, 2, 3, 4, 5, 6, 7, 8, 9], [2]), ([10, 5, 9, 0, 1, 2, 3, 4, 5, 6, 7, 8, 9], [5, 10])])
def rg12.B8 : List Nat := [0, 0, 0, 0, 8, 24, 1, 65, 195, 451, 1023, 2047]
theorem rg12.tab8 : rtab .any (opsOf Try.f12 8) = rg12.T8 := by kernel_rfl
theorem rg12.bits8 : waitsOk rg12.T8.2 rg12.B8 = true := by kernel_rfl

theorem zeros_split (a b : Nat) : List.replicate (a + b) (0 : Int) = List.replicate a 0 ++ List.replicate b 0 := by rw [List.replicate_append_replicate]
theorem set_other {W : World} {g i q j : Nat} {u val : Value} (hne : q ≠ g) (h : W.cell? ⟨q, j, none⟩ = some val) : (W.setCell ⟨g, i, none⟩ u).cell? ⟨q, j, none⟩ = some val := by
  rw [World.cell?_of_block (Below.heap_setCell W _ _ q hne)]
  exact h
theorem drew_cell {W : World} {q : Addr} {val : Value} (h : W.cell? q = some val) : W.drew.cell? q = some val := by rw [World.cell?_drew]; exact h
theorem R8_set {W : World} {base g n c i : Nat} {l : List Int} (h : R8 W base (.slice (some ⟨g, 0, none⟩) n c) l) (hi : i < n) (x : Int) : R8 (W.setCell ⟨g, i, none⟩ (.int .u8 x)) base (.slice (some ⟨g, 0, none⟩) n c) (l.set i x) := by
  obtain ⟨g', e, _, _, _, hs⟩ := R8_stored h i hi
  cases e
  exact hs x
set_option maxHeartbeats 16000000 in
set_option maxRecDepth 100000 in
theorem encode_C (sq kd s v k se rq : Int) (A : Option Addr) (c n : Nat) (l : List S40) (vn vp vb st of : Int) (x : ByteArray) (w : World) (hn : l.length = n) (hC : Kd.C k40 w A n l) (hc : n ≤ c) (r1 : List Int) (r2 : Int) (hr : recEnc sq kd s v k se rq l vn vp vb st of x = (r1, r2)) :
    Calls Try.prog 12 #[.int .i64 sq, .agg #[.int .i64 kd, .int .i64 s, .int .i64 v, .int .i64 k, .int .i64 se, .int .i64 rq, .slice A n c, .int .i64 vn, .int .i64 vp, .int .i64 vb, .int .i64 st, .int .i64 of, .string x]] w fun e w' => ∃ V, e = .returned (.tuple #[V, .int .i64 r2]) ∧ R8 w' w.heap.size V r1 ∧ Below w.heap.size w w' := by
  have hu24 := Try.underlying24
  have hu26 := Try.underlying26
  have hu28 := Try.underlying28
  have HN := Aside0.mk hn
  have HC := Aside0.mk hC
  have HCC := Aside0.mk hc
  have HR := Aside0.mk hr
  clear hn hC hc hr
  obtain ⟨nx, hnx⟩ : ∃ nx, nx = x.size := ⟨_, rfl⟩
  by_cases hbig : (200000 : Int) < (x.size : Int)
  · have d1 : decide ((200000 : Int) < (x.size : Int)) = true := decide_eq_true hbig
    have d2 : decide (200000 < x.size) = true := decide_eq_true (by omega)
    have hr := HR.out
    unfold recEnc at hr
    rw [if_pos hbig] at hr
    obtain ⟨rfl, rfl⟩ := Prod.mk.inj hr
    clear hr HR hbig
    go_enter Try.func12, Try.ntmps12
    go_wp2
    refine bodyPost_ret (results_tmp2 rfl _ _ _) rfl ?_
    exact ⟨_, rfl, Kd.R_nil _ _ _ _ _, below_alloc (Below.refl _ _) _⟩
  have d1 : decide ((200000 : Int) < (x.size : Int)) = false := decide_eq_false hbig
  have d2 : decide (200000 < x.size) = false := decide_eq_false (by omega)
  obtain ⟨bb, hbb⟩ : ∃ bb, recBody kd s v k se rq l vn vp vb st of x = bb := ⟨_, rfl⟩
  obtain ⟨b, may⟩ := bb
  have HOKB := Aside0.mk (show bytesOk b = true by have h := recBody_ok kd s v k se rq l vn vp vb st of x; rw [hbb] at h; exact h)
  have HLB := Aside0.mk (show b.length ≤ 3000000 by have h := recBody_len kd s v k se rq l vn vp vb st of x; rw [hbb] at h; exact h)
  have hr := HR.out
  unfold recEnc at hr
  rw [if_neg hbig, hbb] at hr
  simp only at hr
  have HR2 := Aside0.mk hr
  have HBB := Aside0.mk hbb
  clear hr HR hbb hbig hnx
  go_enter Try.func12, Try.ntmps12
  go_wp2_with fail
  obtain ⟨p, hp⟩ : ∃ p, p = w.heap.size := ⟨_, rfl⟩
  obtain ⟨w1, hw1⟩ : ∃ w1, w1 = w.alloc (.cells #[.int .i64 kd, .int .i64 s, .int .i64 v, .int .i64 k, .int .i64 se, .int .i64 rq, .slice A n c, .int .i64 vn, .int .i64 vp, .int .i64 vb, .int .i64 st, .int .i64 of, .string x] 28) := ⟨_, rfl⟩
  rw [← hw1, ← hp]
  have HA := Aside0.mk (show Below w.heap.size w w1 by rw [hw1]; exact below_alloc (Below.refl _ _) _)
  have HPB := Aside0.mk (show w1.heap[p]? = some (.cells #[.int .i64 kd, .int .i64 s, .int .i64 v, .int .i64 k, .int .i64 se, .int .i64 rq, .slice A n c, .int .i64 vn, .int .i64 vp, .int .i64 vb, .int .i64 st, .int .i64 of, .string x] 28 (0, 0)) by rw [hw1, hp]; exact heap_alloc_new w _)
  clear hp hw1
  refine (body_C kd s v k se rq A c n l vn vp vb st of x w1 HN.out (Kd.C_below HC.out HA.out) HCC.out b may HBB.out).mono ?_
  rintro e2 w2 ⟨V2, rfl, ho, hb⟩
  obtain ⟨B2, m, c2, rfl, hm, hc2⟩ := R8_form ho
  have HB2 := Aside0.mk (below_step HA.out hb)
  have HO2 := Aside0.mk ho
  have HP2 := Aside0.mk ((hb.block p (blk_lt HPB.out)).trans HPB.out)
  have HM := Aside0.mk hm
  have HW1 := Aside0.mk HA.out.size
  clear ho hb hm d1 d2 hc2
  cases may
  · have hr := HR2.out
    simp only [Bool.false_and, Bool.false_eq_true, if_false] at hr
    obtain ⟨rfl, rfl⟩ := Prod.mk.inj hr
    clear hr HR2
    go_wp2
    refine bodyPost_ret (results_tmp2 rfl _ _ _) rfl ?_
    exact ⟨_, rfl, Kd.R_nil _ _ _ _ _, HB2.out⟩
  by_cases hs1 : sq < 1
  · have d3 : decide (sq < 1) = true := decide_eq_true hs1
    have hr := HR2.out
    rw [show seqOk sq = false by unfold seqOk; rw [decide_eq_false (by omega)]; rfl] at hr
    simp only [Bool.and_false, Bool.false_eq_true, if_false] at hr
    obtain ⟨rfl, rfl⟩ := Prod.mk.inj hr
    clear hr HR2 hs1
    go_wp2
    refine bodyPost_ret (results_tmp2 rfl _ _ _) rfl ?_
    exact ⟨_, rfl, Kd.R_nil _ _ _ _ _, HB2.out⟩
  have d3 : decide (sq < 1) = false := decide_eq_false hs1
  by_cases hs2 : 2147483647 < sq
  · have d4 : decide (2147483647 < sq) = true := decide_eq_true hs2
    have hr := HR2.out
    rw [show seqOk sq = false by unfold seqOk; rw [decide_eq_false (show ¬ sq ≤ 2147483647 by omega)]; simp] at hr
    simp only [Bool.and_false, Bool.false_eq_true, if_false] at hr
    obtain ⟨rfl, rfl⟩ := Prod.mk.inj hr
    clear hr HR2 hs1 hs2
    go_wp2
    refine bodyPost_ret (results_tmp2 rfl _ _ _) rfl ?_
    exact ⟨_, rfl, Kd.R_nil _ _ _ _ _, HB2.out⟩
  have d4 : decide (2147483647 < sq) = false := decide_eq_false hs2
  have hr := HR2.out
  rw [show seqOk sq = true by unfold seqOk; rw [decide_eq_true (show 1 ≤ sq by omega), decide_eq_true (show sq ≤ 2147483647 by omega)]; rfl] at hr
  simp only [Bool.and_self, if_true] at hr
  obtain ⟨rfl, rfl⟩ := Prod.mk.inj hr
  have HSQ := Aside0.mk (show 0 ≤ sq ∧ sq < 4294967296 by omega)
  have hml : m ≤ 3000000 := by rw [← HM.out]; exact HLB.out
  clear hr HR2 hs1 hs2
  go_wp2_with (with_reducible refine stop_make rfl ?_)
  refine mkn8 (C := (m : Int) + 20) w2 w2.heap.size rfl rfl _ _ rfl rfl rfl (by omega) (by omega) (Below.refl _ _) (Nat.le_refl _) ?_
  intro v3 w3 ho hb hg hat
  obtain ⟨m20, hm20⟩ : ∃ m20 : Nat, m20 = m + 20 := ⟨_, rfl⟩
  rw [show ((m : Int) + 20).toNat = m20 by omega] at ho
  have hown := R8_own ho
  rw [List.length_replicate] at hown
  obtain ⟨g, c3, cur, rfl, hc3, hgb, hgh, hsz⟩ := own_some hown (by omega)
  have hp3 := (hg.block p (blk_lt HP2.out) (by simp)).trans HP2.out
  have HPG := Aside0.mk (show p ≠ g from fun e => absurd (typed_ne ⟨_, hp3⟩ (e ▸ ⟨_, hgh⟩ : typed w3 5 p)) (by decide))
  have HO3 := Aside0.mk (show R8 w3.drew w2.heap.size (.slice (some ⟨g, 0, none⟩) m20 c3) (List.replicate m20 0) from R8_keep ho (fun _ _ => rfl))
  have HB3 := Aside0.mk (show Below w2.heap.size w2 w3.drew from below_drew1 hb)
  have HGB := Aside0.mk hgb
  have HW3 := Aside0.mk hb.tape
  have HL1 := Aside0.mk (show (((List.replicate m20 (0 : Int)).set 0 74).set 1 82).set 2 (kd % 256) = [74, 82, kd % 256, 0] ++ List.replicate (m + 16) 0 by
    rw [hm20, show m + 20 = 4 + (m + 16) by omega, zeros_split]
    rfl)
  have HC3 := Aside0.mk hc3
  have HM20 := Aside0.mk hm20
  have KP0 := Aside0.mk (show w3.cell? ⟨p, 0, none⟩ = some (.int .i64 kd) from blk_cell hp3 0)
  have kp0 : w3.drew.cell? ⟨p, 0, none⟩ = some (.int .i64 kd) := blk_cell hp3 0
  obtain ⟨u0, hu0⟩ : ∃ u0, w3.cell? ⟨g, 0, none⟩ = some u0 := by obtain ⟨g', e, _, h, _⟩ := R8_stored ho 0 (by rw [hm20]; omega); cases e; exact ⟨_, h⟩
  obtain ⟨u1, hu1⟩ : ∃ u1, w3.cell? ⟨g, 1, none⟩ = some u1 := by obtain ⟨g', e, _, h, _⟩ := R8_stored ho 1 (by rw [hm20]; omega); cases e; exact ⟨_, h⟩
  obtain ⟨u2, hu2⟩ : ∃ u2, w3.cell? ⟨g, 2, none⟩ = some u2 := by obtain ⟨g', e, _, h, _⟩ := R8_stored ho 2 (by rw [hm20]; omega); cases e; exact ⟨_, h⟩
  have f0 := blk_frozen hgh 0
  have f1 := blk_frozen hgh 1
  have f2 := blk_frozen hgh 2
  have i0 : (0 < m20) = True := eq_true (by omega)
  have i1 : ((1 : Int) < (m20 : Int)) = True := eq_true (by omega)
  have i2 : ((2 : Int) < (m20 : Int)) = True := eq_true (by omega)
  have hmm : m20 ≤ 3000020 := by omega
  clear ho hb hg hat hown hp3 hgb hgh hsz hm20 hc3 d3 d4
  go_wp2
  refine start_ (n := 12) (S := fun w' => w'.cell? ⟨p, 0, none⟩ = some (.int .i64 kd)) (ds := [11]) bq70 (by kernel_rfl) rfl rfl (kp0) (fun hHeld => ?_)
  refine with_tabW rg12.tab8 rg12.bits8 (fun HT_ HW_ => ?_)
  refine pure_ (i := 0) (N := some 34) (v := ?_) (a' := ?_) bq71 rfl rfl (any_of HT_.out (by kernel_rfl)) (fun _ _ _ h => h) (Or.inl ⟨by rfl, ?_⟩) ?_ ?_
  rotate_left
  · intro w'; go_simp; with_reducible rfl
  rotate_left
  · simp only [sxx]; rfl
  refine pure_ (i := 1) (N := some 35) (v := ?_) (a' := ?_) bq72 rfl rfl (any_of HT_.out (by kernel_rfl)) (fun _ _ _ h => h) (Or.inl ⟨by rfl, ?_⟩) ?_ ?_
  rotate_left
  · intro w'; go_simp; with_reducible rfl
  rotate_left
  · simp only [sxx]; rfl
  refine pure_ (i := 2) (N := some 36) (v := ?_) (a' := ?_) bq73 rfl rfl (any_of HT_.out (by kernel_rfl)) (fun _ _ _ h => h) (Or.inl ⟨by rfl, ?_⟩) ?_ ?_
  rotate_left
  · intro w'; go_simp; with_reducible rfl
  rotate_left
  · simp only [sxx]; rfl
  refine pure_ (i := 3) (N := some 37) (v := ?_) (a' := ?_) bq74 rfl rfl (any_of HT_.out (by kernel_rfl)) (fun _ _ _ h => h) (Or.inl ⟨by rfl, ?_⟩) ?_ ?_
  rotate_left
  · intro w'; go_simp; with_reducible rfl
  rotate_left
  · simp only [sxx]; rfl
  refine pure_ (i := 6) (N := some 40) (v := ?_) (a' := ?_) bq75 rfl rfl (any_of HT_.out (by kernel_rfl)) (fun _ _ _ h => h) (Or.inl ⟨by rfl, ?_⟩) ?_ ?_
  rotate_left
  · intro w'; go_simp; with_reducible rfl
  rotate_left
  · simp only [sxx]; rfl
  refine take_ (i := 4) (N := some 38) (v := ?_) (a' := ?_) bq76 rfl rfl (take_ofW HT_.out HW_.out (by kernel_rfl)) (fun _ _ _ h => h) (Or.inl ⟨by rfl, ?_⟩) hHeld ?_ ?_
  rotate_left
  · intro w' s0; go_simp; with_reducible rfl
  rotate_left
  · simp only [sxx]; rfl
  refine pure_ (i := 5) (N := some 39) (v := ?_) (a' := ?_) bq77 rfl rfl (any_of HT_.out (by kernel_rfl)) (fun _ _ _ h => h) (Or.inl ⟨by rfl, ?_⟩) ?_ ?_
  rotate_left
  · intro w'; go_simp; with_reducible rfl
  rotate_left
  · simp only [sxx]; rfl
  refine one_ (i := 7) (N := none) bq78 rfl rfl (one_of HT_.out (by kernel_rfl)) (by decide) (fun K hK => ?_)
  refine skip_ (w1 := ?_) (by rfl) rfl ?_ ?_
  rotate_left
  · go_simp; rfl
  refine hK.out _ _ ((by first | exact set_other HPG.out kp0 | exact drew_cell (set_other HPG.out KP0.out) | exact set_other HPG.out KP0.out)) (fun hHeld => ?_)
  clear hK K
  refine pure_ (i := 8) (N := some 41) (v := ?_) (a' := ?_) bq79 rfl rfl (any_of HT_.out (by kernel_rfl)) (fun _ _ _ h => h) (Or.inl ⟨by rfl, ?_⟩) ?_ ?_
  rotate_left
  · intro w'; go_simp; with_reducible rfl
  rotate_left
  · simp only [sxx]; rfl
  refine one_ (i := 9) (N := none) bq80 rfl rfl (one_of HT_.out (by kernel_rfl)) (by decide) (fun K hK => ?_)
  refine skip_ (w1 := ?_) (by rfl) rfl ?_ ?_
  rotate_left
  · go_simp; rfl
  refine hK.out _ _ ((by first | exact set_other HPG.out (set_other HPG.out kp0) | exact drew_cell (set_other HPG.out (set_other HPG.out KP0.out)) | exact set_other HPG.out (set_other HPG.out KP0.out) | exact set_other HPG.out (drew_cell (set_other HPG.out KP0.out)))) (fun hHeld => ?_)
  clear hK K
  refine pure_ (i := 10) (N := some 42) (v := ?_) (a' := ?_) bq81 rfl rfl (any_of HT_.out (by kernel_rfl)) (fun _ _ _ h => h) (Or.inl ⟨by rfl, ?_⟩) ?_ ?_
  rotate_left
  · intro w'; go_simp; with_reducible rfl
  rotate_left
  · simp only [sxx]; rfl
  refine last_ (i := 11) (N := none) bq82 rfl rfl (one_of HT_.out (by kernel_rfl)) (by decide) (fun K hK => ?_)
  refine skip_ (w1 := ?_) (by rfl) rfl ?_ ?_
  rotate_left
  · go_simp; rfl
  refine hK.out _ _ ?_
  clear hK K
  refine done_ (done_of HT_.out (by kernel_rfl)) ?_
  obtain ⟨w8, hw8⟩ : ∃ w8, w8 = (((w3.setCell ⟨g, 0, none⟩ (.int .u8 74)).setCell ⟨g, 1, none⟩ (.int .u8 82)).setCell ⟨g, 2, none⟩ (.int .u8 (kd % 256))).drew := ⟨_, rfl⟩
  rw [show IntKind.u8.wrap kd = kd % 256 from IntKind.wrap_u8 kd]
  rw [← hw8]
  have HO8 := Aside0.mk (show R8 w8 w2.heap.size (.slice (some ⟨g, 0, none⟩) m20 c3) ([74, 82, kd % 256, 0] ++ List.replicate (m + 16) 0) by
    have h3 : R8 w3 w2.heap.size (.slice (some ⟨g, 0, none⟩) m20 c3) (List.replicate m20 0) := R8_keep HO3.out (fun _ _ => rfl)
    have h0 : 2 < m20 := by have := HM20.out; omega
    have h := R8_set (R8_set (R8_set h3 (i := 0) (by omega) 74) (i := 1) (by omega) 82) (i := 2) h0 (kd % 256)
    rw [HL1.out] at h
    rw [hw8]
    exact R8_keep h (fun _ _ => rfl))
  have HB8 := Aside0.mk (show Below w2.heap.size w2 w8 by
    have h3 : Below w2.heap.size w2 w3 := ⟨HB3.out.os, HW3.out, HB3.out.output, HB3.out.size, HB3.out.block⟩
    rw [hw8]
    exact below_drew1 (((h3.setCell HGB.out _).setCell HGB.out _).setCell HGB.out _))
  clear hw8 u0 hu0 u1 hu1 u2 hu2 f0 f1 f2 i0 i1 i2 kp0
  go_wp2_with fail
  refine (put_N (some ⟨g, 0, none⟩) m20 c3 [74, 82, kd % 256, 0] (List.replicate 4 0) (List.replicate (m + 12) 0) _ 4 sq w2 w8 (by rw [show m + 16 = 4 + (m + 12) by omega, zeros_split 4 (m + 12)]) rfl (by rw [List.length_replicate]) HSQ.out.1 HSQ.out.2 (by rw [List.length_replicate]; simp only [List.length_cons, List.length_nil]; omega) HB8.out HO8.out).mono ?_
  rintro e9 w9 ⟨rfl, ho, hb⟩
  have HO9 := Aside0.mk ho
  have HB9 := Aside0.mk hb
  clear ho hb HO8
  go_wp2_with fail
  refine (put_N (some ⟨g, 0, none⟩) m20 c3 ([74, 82, kd % 256, 0] ++ four4 sq) (List.replicate 4 0) (List.replicate (m + 8) 0) _ 8 (m : Int) w2 w9 (by rw [show m + 12 = 4 + (m + 8) by omega, zeros_split 4 (m + 8), List.append_assoc]) rfl (by rw [List.length_replicate]) (by omega) (by omega) (by rw [List.length_replicate, List.length_append, four4_len]; simp only [List.length_cons, List.length_nil]; omega) HB9.out HO9.out).mono ?_
  rintro e10 w10 ⟨rfl, ho, hb⟩
  obtain ⟨H, hH⟩ : ∃ H, recHead sq kd m = H := ⟨_, rfl⟩
  have HH := Aside0.mk hH
  have HHL := Aside0.mk (show H.length = 12 by rw [← hH]; exact recHead_len kd sq m)
  have HHO := Aside0.mk (show bytesOk H = true by rw [← hH]; exact recHead_ok kd sq m)
  have HO10 := Aside0.mk (show R8 w10 w2.heap.size (.slice (some ⟨g, 0, none⟩) m20 c3) (H ++ List.replicate (m + 8) 0) by rw [← hH]; unfold recHead; rw [List.append_assoc ([74, 82, kd % 256, 0] ++ four4 sq)]; exact ho)
  have HB10 := Aside0.mk hb
  clear ho hb HO9 hH
  go_wp2_with (with_reducible refine stop_slice rfl ?_)
  refine to8 (j := 12) rfl _ _ rfl rfl rfl (by decide) (by have := HC3.out; have := HM20.out; omega) ?_
  go_wp2_with fail
  refine (sum_N (some ⟨g, 0, none⟩) 12 c3 H w10 HHL.out (by have := HC3.out; have := HM20.out; omega) (by
    have h := (cutt8 (A := some ⟨g, 0, none⟩) (n := m20) (c := c3) (xs := H ++ List.replicate (m + 8) 0) 12 (by have := HM20.out; omega) HC3.out).2 w10 (R8_C HO10.out)
    rwa [List.take_left' HHL.out] at h) HHO.out).mono ?_
  rintro e11 w11 ⟨rfl, hb⟩
  have HB11 := Aside0.mk (HB10.out.trans (hb.mono HB10.out.size))
  have HO11 := Aside0.mk (R8_keep HO10.out (fun k_ hk_ => hb.block k_ (R8_lt HO10.out k_ hk_).2))
  obtain ⟨s1, hs1⟩ : ∃ s1, sumW H = s1 := ⟨_, rfl⟩
  rw [hs1]
  have HS1 := Aside0.mk (show 0 ≤ s1 ∧ s1 < 4294967296 by rw [← hs1]; exact sumW_range H HHO.out)
  have HS1E := Aside0.mk hs1
  clear hb HO10 hs1
  go_wp2_with fail
  refine (put_N (some ⟨g, 0, none⟩) m20 c3 H (List.replicate 4 0) (List.replicate (m + 4) 0) _ 12 s1 w2 w11 (by rw [show m + 8 = 4 + (m + 4) by omega, zeros_split 4 (m + 4)]) (by rw [HHL.out]; rfl) (by rw [List.length_replicate]) HS1.out.1 HS1.out.2 (by rw [List.length_replicate, HHL.out]; omega) HB11.out HO11.out).mono ?_
  rintro e12 w12 ⟨rfl, ho, hb⟩
  obtain ⟨G, hG⟩ : ∃ G, withSum H = G := ⟨_, rfl⟩
  have HG := Aside0.mk hG
  have HGL := Aside0.mk (show G.length = 16 by rw [← hG, withSum_len, HHL.out])
  have HGO := Aside0.mk (show bytesOk G = true by rw [← hG]; exact withSum_ok HHO.out)
  have HO12 := Aside0.mk (show R8 w12 w2.heap.size (.slice (some ⟨g, 0, none⟩) m20 c3) (G ++ List.replicate (m + 4) 0) by rw [← hG]; unfold withSum; rw [HS1E.out, List.append_assoc]; exact ho)
  have HB12 := Aside0.mk hb
  have HCB := Aside0.mk (show C8 w12 B2 m b from Kd.C_below (R8_C HO2.out) hb)
  clear ho hb HO11 hG
  go_wp2_with (with_reducible refine stop_slice rfl ?_)
  refine from8g (j := 16) (kl := .i64) rfl _ _ rfl rfl rfl (by have := HM20.out; omega) HC3.out (by have := HC3.out; have := HM20.out; omega) ?_
  go_wp2_with (with_reducible refine stop_copy rfl ?_)
  refine copy8_at w2 w2.heap.size rfl _ _ rfl rfl rfl HO12.out HCB.out HB12.out (by have := HM20.out; omega) (by have := HM20.out; omega) ?_
  intro w13 ho hb
  have HO13 := Aside0.mk (show R8 w13 w2.heap.size (.slice (some ⟨g, 0, none⟩) m20 c3) ((G ++ b) ++ List.replicate 4 0) by
    rw [List.take_left' HGL.out, ← List.drop_drop, List.drop_left' HGL.out, List.drop_replicate, show m + 4 - m = 4 by omega, ← List.append_assoc] at ho
    exact ho)
  have HB13 := Aside0.mk hb
  have HGBL := Aside0.mk (show (G ++ b).length = 16 + m by rw [List.length_append, HGL.out, HM.out])
  have HGBO := Aside0.mk (show bytesOk (G ++ b) = true from bytesOk_append HGO.out HOKB.out)
  obtain ⟨m16, hm16⟩ : ∃ m16 : Nat, m16 = 16 + m := ⟨_, rfl⟩
  have hmc : (16 : Int) + (m : Int) = (m16 : Int) := by omega
  have HM16 := Aside0.mk hm16
  clear ho hb HO12 HCB hm16
  go_wp2_with (with_reducible refine stop_slice rfl ?_)
  refine to8 (j := (m16 : Int)) (kh := .i64) rfl _ _ rfl rfl rfl (by omega) (by have := HC3.out; have := HM20.out; have := HM16.out; omega) ?_
  rw [Int.toNat_natCast]
  go_wp2_with fail
  refine (sum_N (some ⟨g, 0, none⟩) m16 c3 (G ++ b) w13 (by rw [HGBL.out, HM16.out]) (by have := HC3.out; have := HM20.out; have := HM16.out; omega) (by
    have h := (cutt8 (A := some ⟨g, 0, none⟩) (n := m20) (c := c3) (xs := (G ++ b) ++ List.replicate 4 0) m16 (by have := HM20.out; have := HM16.out; omega) HC3.out).2 w13 (R8_C HO13.out)
    rwa [List.take_left' (by rw [HGBL.out, HM16.out])] at h) HGBO.out).mono ?_
  rintro e14 w14 ⟨rfl, hb⟩
  have HB14 := Aside0.mk (HB13.out.trans (hb.mono HB13.out.size))
  have HO14 := Aside0.mk (R8_keep HO13.out (fun k_ hk_ => hb.block k_ (R8_lt HO13.out k_ hk_).2))
  obtain ⟨s2, hs2⟩ : ∃ s2, sumW (G ++ b) = s2 := ⟨_, rfl⟩
  rw [hs2]
  have HS2 := Aside0.mk (show 0 ≤ s2 ∧ s2 < 4294967296 by rw [← hs2]; exact sumW_range _ HGBO.out)
  have HS2E := Aside0.mk hs2
  clear hb HO13 hs2
  go_wp2_with fail
  refine (put_N (some ⟨g, 0, none⟩) m20 c3 (G ++ b) (List.replicate 4 0) [] _ (m16 : Int) s2 w2 w14 (by rw [List.append_nil]) (by rw [HGBL.out, HM16.out]) (by rw [List.length_replicate]) HS2.out.1 HS2.out.2 (by rw [HGBL.out]; simp only [List.length_nil]; omega) HB14.out HO14.out).mono ?_
  rintro e15 w15 ⟨rfl, ho, hb⟩
  have HO15 := Aside0.mk (show R8 w15 w2.heap.size (.slice (some ⟨g, 0, none⟩) m20 c3) (recBytes sq kd b) by
    unfold recBytes
    rw [HM.out, HH.out, HG.out]
    unfold withSum
    rw [HS2E.out]
    rw [List.append_nil] at ho
    exact ho)
  have HB15 := Aside0.mk (below_step HB2.out hb)
  clear ho hb HO14 hmc
  go_wp2
  refine bodyPost_ret (results_tmp2 rfl _ _ _) rfl ?_
  exact ⟨_, rfl, Kd.R_lower HO15.out HB2.out.size, HB15.out⟩

theorem entry_l0 (l : List S40) (hl : l.length ≤ 3000000000000) (s v k se rq : Int) (d : Nat) : ∀ (r i : Nat), i + d = l.length → d < r → heraldlaw7_entry.l0 r (i : Int) s v k se rq l s v k se rq l = some true := by
  induction d with
  | zero =>
    intro r i hi hr
    obtain ⟨r, rfl⟩ : ∃ m, r = m + 1 := ⟨r - 1, by omega⟩
    simp only [heraldlaw7_entry.l0]
    rw [if_neg (by omega)]
  | succ d ih =>
    intro r i hi hr
    obtain ⟨r, rfl⟩ : ∃ m, r = m + 1 := ⟨r - 1, by omega⟩
    have hw : wrap64 ((i : Int) + 1) = ((i + 1 : Nat) : Int) := by unfold wrap64; omega
    simp only [heraldlaw7_entry.l0]
    rw [if_pos (by omega), if_pos (by omega), if_pos (by omega), hw, ih r (i + 1) (by omega) (by omega)]
    simp
theorem entry_self (l : List S40) (hl : l.length ≤ 3000000000000) (s v k se rq : Int) (r : Nat) (hr : l.length + 2 ≤ r) : heraldlaw7_entry.f r s v k se rq l s v k se rq l = some true := by
  obtain ⟨r, rfl⟩ : ∃ m, r = m + 1 := ⟨r - 1, by omega⟩
  unfold heraldlaw7_entry.f
  simp only [if_true, heraldlaw7_entry.j0, bne_self_eq_false, Bool.false_eq_true, if_false]
  exact entry_l0 l hl s v k se rq l.length r 0 (by omega) (by omega)
theorem entry_N (s v k se rq : Int) (l : List S40) (A B : Option Addr) (c d n : Nat) (w : World) (hn : l.length = n) (hm : n ≤ 3000000000000) (hA : Kd.C k40 w A n l) (hc : n ≤ c) (hB : Kd.C k40 w B n l) (hd : n ≤ d) :
    Calls Try.prog 34 #[.agg #[.int .i64 s, .int .i64 v, .int .i64 k, .int .i64 se, .int .i64 rq, .slice A n c], .agg #[.int .i64 s, .int .i64 v, .int .i64 k, .int .i64 se, .int .i64 rq, .slice B n d]] w fun e w' => e = .returned (.bool true) ∧ Below w.heap.size w w' := by
  subst hn
  exact heraldlaw7_entry.calls (l.length + 2) s v k se rq A c l s v k se rq B d l true w hA hc hB hd (entry_self l hm s v k se rq _ (Nat.le_refl _))

def opCells (o : S40) : List Value := [.int .i64 o.f0, .string o.f1, .string o.f2, .int .i64 o.f3, .int .i64 o.f4]
abbrev R40 (w : World) (base : Nat) (v : Value) (l : List S40) : Prop := Kd.R k40 40 w base (fun _ => True) v l
theorem R40_form {W : World} {base : Nat} {v : Value} {l : List S40} (h : R40 W base v l) : ∃ A n c, v = .slice A n c ∧ l.length = n ∧ n ≤ c ∧ Kd.C k40 W A n l := by
  obtain ⟨A, c, e, h1, h2⟩ := Kd.R_reads h
  exact ⟨A, _, c, e, rfl, h1, h2⟩
theorem R40_type {W : World} {base : Nat} {v : Value} {l : List S40} (h : R40 W base v l) : ∀ k, v.ownBlock = some k → typed W 40 k := Kd.R_typed h
theorem k40_only {t : Nat} (h : t ∈ 40 :: k40.E) : t = 40 := by
  have h' : t ∈ [40] := h
  simpa using h'
section
variable {ops : Array Oper} {o : Oper} {a : Act} {Q : Exit → Act → World → Prop} {rest : List Oper} {W : World}
/-- append(v, p) of ops. -/
theorem appOp (w0 : World) (base : Nat) (hgd : o.guard = none) (s x : Operand) (ho : o.op = .call { callee := .builtin .append, args := #[s, x], argTypes := #[22, 22] })
    {v : Value} {xs : List S40} (p : S40) (hs : a.eval s = v) (hx : a.eval x = .slice (some ⟨W.heap.size, 0, none⟩) 1 1) (HO : R40 W base v xs) (HB : Below base w0 W) (hbase : base ≤ W.heap.size) (hl : xs.length ≤ 2513169434843)
    (h : ∀ v1 w1, R40 w1 base v1 (xs ++ [p]) → Below base w0 w1 → W.grownBy w1 v.ownBlock → (v1.ownBlock = v.ownBlock ∨ ∃ b, v1.ownBlock = some b ∧ W.heap.size ≤ b) → wpList Try.prog ops Q rest (a.put o.dst v1) w1) :
    Stop (wpList Try.prog ops Q (o :: rest) a (W.alloc (.cells (opCells p).toArray 40))) :=
  Kd.R_append k40 (w0 := w0) base hgd s x 22 40 _ 56 ho Try.underlying22 info40 rfl (by decide) (by decide) v xs p (opCells p) (fun _ => True) (fun _ => False) hs hx (k40_mkM W base _ p) (fun _ h => h.elim) (fun _ _ => trivial) HO HB hbase (by omega) h
end

abbrev recCells (kd s v k se rq : Int) (B : Option Addr) (nb cb : Nat) (vn vp vb st of : Int) (x : ByteArray) : Array Value := #[.int .i64 kd, .int .i64 s, .int .i64 v, .int .i64 k, .int .i64 se, .int .i64 rq, .slice B nb cb, .int .i64 vn, .int .i64 vp, .int .i64 vb, .int .i64 st, .int .i64 of, .string x]
/-- A record: its numbers, its operations, its state. -/
structure JR where
  kd : Int
  s : Int
  v : Int
  k : Int
  se : Int
  rq : Int
  ops : List S40
  vn : Int
  vp : Int
  vb : Int
  st : Int
  of : Int
  x : ByteArray
abbrev JR.cells (y : JR) (A : Option Addr) (c : Nat) : Array Value := recCells y.kd y.s y.v y.k y.se y.rq A y.ops.length c y.vn y.vp y.vb y.st y.of y.x
/-- What a round of a range over Walk is handed. -/
abbrev jargs (k : Nat) (y : JR) (A : Option Addr) (c : Nat) : Array Value := #[.int .i64 ((k : Int) + 1), .agg (y.cells A c)]
abbrev zeroRec : Value := .agg (recCells 0 0 0 0 0 0 none 0 0 0 0 0 0 0 ⟨#[]⟩)
/-- What read (71) answers of bytes l under number sq: a record and how long it is, or nothing. -/
def RdSpec (l : List Int) (sq : Int) : Option (JR × Nat) → Prop
  | some (y, m) => ∀ (w : World) (A : Option Addr) (n c : Nat), l.length = n → n ≤ c → C8 w A n l → Calls Try.prog 71 #[.slice A n c, .int .i64 sq] w fun e w' =>
      ∃ B cb, e = .returned (.tuple #[.agg (y.cells B cb), .int .i64 (m : Int), .bool true]) ∧ R40 w' w.heap.size (.slice B y.ops.length cb) y.ops ∧ Below w.heap.size w w'
  | none => ∀ (w : World) (A : Option Addr) (n c : Nat), l.length = n → n ≤ c → C8 w A n l → Calls Try.prog 71 #[.slice A n c, .int .i64 sq] w fun e w' =>
      e = .returned (.tuple #[zeroRec, .int .i64 0, .bool false]) ∧ Below w.heap.size w w'
/-- The records that read finds in l from place at and number k + 1 on. -/
def Walks (l : List Int) : Nat → Nat → List JR → Prop
  | at_, k, [] => RdSpec (l.drop at_) ((k : Int) + 1) none
  | at_, k, y :: L => ∃ m, RdSpec (l.drop at_) ((k : Int) + 1) (some (y, m)) ∧ 20 ≤ m ∧ at_ + m ≤ l.length ∧ Walks l (at_ + m) (k + 1) L

/-- I speaks of cells, none of them in T, and abides new blocks and the turn of a block from B on that is no cells; what is new, and what it spoke not of, may be barred from then on. -/
def TOwn {σ : Type} (B : Nat) (I : (Nat → Prop) → σ → World → Prop) : Prop :=
  ∀ T s W W' row T', I T s W → W.grownBy W' row → (∀ r, row = some r → B ≤ r ∧ ∃ o : Obj, W.heap[r]? = some o ∧ o.isCells = false) → (∀ k, T' k → T k ∨ (W.heap.size ≤ k ∧ k < W'.heap.size)) → I T' s W'
section
variable {σ : Type} {B B' : Nat} {I : (Nat → Prop) → σ → World → Prop} {T T' : Nat → Prop} {s : σ} {W : World}
theorem TOwn.weak (h : TOwn B I) (hB : B ≤ B') : TOwn B' I := fun T s W W' row T' hs hg hr hT => h T s W W' row T' hs hg (fun r e => ⟨Nat.le_trans hB (hr r e).1, (hr r e).2⟩) hT
theorem TOwn.alloc (h : TOwn B I) (o : Obj) (hs : I T s W) (hT : ∀ k, T' k → T k ∨ k = W.heap.size) : I T' s (W.alloc o) := h T s W _ none T' hs (World.grownBy_alloc W o none) (fun r e => by cases e) (fun k hk => (hT k hk).imp_right (fun e => by rw [World.size_alloc]; omega))
theorem TOwn.drew (h : TOwn B I) (hs : I T s W) : I T s W.drew := h T s W W.drew none T hs ⟨rfl, rfl, rfl, Nat.le_refl _, fun _ _ _ => rfl⟩ (fun r e => by cases e) (fun k hk => .inl hk)
theorem TOwn.less (h : TOwn B I) (hs : I T s W) (hT : ∀ k, T' k → T k) : I T' s W := h T s W W none T' hs ⟨rfl, rfl, rfl, Nat.le_refl _, fun _ _ _ => rfl⟩ (fun r e => by cases e) (fun k hk => .inl (hT k hk))
theorem TOwn.putObj (h : TOwn B I) {l : Nat} {o : Obj} (o' : Obj) (hs : I T s W) (hB : B ≤ l) (hl : W.heap[l]? = some o) (ho : o.isCells = false) : I T s (W.putObj l o') :=
  h T s W _ (some l) T hs (grownBy_putObj' W l o') (fun r e => by cases e; exact ⟨hB, o, hl, ho⟩) (fun k hk => .inl hk)
end
/-- How the body of a round may be left. -/
def strPost (T : Nat → Prop) (good : World → Prop) (Ix : Code → World → Prop) (W : World) : Exit → Act → World → Prop
  | .normal, _, W' => (∀ k, T k → W'.heap[k]? = W.heap[k]?) ∧ good W'
  | .ret, _, W' => (∀ k, T k → W'.heap[k]? = W.heap[k]?) ∧ Ix .ret W'
  | .exit id, _, W' => (∀ k, T k → W'.heap[k]? = W.heap[k]?) ∧ Ix (.exit id) W'
  | .goto t, _, W' => (∀ k, T k → W'.heap[k]? = W.heap[k]?) ∧ Ix (.goto t) W'
  | .panic _, _, _ => False
  | .outgrown, _, _ => False

theorem OwnFrom.weak {β : Type} {B B' : Nat} {I : β → World → Prop} (h : OwnFrom B I) (hB : B ≤ B') : OwnFrom B' I := fun s W W' row hs hg hr => h s W W' row hs hg (fun r e => ⟨Nat.le_trans hB (hr r e).1, (hr r e).2⟩)
/-- In a round an operation that is no defer is carried out as everywhere (the wide fence). -/
theorem wpListIn_of {P : Program} {ops : Array Oper} {Q : Exit → Act → World → Prop} {n : Nat} (l₀ : Nat) : ∀ (L : List Oper) (a : Act) (w : World), ¬ LetsOut Q → (∀ o ∈ L, ∀ c, o.op ≠ .defer c) → wpList P ops Q L a w → wpListIn (Fence.wide.inRound l₀) n P ops Q L a w := by
  intro L
  induction L with
  | nil => intro a w _ _ h; exact h
  | cons o L ih =>
    intro a w hno hd h
    have hd' : ∀ o ∈ L, ∀ c, o.op ≠ .defer c := fun o ho => hd o (List.mem_cons_of_mem _ ho)
    unfold wpListIn
    unfold wpList at h
    split
    · rename_i hw
      rw [if_pos hw] at h
      refine ⟨fun _ _ => trivial, ?_⟩
      have hs : o.semAt (Fence.wide.inRound l₀).round a.eval = execOp a.eval o := Oper.semAt_some l₀ _ _ (hd o List.mem_cons_self)
      rw [hs]
      replace h := h.resolve_right (fun h2 => hno h2.2)
      unfold Oper.wp at h
      revert h
      cases hr : (execOp a.eval o).run P w with
      | ok x w' =>
        cases x with
        | value v => intro h; exact ih _ _ hno hd' h
        | skip => intro h; exact ih _ _ hno hd' h
        | defer d => intro h; exact ih _ _ hno hd' h
        | enter f args =>
          intro h
          refine ⟨fun h => by simp [Fence.wide, Fence.inRound] at h, CallsIn.inRound l₀ (callsIn_wide.2 (Calls.mono h ?_))⟩
          rintro (v | c | _) w'' h2
          · exact ih _ _ hno hd' h2
          · exact h2
          · exact h2
        | row r args => intro h; exact ⟨fun h => by simp [Fence.wide, Fence.inRound] at h, fun c cs _ => let ⟨v, w', r, s⟩ := h c cs; ⟨v, w', ih _ _ hno hd' r, stepsIn_wide.2 s⟩⟩
        | _ => intro h; exact h.elim
      | halt e w' =>
        cases e with
        | panic v => intro h; exact h
        | _ => intro h; exact h.elim
    · rename_i hw
      rw [if_neg hw] at h
      exact ⟨fun _ _ => trivial, ih _ _ hno hd' h⟩

/-- One operation that yields a value, under a wide fence. -/
theorem listIn_value {P : Program} {ops : Array Oper} {Q : Exit → Act → World → Prop} {n : Nat} {r : Option Nat} {o : Oper} {rest : List Oper} {a : Act} {W W1 : World} {v : Value} (hgd : o.guard = none) (hnd : ∀ c, o.op ≠ .defer c) (hrun : (execOp a.eval o).run P W = .ok (.value v) W1)
    (h : wpListIn { Fence.wide with round := r } n P ops Q rest (a.put o.dst v) W1) : wpListIn { Fence.wide with round := r } n P ops Q (o :: rest) a W := by
  refine wpListIn_plain hgd fun K hK => ⟨fun _ _ => trivial, ?_⟩
  have hs : o.semAt r a.eval = execOp a.eval o := by
    cases r with
    | none => rfl
    | some l₀ => exact Oper.semAt_some l₀ _ _ hnd
  show o.uponIn _ n P a K Q ((o.semAt r a.eval).run P W)
  rw [hs, hrun]
  exact hK _ _ h
theorem OwnFrom.drew {β : Type} {B : Nat} {I : β → World → Prop} (h : OwnFrom B I) {s : β} {W : World} (hs : I s W) : I s W.drew := h s W W.drew none hs ⟨rfl, rfl, rfl, Nat.le_refl _, fun _ _ _ => rfl⟩ (fun r e => by cases e)

/-- A plain region in a round (the wide fence). -/
theorem region_round {P : Program} {id : Nat} {L : List Oper} {Q : Exit → Act → World → Prop} {a : Act} {w : World} (l₀ : Nat) (hno : ¬ LetsOut Q) (hd : ∀ o ∈ L, ∀ c, o.op ≠ .defer c) (h : wpList P L.toArray Q L a w) : (Code.region id L.toArray false).wpIn (Fence.wide.inRound l₀) 0 P Q a w :=
  wpIn_region_lit (wpListIn_of l₀ L a w hno hd h)

/-- One operation, in a round. -/
theorem operIn_of {P : Program} {Q : Exit → Act → World → Prop} {n : Nat} (l₀ : Nat) {o : Oper} {a : Act} {w : World} {K K' : Act → World → Prop} (hd : ∀ c, o.op ≠ .defer c) (hK : ∀ a w, K a w → K' a w) (h : o.wp P a w K Q) : o.wpIn (Fence.wide.inRound l₀) n P a w K' Q := by
  refine ⟨fun _ _ => trivial, ?_⟩
  have hs : o.semAt (Fence.wide.inRound l₀).round a.eval = execOp a.eval o := Oper.semAt_some l₀ _ _ hd
  rw [hs]
  unfold Oper.wp at h
  revert h
  cases hr : (execOp a.eval o).run P w with
  | ok x w' =>
    cases x with
    | value v => intro h; exact hK _ _ h
    | skip => intro h; exact hK _ _ h
    | defer d => intro h; exact hK _ _ h
    | enter f args =>
      intro h
      refine ⟨fun h => by simp [Fence.wide, Fence.inRound] at h, CallsIn.inRound l₀ (callsIn_wide.2 (Calls.mono h ?_))⟩
      rintro (v | c | _) w'' h2
      · exact hK _ _ h2
      · exact h2
      · exact h2
    | row r args => intro h; exact ⟨fun h => by simp [Fence.wide, Fence.inRound] at h, fun c cs _ => let ⟨v, w', r, s⟩ := h c cs; ⟨v, w', hK _ _ r, stepsIn_wide.2 s⟩⟩
    | _ => intro h; exact h.elim
  | halt e w' =>
    cases e with
    | panic v => intro h; exact h
    | _ => intro h; exact h.elim
theorem wpAnyIn_of {P : Program} {md : Region.Mode} {ops : Array Oper} {Q : Exit → Act → World → Prop} {n : Nat} (l₀ : Nat) (hno : ¬ LetsOut Q) (hd : ∀ o ∈ ops, ∀ c, o.op ≠ .defer c) : ∀ (fuel : Nat) (listed : Array Bool) (a : Act) (w : World), wpAny P md ops Q fuel listed a w → wpAnyIn (Fence.wide.inRound l₀) n P md ops Q fuel listed a w := by
  intro fuel
  induction fuel with
  | zero => intro listed a w h; exact h
  | succ fuel ih =>
    intro listed a w h
    refine ⟨h.1, fun i hi => ?_⟩
    have h2 := h.2 i hi
    unfold wpOp at h2
    unfold wpOpIn
    cases ho : ops[i]? with
    | none => rw [ho] at h2; exact ih _ _ _ h2
    | some o =>
      rw [ho] at h2
      simp only at h2 ⊢
      split
      · rename_i hw
        rw [if_pos hw] at h2
        exact operIn_of l₀ (hd o (Array.mem_of_getElem? ho)) (fun a w => ih _ a w) (h2.resolve_right (fun h3 => hno h3.2))
      · rename_i hw
        rw [if_neg hw] at h2
        exact ⟨fun _ _ => trivial, ih _ _ _ h2⟩
theorem startIn_ {P : Program} {ops : Array Oper} {Q : Exit → Act → World → Prop} {S : World → Prop} {ds : List Nat} {id n : Nat} {a : Act} {w : World} (l₀ : Nat) (hno : ¬ LetsOut Q) (hd : ∀ o ∈ ops, ∀ c, o.op ≠ .defer c) (l : Array Bool) (hm : P.follows .mixedOrders = true) (hn : ops.size = n) (hl : Array.replicate n false = l) (hS : S w.drew)
    (h : S w.drew → wpAnyLast P .any ops Q S ds n l a w.drew) : (Code.region id ops true).wpIn (Fence.wide.inRound l₀) 0 P Q a w := by
  subst hn
  subst hl
  exact wpIn_region_any hm (wpAnyIn_of l₀ hno hd _ _ _ _ (wpAny_of_last _ _ _ _ (h hS)))


/-- What a round is handed: record y, its list of ops in blocks okx, which nobody else has. -/
def Handed (n0 : Nat) (T : Nat → Prop) (y : JR) (A : Option Addr) (c : Nat) (okx : Nat → Prop) (W : World) : Prop :=
  Kd.R k40 40 W n0 okx (.slice A y.ops.length c) y.ops ∧ (∀ j, okx j → ¬ T j ∧ n0 ≤ j ∧ j < W.heap.size)
/-- An iterator that hands the records of L on, each in new memory: function g, whose captured variable is block Bn. -/
def ItWalk (P : Program) (g Bn : Nat) (D : World → Prop) (L : List JR) (W : World) : Prop :=
  ∀ (l : Nat) (J : (Nat → Prop) → Nat → World → Prop) (Jx : World → Prop) (T0 : Nat → Prop), TOwn W.heap.size J → OwnFrom W.heap.size (fun (_ : Unit) => Jx) → (∀ j, T0 j → j < W.heap.size) → (∀ T k W, J T k W → D W) →
    (∀ T k y A c okx W1, (∀ j, T0 j → T j) → (∀ j, T j → j < W1.heap.size) → L[k]? = some y → J (fun j => T j ∨ okx j) k W1 → Handed W.heap.size T y A c okx W1 →
      YieldAt Fence.wide 0 P l (jargs k y A c) W1 fun e W' => ((e = .returned (.bool true) ∧ J T (k + 1) W') ∨ (e = .returned (.bool false) ∧ Jx W')) ∧ ∀ j, T j → W.heap.size ≤ j → j < W1.heap.size → W'.heap[j]? = W1.heap[j]?) →
    J T0 0 W →
    Calls P g #[.func (.yield l) #[] #[], .pointer (some ⟨Bn, 0, none⟩)] W fun e W' => (∃ v, e = .returned v) ∧ (J T0 L.length W' ∨ Jx W')
variable {P : Program}
/-- The loop over such an iterator, in a frame that is no round. -/
theorem rangeWalk {g : Operand} {ps : Array Tmp} {assign body : Code} {Q : Exit → Act → World → Prop} {a : Act} {w : World} {gf Bn : Nat} (a₁ : Nat → JR → Option Addr → Nat → Nat → Act) (D : World → Prop) (L : List JR)
    (hg : a.eval g = .func (.func gf) #[] #[.pointer (some ⟨Bn, 0, none⟩)]) (eg : ∀ args w, (callFunc gf args).run P w = .ok (.enter gf args) w)
    (hps : ps.size = 2)
    (I : (Nat → Prop) → Nat → World → Prop) (Ix : Code → World → Prop) (T0 : Nat → Prop) (hI : TOwn w.heap.size I) (hIx : ∀ c, OwnFrom w.heap.size (fun (_ : Unit) => Ix c)) (h0 : I T0 0 w) (hT0 : ∀ j, T0 j → j < w.heap.size)
    (hD : ∀ T k W, I T k W → D W) (hit : ∀ T W, I T 0 W → ItWalk P gf Bn D L W)
    (hassign : ∀ (l : Nat) (k : Nat) (y : JR) (A : Option Addr) (c : Nat) (W : World) (K : Act → World → Prop), K (a₁ k y A c W.heap.size) (W.alloc (.cells (y.cells A c) 28)) →
      assign.wpIn (Fence.wide.inRound l) 0 P (Exit.then K (fun _ _ _ => False)) { tmps := (ps.zip (jargs k y A c)).foldl (fun t (p, v) => t.setIfInBounds p v) a.tmps, defers := [] } W)
    (hbody : ∀ (T : Nat → Prop) (l k : Nat) (y : JR) (A : Option Addr) (c : Nat) (okx : Nat → Prop) (B : Nat) (W : World), (∀ k, T0 k → T k) → (∀ j, T j → j < W.heap.size) → T l → w.heap.size ≤ l → (∃ r, W.heap[l]? = some (.loop r)) → L[k]? = some y → I (fun j => T j ∨ okx j) k W → Handed w.heap.size T y A c okx W →
      w.heap.size ≤ B → W.heap[B]? = some (.cells (y.cells A c) 28 (0, 0)) →
      body.wpIn (Fence.wide.inRound l) 0 P (strPost (fun k => T k ∧ w.heap.size ≤ k) (fun W' => I T (k + 1) W') Ix W) (a₁ k y A c B) W)
    (hdone : ∀ (D : Nat) (W : World), w.heap.size ≤ D → I T0 L.length W → W.heap[D]? = some (.deferred (some [])) → Q .normal { a with defers := { target := .collected D, args := #[] } :: a.defers } W)
    (hstop : ∀ (D : Nat) (c : Code) (W : World), w.heap.size ≤ D → Ix c W → W.heap[D]? = some (.deferred (some [])) → c.wp P Q { a with defers := { target := .collected D, args := #[] } :: a.defers } W) :
    (Code.rangeFunc g ps assign body).wp P Q a w := by
  refine (wpIn_wide (n := 0)).1 ?_
  refine wpIn_rangeFunc ?_
  intro fn hfn
  show ∃ (l : Nat) (mark : List Deferred) (w₁ : World) (d : Deferred) (w₁' : World) (f : FuncId) (args : Array Value) (w₂ : World),
      (Instr.enterLoop fn a.tmps ps assign body none).run P w = .ok (l, mark) w₁ ∧ _
  obtain ⟨rec, hrec⟩ : ∃ rec : LoopState → Option Code → Loop, rec = fun st pe => { state := st, pending := pe, fn, tmps := a.tmps, params := ps, assign, body, defers := w.heap.size } := ⟨_, rfl⟩
  obtain ⟨W1, hW1⟩ : ∃ W1, (w.alloc (.deferred (some []))).alloc (.loop (rec .ready none)) = W1 := ⟨_, rfl⟩
  have hs1 : W1.heap.size = w.heap.size + 2 := by rw [← hW1]; simp
  have hL1 : W1.heap[w.heap.size + 1]? = some (.loop (rec .ready none)) := by
    rw [← hW1]; have := World.alloc_heap_new (w.alloc (.deferred (some []))) (.loop (rec .ready none)); rwa [World.size_alloc] at this
  have hK1 : W1.heap[w.heap.size]? = some (.deferred (some [])) := by
    rw [← hW1]; exact (Below.heap_alloc _ _ _ (by simp)).trans (World.alloc_heap_new w _)
  obtain ⟨T1, hT1⟩ : ∃ T1 : Nat → Prop, T1 = fun k => T0 k ∨ k = w.heap.size ∨ k = w.heap.size + 1 := ⟨_, rfl⟩
  have hI1 : I T1 0 W1 := by rw [← hW1, hT1]; exact hI.alloc (T := fun k => T0 k ∨ k = w.heap.size) _ (hI.alloc _ h0 (fun k hk => hk)) (fun k hk => by simp only [World.size_alloc]; rcases hk with h | h | h; exact .inl (.inl h); exact .inl (.inr h); exact .inr h)
  refine ⟨w.heap.size + 1, [{ target := .collected w.heap.size, args := #[] }], W1, { target := .fn (.func gf) #[.pointer (some ⟨Bn, 0, none⟩)], args := #[.func (.yield (w.heap.size + 1)) #[] #[]] }, W1, gf,
    #[.func (.yield (w.heap.size + 1)) #[] #[]] ++ #[.pointer (some ⟨Bn, 0, none⟩)], W1, ?_, ?_, ?_, ?_, fun h => by simp [Fence.wide] at h, ?_⟩
  · rw [← hW1, hrec]; exact run_enterLoop_outer _ _ _ _ _
  · simp only [resolve, hg]
    simp [go_sem]
  · intro f' hf'; trivial
  · simp [invoke, go_sem, eg]
  · have hR : ∀ {A B : World} {row : Option Nat} {k : Nat} {o : Obj}, A.grownBy B row → (∀ r, row = some r → W1.heap.size ≤ r ∧ ∃ o : Obj, A.heap[r]? = some o ∧ o.isCells = false) → k < w.heap.size + 2 → A.heap[k]? = some o → B.heap[k]? = some o :=
      fun hg' hr hk ho => (hg'.block _ (blk_lt ho) (fun e => by have := (hr _ e.symm).1; omega)).trans ho
    refine (callsIn_wide.2 (hit T1 W1 hI1 (w.heap.size + 1)
      (fun T s W => I T s W ∧ W.heap[w.heap.size + 1]? = some (.loop (rec .ready none)) ∧ W.heap[w.heap.size]? = some (.deferred (some [])))
      (fun W => ∃ c, Ix c W ∧ W.heap[w.heap.size + 1]? = some (.loop (rec .done (some c))) ∧ W.heap[w.heap.size]? = some (.deferred (some []))) T1
      (fun T s A B row T' hs hg' hr hT => ⟨TOwn.weak hI (by omega) T s A B row T' hs.1 hg' hr hT, hR hg' hr (by omega) hs.2.1, hR hg' hr (by omega) hs.2.2⟩)
      (fun s A B row hs hg' hr => by
        obtain ⟨c, hc, hl, hk⟩ := hs
        exact ⟨c, OwnFrom.weak (hIx c) (by omega) () A B row hc hg' hr, hR hg' hr (by omega) hl, hR hg' hr (by omega) hk⟩)
      (fun j hj => by rw [hT1] at hj; rcases hj with h | h | h <;> first | (have := hT0 j h; omega) | omega) (fun T k W hs => hD T k W hs.1) ?_ ⟨hI1, hL1, hK1⟩)).mono ?_
    · -- ONE ROUND
      rintro T s y A c okx W hT0' hTlt hy0 ⟨hi, hl, hk⟩ hhand
      have hTl : T (w.heap.size + 1) := hT0' _ (by rw [hT1]; exact .inr (.inr rfl))
      have hTd : T w.heap.size := hT0' _ (by rw [hT1]; exact .inr (.inl rfl))
      have hTT : ∀ k, T0 k → T k := fun k hk => hT0' k (by rw [hT1]; exact .inl hk)
      have hlt : w.heap.size + 1 < W.heap.size := (Array.getElem?_eq_some_iff.1 hl).1
      have hy := run_yield (P := P) (args := (jargs s y A c)) hl (by rw [hrec]; simp [hps])
      rw [hrec] at hy
      refine ⟨fn, _, assign, body, hy, roundIn_of_wpIn hfn (hassign _ s y A c W _ ?_)⟩
      obtain ⟨WB, hWB⟩ : ∃ WB, WB = W.alloc (.cells (y.cells A c) 28) := ⟨_, rfl⟩
      rw [← hWB]
      have hBb : Below W.heap.size W WB := by rw [hWB]; exact below_alloc (Below.refl _ _) _
      have hlB : WB.heap[w.heap.size + 1]? = some (.loop (rec .ready none)) := (hBb.block _ hlt).trans hl
      have hkB : WB.heap[w.heap.size]? = some (.deferred (some [])) := (hBb.block _ (by omega)).trans hk
      have hnB : WB.heap[W.heap.size]? = some (.cells (y.cells A c) 28 (0, 0)) := by rw [hWB]; exact heap_alloc_new _ _
      have hiB : I (fun j => T j ∨ okx j) s WB := by rw [hWB]; exact hI.alloc _ hi (fun k hk => .inl hk)
      have hltB : w.heap.size + 1 < WB.heap.size := blk_lt hlB
      refine ⟨_, run_beginRound hlB (by rw [hrec]), ?_⟩
      have hl2 : (WB.putObj (w.heap.size + 1) (.loop { rec .ready none with state := .busy })).heap[w.heap.size + 1]? = some (.loop { rec .ready none with state := .busy }) := World.putObj_heap_same hltB
      have hk2 : (WB.putObj (w.heap.size + 1) (.loop { rec .ready none with state := .busy })).heap[w.heap.size]? = some (.deferred (some [])) := (World.putObj_heap_other (by omega)).trans hkB
      have hn2 : (WB.putObj (w.heap.size + 1) (.loop { rec .ready none with state := .busy })).heap[W.heap.size]? = some (.cells (y.cells A c) 28 (0, 0)) := (World.putObj_heap_other (by omega)).trans hnB
      have hsz2 : (WB.putObj (w.heap.size + 1) (.loop { rec .ready none with state := .busy })).heap.size = WB.heap.size := by simp [World.putObj]
      have hhand2 : Handed w.heap.size T y A c okx (WB.putObj (w.heap.size + 1) (.loop { rec .ready none with state := .busy })) := by
        obtain ⟨h1, h2⟩ := hhand
        refine ⟨Kd.R_lower (Kd.R_step h1 (fun k hk hlt2 => ?_)) (by omega), fun j hj => ⟨(h2 j hj).1, by have := (h2 j hj).2.1; omega, by rw [hsz2]; exact Nat.lt_of_lt_of_le (h2 j hj).2.2 hBb.size⟩⟩
        exact (World.putObj_heap_other (fun e => (h2 k hk).1 (by rw [e]; exact hTl))).trans (hBb.block k hlt2)
      refine wpIn_mono (hbody T _ s y A c okx W.heap.size _ hTT (fun j hj => by rw [hsz2]; exact Nat.lt_of_lt_of_le (hTlt j hj) hBb.size) hTl (by omega) ⟨_, hl2⟩ hy0 (hI.putObj _ hiB (by omega) hlB rfl) hhand2 (by omega) hn2) ?_
      have fin : ∀ (jump : Option Code) (W3 : World), (∀ k, T k ∧ w.heap.size ≤ k → W3.heap[k]? = (WB.putObj (w.heap.size + 1) (.loop { rec .ready none with state := .busy })).heap[k]?) →
          (Instr.endRound (w.heap.size + 1) jump).run P W3 = .ok (.bool jump.isNone) (W3.putObj (w.heap.size + 1) (.loop (rec (if jump.isNone then .ready else .done) jump))) ∧
          W3.heap[w.heap.size + 1]? = some (.loop { rec .ready none with state := .busy }) ∧
          (W3.putObj (w.heap.size + 1) (.loop (rec (if jump.isNone then .ready else .done) jump))).heap[w.heap.size + 1]? = some (.loop (rec (if jump.isNone then .ready else .done) jump)) ∧
          (W3.putObj (w.heap.size + 1) (.loop (rec (if jump.isNone then .ready else .done) jump))).heap[w.heap.size]? = some (.deferred (some [])) ∧
          (∀ k, T k → W1.heap.size ≤ k → k < W.heap.size → (W3.putObj (w.heap.size + 1) (.loop (rec (if jump.isNone then .ready else .done) jump))).heap[k]? = W.heap[k]?) := fun jump W3 hk3 => by
        have hl3 := (hk3 _ ⟨hTl, by omega⟩).trans hl2
        have := run_endRound (P := P) jump hl3
        rw [hrec] at this ⊢
        exact ⟨this, by rw [hrec] at hl3; exact hl3, World.putObj_heap_same (Array.getElem?_eq_some_iff.1 hl3).1, (World.putObj_heap_other (by omega)).trans ((hk3 _ ⟨hTd, Nat.le_refl _⟩).trans hk2), fun k hTk hsz hkW => (World.putObj_heap_other (by omega)).trans ((hk3 k ⟨hTk, by omega⟩).trans ((World.putObj_heap_other (by omega)).trans (hBb.block k hkW)))⟩
      rintro e a3 W3 hp
      cases e with
      | normal =>
        obtain ⟨hk3, hi3⟩ := hp
        obtain ⟨hr, hl3, hl4, hk4, hT4⟩ := fin none W3 hk3
        exact ⟨_, _, hr, .inl ⟨rfl, hI.putObj _ hi3 (by omega) hl3 rfl, hl4, hk4⟩, hT4⟩
      | ret =>
        obtain ⟨hk3, hi3⟩ := hp
        obtain ⟨hr, hl3, hl4, hk4, hT4⟩ := fin (some .ret) W3 hk3
        exact ⟨_, _, hr, .inr ⟨rfl, .ret, (hIx _).putObj (s := ()) _ hi3 (by omega) hl3 rfl, hl4, hk4⟩, hT4⟩
      | exit id =>
        obtain ⟨hk3, hi3⟩ := hp
        obtain ⟨hr, hl3, hl4, hk4, hT4⟩ := fin (some (.exit id)) W3 hk3
        exact ⟨_, _, hr, .inr ⟨rfl, .exit id, (hIx _).putObj (s := ()) _ hi3 (by omega) hl3 rfl, hl4, hk4⟩, hT4⟩
      | goto t =>
        obtain ⟨hk3, hi3⟩ := hp
        obtain ⟨hr, hl3, hl4, hk4, hT4⟩ := fin (some (.goto t)) W3 hk3
        exact ⟨_, _, hr, .inr ⟨rfl, .goto t, (hIx _).putObj (s := ()) _ hi3 (by omega) hl3 rfl, hl4, hk4⟩, hT4⟩
      | panic ch => exact hp.elim
      | outgrown => exact hp.elim
    · -- BEHIND THE ITERATOR
      rintro e W2 ⟨⟨v, rfl⟩, (⟨hi, hl, hk⟩ | ⟨c, hi, hl, hk⟩)⟩
      · exact ⟨none, _, by have := run_endLoop (P := P) hl (by rw [hrec]; simp); rw [hrec] at this; exact this, hdone _ _ (Nat.le_refl _) (hI.less (hI.putObj _ hi (by omega) hl rfl) (fun k hk => by rw [hT1]; exact .inl hk)) ((World.putObj_heap_other (by omega)).trans hk)⟩
      · exact ⟨some c, _, by have := run_endLoop (P := P) hl (by rw [hrec]; simp); rw [hrec] at this; exact this, (wpIn_wide (n := 0)).2 (hstop _ c _ (Nat.le_refl _) ((hIx c).putObj (s := ()) _ hi (by omega) hl rfl) ((World.putObj_heap_other (by omega)).trans hk))⟩
attribute [local go_sem] Oper.semAt_some

/-- A call of yield with two arguments, under a wide fence. -/
theorem listIn_yield2 {P : Program} {ops : Array Oper} {Q : Exit → Act → World → Prop} {r : Option Nat} {o : Oper} {rest : List Oper} {a : Act} {W : World} {R : Ending → World → Prop} {l : Nat} (x y z : Operand) (ts : Array TypeId) (hgd : o.guard = none) (ho : o.op = .call { callee := .value x, args := #[y, z], argTypes := ts })
    (hx : a.eval x = .func (.yield l) #[] #[]) {v u : Value} (hy : a.eval y = v) (hz : a.eval z = u) (hY : YieldAt Fence.wide 0 P l #[v, u] W R)
    (h : ∀ v W', R (.returned v) W' → wpListIn { Fence.wide with round := r } 0 P ops Q rest (a.put o.dst v) W') (hp : ∀ c W', ¬ R (.panicked c) W') (hg : ∀ W', ¬ R .outgrown W') : wpListIn { Fence.wide with round := r } 0 P ops Q (o :: rest) a W := by
  refine wpListIn_plain hgd fun K hK => ⟨fun _ _ => trivial, ?_⟩
  have hs : o.semAt r a.eval = execOp a.eval o := by
    cases r with
    | none => rfl
    | some l₀ => exact Oper.semAt_some l₀ _ _ (by rw [ho]; simp)
  obtain ⟨fn, tmps, assign, body, hrun, hR⟩ := hY
  have hrun2 : (execOp a.eval o).run P W = .ok (.round l fn tmps assign body) W := by
    unfold execOp
    simp [ho, resolve, invoke, hx, hy, hz, Deferred.ofValue, hrun, Sem.run_bind, Result.andThen]
  show o.uponIn _ 0 P a K Q ((o.semAt r a.eval).run P W)
  rw [hs, hrun2]
  refine ⟨fun h => by simp [Fence.wide] at h, RoundIn.mono (F := { Fence.wide with round := r }) hR ?_⟩
  rintro (v | c | _) W' hr
  · exact hK _ _ (h v W' hr)
  · exact (hp _ _ hr).elim
  · exact (hg _ hr).elim
set_option maxHeartbeats 4000000 in
set_option maxRecDepth 100000 in
theorem hand_61 (q l k : Nat) (y : JR) (A : Option Addr) (c : Nat) (at_ : Int) (W : World) (R : Ending → World → Prop) (hq : W.cell? ⟨q, 0, none⟩ = some (.func (.yield l) #[] #[]))
    (hY : YieldAt Fence.wide 0 Try.prog l (jargs k y A c) (W.alloc (.cells (y.cells A c) 28)) R) (hR : ∀ e W', R e W' → ∃ b, e = .returned (.bool b)) :
    Calls Try.prog 61 #[.int .i64 ((k : Int) + 1), .int .i64 at_, .agg (y.cells A c), .pointer (some ⟨q, 0, none⟩)] W R := by
  have HY := Aside0.mk hY
  have HR := Aside0.mk hR
  have HQ := Aside0.mk hq
  clear hY hR hq
  go_enter Try.func61, Try.ntmps61
  go_upto_region 1 with (fail)
  have h42 : (W.alloc (.cells (y.cells A c) 28)).cell? ⟨q, 0, none⟩ = some (.func (.yield l) #[] #[]) := pw_cell_below (below_alloc (Below.refl _ _) _) HQ.out
  have HB := Aside0.mk (heap_alloc_new W (.cells (y.cells A c) 28))
  obtain ⟨W1, hW1⟩ : ∃ W1, W1 = W.alloc (.cells (y.cells A c) 28) := ⟨_, rfl⟩
  obtain ⟨g, hg⟩ : ∃ g, g = W.heap.size := ⟨_, rfl⟩
  rw [← hW1, ← hg] at HB
  rw [← hW1] at HY h42
  rw [← hW1, ← hg]
  clear hW1 hg
  have b0 := (blk_cell HB.out 0).trans rfl
  have b1 := (blk_cell HB.out 1).trans rfl
  have b2 := (blk_cell HB.out 2).trans rfl
  have b3 := (blk_cell HB.out 3).trans rfl
  have b4 := (blk_cell HB.out 4).trans rfl
  have b5 := (blk_cell HB.out 5).trans rfl
  have b6 := (blk_cell HB.out 6).trans rfl
  have b7 := (blk_cell HB.out 7).trans rfl
  have b8 := (blk_cell HB.out 8).trans rfl
  have b9 := (blk_cell HB.out 9).trans rfl
  have b10 := (blk_cell HB.out 10).trans rfl
  have b11 := (blk_cell HB.out 11).trans rfl
  have b12 := (blk_cell HB.out 12).trans rfl
  have hu28 := Try.underlying28
  have hu26 := Try.underlying26
  have hu24 := Try.underlying24
  refine (wpIn_wide (n := 0)).1 ?_
  refine wpIn_region_lit ?_
  refine listIn_value (r := none) (W1 := W1) (v := .func (.yield l) #[] #[]) rfl (by simp) ?_ ?_
  · go_simp
  refine listIn_value (r := none) (W1 := W1) (v := .int .i64 ((k : Int) + 1)) rfl (by simp) (by rfl) ?_
  refine listIn_value (r := none) (W1 := W1) (v := .agg (y.cells A c)) rfl (by simp) ?_ ?_
  · go_simp
  refine listIn_yield2 (r := none) (.tmp 8) (.tmp 9) (.tmp 10) _ rfl rfl (by rfl) (by rfl) (by rfl) HY.out ?_ (fun c W' h => by obtain ⟨b, hb⟩ := HR.out _ _ h; cases hb) (fun W' h => by obtain ⟨b, hb⟩ := HR.out _ _ h; cases hb)
  intro v W' hR
  obtain ⟨b, hb⟩ := HR.out _ _ hR
  cases hb
  have HRR := Aside0.mk hR
  clear b0 b1 b2 b3 b4 b5 b6 b7 b8 b9 b10 b11 b12 h42 hR HB
  refine listIn_value (r := none) rfl (by simp) (by rfl) ?_
  refine wpListIn_nil ?_
  go_wp2
  refine bodyPost_ret (results_tmp rfl _ _ _) rfl ?_
  exact HRR.out
theorem wr_k2 {k : Nat} (h : k ≤ 1000000000) : wrap64 ((k : Int) + 1 + 1) = ((k + 1 : Nat) : Int) + 1 := by unfold wrap64; omega
set_option maxHeartbeats 16000000 in
set_option maxRecDepth 100000 in
theorem walked_W (N0 q l : Nat) (A : Option Addr) (n c : Nat) (lb : List Int) (L : List JR) (J : (Nat → Prop) → Nat → World → Prop) (Jx : World → Prop) (T0 : Nat → Prop) (W : World)
    (hn : lb.length = n) (hc : n ≤ c) (hmx : n ≤ 1000000000) (hWk : Walks lb 0 0 L) (hJ : TOwn N0 J) (hT0 : ∀ j, T0 j → j < W.heap.size) (hD : ∀ T k W, J T k W → C8 W A n lb) (hTq : T0 q) (hq0 : N0 ≤ q)
    (hq : W.heap[q]? = some (.cells #[.func (.yield l) #[] #[]] 42 (0, 0)))
    (hY : ∀ T k y A c okx W1, (∀ j, T0 j → T j) → (∀ j, T j → j < W1.heap.size) → L[k]? = some y → J (fun j => T j ∨ okx j) k W1 → Handed N0 T y A c okx W1 →
      YieldAt Fence.wide 0 Try.prog l (jargs k y A c) W1 fun e W' => ((e = .returned (.bool true) ∧ J T (k + 1) W') ∨ (e = .returned (.bool false) ∧ Jx W')) ∧ ∀ j, T j → N0 ≤ j → j < W1.heap.size → W'.heap[j]? = W1.heap[j]?)
    (h0 : J T0 0 W) :
    Calls Try.prog 60 #[.slice A n c, .func (.func 61) #[] #[.pointer (some ⟨q, 0, none⟩)]] W fun e W' => (∃ v, e = .returned v) ∧ (J T0 L.length W' ∨ Jx W') := by
  have HN := Aside0.mk hn
  have HC := Aside0.mk hc
  have HM := Aside0.mk hmx
  have HJ := Aside0.mk hJ
  have HD := Aside0.mk hD
  have HT0 := Aside0.mk hT0
  have HTq := Aside0.mk hTq
  have HQ0 := Aside0.mk hq0
  have HQ := Aside0.mk hq
  have HY := Aside0.mk hY
  have H0 := Aside0.mk h0
  have HW := Aside0.mk hWk
  clear hn hc hmx hJ hD hT0 hTq hq0 hq hY h0 hWk
  go_enter Try.func60, Try.ntmps60
  go_wp2
  go_loopg [4, 5] L.length (fun kq v4 v5 wr => ∃ (k at_ : Nat) (pre L' : List JR), v4 = .int .i64 (at_ : Int) ∧ v5 = .int .i64 ((k : Int) + 1) ∧ Aside0 (L'.length = kq ∧ L = pre ++ L' ∧ pre.length = k) ∧ Aside0 (Walks lb at_ k L') ∧ at_ ≤ n ∧ 20 * k ≤ at_ ∧ Aside0 (J T0 k wr) ∧ Aside0 (wr.heap[q]? = some (.cells #[.func (.yield l) #[] #[]] 42 (0, 0))) ∧ Aside0 (∀ j, T0 j → j < wr.heap.size))
  case atStart => exact ⟨0, 0, [], L, rfl, rfl, ⟨rfl, rfl, rfl⟩, HW, by omega, by omega, H0, HQ, HT0⟩
  case round =>
    obtain ⟨k, at_, pre, L', rfl, rfl, HL, HWK, hatn, hat, HJK, HQK, HTK⟩ := hrel
    have hk1 : decide ((k : Int) + 1 ≤ 2147483647) = true := decide_eq_true (by have := HM.out; omega)
    obtain ⟨Aa, hca, hCa⟩ := cutf8 (A := A) (n := n) (c := c) (xs := lb) at_ (by omega) HC.out
    have HCA := Aside0.mk (hCa wr (HD.out T0 k wr HJK.out))
    have HAT := Aside0.mk (And.intro hatn hat)
    clear hCa
    cases L' with
    | nil =>
      have hr := HWK.out
      go_wp2_with fail
      refine (hr wr Aa (n - at_) (c - at_) (by rw [List.length_drop, HN.out]) (Nat.sub_le_sub_right HC.out at_) HCA.out).mono ?_
      rintro e w2 ⟨rfl, hb⟩
      have HB := Aside0.mk hb
      clear hb hr
      go_wp2
      refine bodyPost_ret (results_none rfl _ _ _) rfl ?_
      refine ⟨⟨_, rfl⟩, .inl ?_⟩
      obtain ⟨h1, h2, h3⟩ := HL.out
      rw [h2, List.append_nil, h3]
      exact (HJ.out T0 k wr _ none _ HJK.out (grown_of_below (below_alloc HB.out _) none) (fun r e => by cases e) (fun j hj => .inl hj))
    | cons y L2 =>
      obtain ⟨m, hr, hm20, hle, hrest⟩ := HWK.out
      have HREST := Aside0.mk hrest
      have HM20 := Aside0.mk (And.intro hm20 hle)
      have hwa : wrap64 ((at_ : Int) + (m : Int)) = ((at_ + m : Nat) : Int) := by have := HM.out; have := HN.out; exact (by unfold wrap64; omega)
      clear hrest hm20 hle hatn hat
      go_wp2_with fail
      refine (hr wr Aa (n - at_) (c - at_) (by rw [List.length_drop, HN.out]) (Nat.sub_le_sub_right HC.out at_) HCA.out).mono ?_
      rintro e w2 ⟨B, cb, rfl, ho, hb⟩
      have HB := Aside0.mk hb
      have HO := Aside0.mk ho
      clear hb hr ho
      go_wp2_with fail
      obtain ⟨W2, hW2⟩ : ∃ W2, W2 = w2.alloc (.cells (y.cells B cb) 28) := ⟨_, rfl⟩
      obtain ⟨W3, hW3⟩ : ∃ W3, W3 = W2.alloc (.cells (y.cells B cb) 28) := ⟨_, rfl⟩
      have HB2 := Aside0.mk (show Below wr.heap.size wr W2 by rw [hW2]; exact below_alloc HB.out _)
      have HB3 := Aside0.mk (show Below wr.heap.size wr W3 by rw [hW3]; exact below_alloc HB2.out _)
      have HW23 := Aside0.mk (show Below w2.heap.size w2 W3 by rw [hW3]; exact below_alloc (show Below w2.heap.size w2 W2 by rw [hW2]; exact below_alloc (Below.refl _ _) _) _)
      have hyld := HY.out T0 k y B cb (fun j => wr.heap.size ≤ j ∧ j < w2.heap.size) W3 (fun j h => h) (fun j hj => Nat.lt_of_lt_of_le (HTK.out j hj) HB3.out.size)
        (by obtain ⟨_, h2, h3⟩ := HL.out; rw [h2, ← h3]; simp)
        (HJ.out T0 k wr W3 none _ HJK.out (grown_of_below HB3.out none) (fun r e => by cases e) (fun j hj => hj.imp_right (fun h => ⟨h.1, Nat.lt_of_lt_of_le h.2 HW23.out.size⟩)))
        ⟨Kd.R_lower (Kd.R_below (Kd.R_mono (Kd.R_bound HO.out) (fun j hj => ⟨hj.2.1, hj.2.2.1⟩)) HW23.out) (Nat.le_trans HQ0.out (Nat.le_of_lt (blk_lt HQK.out))), fun j hj => ⟨fun h => absurd (HTK.out j h) (Nat.not_lt.2 hj.1), Nat.le_trans (Nat.le_trans HQ0.out (Nat.le_of_lt (blk_lt HQK.out))) hj.1, Nat.lt_of_lt_of_le hj.2 HW23.out.size⟩⟩
      have HYL := Aside0.mk hyld
      have hq2 : W2.cell? ⟨q, 0, none⟩ = some (.func (.yield l) #[] #[]) := (blk_cell ((HB2.out.block q (blk_lt HQK.out)).trans HQK.out) 0).trans rfl
      clear hyld
      rw [← hW2]
      refine (hand_61 q l k y B cb _ W2 _ hq2 (by rw [← hW3]; exact HYL.out) (by rintro e W' ⟨(⟨rfl, _⟩ | ⟨rfl, _⟩), _⟩ <;> exact ⟨_, rfl⟩)).mono ?_
      rintro e W' ⟨(⟨rfl, hj⟩ | ⟨rfl, hjx⟩), hT⟩
      · have HJ' := Aside0.mk hj
        have HQ' := Aside0.mk (show W'.heap[q]? = some (.cells #[.func (.yield l) #[] #[]] 42 (0, 0)) from (hT q HTq.out HQ0.out (Nat.lt_of_lt_of_le (blk_lt HQK.out) HB3.out.size)).trans ((HB3.out.block q (blk_lt HQK.out)).trans HQK.out))
        have HTK' := Aside0.mk (show ∀ j, T0 j → j < W'.heap.size from fun j hj => by
          by_cases hjn : N0 ≤ j
          · have h1 := hT j hj hjn (Nat.lt_of_lt_of_le (HTK.out j hj) HB3.out.size)
            rw [Array.getElem?_eq_getElem (Nat.lt_of_lt_of_le (HTK.out j hj) HB3.out.size)] at h1
            exact (Array.getElem?_eq_some_iff.1 h1).1
          · exact Nat.lt_trans (Nat.lt_of_lt_of_le (Nat.lt_of_not_le hjn) HQ0.out) (blk_lt HQ'.out))
        clear hj hT hq2 hW2 hW3
        go_wp2
        go_roundg L2.length
        case measure => have := HL.out.1; simp at this; omega
        case rel => exact ⟨k + 1, at_ + m, pre ++ [y], L2, by simp, by rw [wr_k2 (by have h1 := HM20.out; have h2 := HAT.out; have h3 := HM.out; omega)], ⟨rfl, by rw [HL.out.2.1]; simp, by simp [HL.out.2.2]⟩, HREST, by have := HM20.out; have := HN.out; omega, by have := HM20.out; have := HAT.out; omega, HJ', HQ', HTK'⟩
      · have HJX := Aside0.mk hjx
        clear hjx hT hq2 hW2 hW3
        go_wp2
        refine bodyPost_ret (results_none rfl _ _ _) rfl ?_
        exact ⟨⟨_, rfl⟩, .inr HJX.out⟩
set_option maxHeartbeats 4000000 in
set_option maxRecDepth 100000 in
/-- Walk's iterator meets the contract. -/
theorem it59 (Bn : Nat) (A : Option Addr) (n c : Nat) (lb : List Int) (L : List JR) (W : World) (hn : lb.length = n) (hc : n ≤ c) (hmx : n ≤ 1000000000) (hWk : Walks lb 0 0 L) (hbox : W.cell? ⟨Bn, 0, none⟩ = some (.slice A n c)) :
    ItWalk Try.prog 59 Bn (fun W => C8 W A n lb) L W := by
  intro l J Jx T0 hJ hJx hT0 hD hY h0
  have HN := Aside0.mk hn
  have HC := Aside0.mk hc
  have HM := Aside0.mk hmx
  have HW := Aside0.mk hWk
  have HJ := Aside0.mk hJ
  have HT0 := Aside0.mk hT0
  have HD := Aside0.mk hD
  have HY := Aside0.mk hY
  have H0 := Aside0.mk h0
  have hmf : ∀ (fn : Fn) (first cap : Array Value) (w : World), (Instr.makeFunc fn first cap).run Try.prog w = .ok (.func fn first cap) w := fun _ _ _ _ => rfl
  clear hn hc hmx hWk hJ hJx hT0 hD hY h0
  go_enter Try.func59, Try.ntmps59
  go_upto_region 1 with (fail)
  have hb1 : (W.alloc (.cells #[.func (.yield l) #[] #[]] 42)).cell? ⟨Bn, 0, none⟩ = some (.slice A n c) := pw_cell_below (below_alloc (Below.refl _ _) _) hbox
  have HQ := Aside0.mk (heap_alloc_new W (.cells #[.func (.yield l) #[] #[]] 42))
  have HJ1 := Aside0.mk (HJ.out.alloc (.cells #[.func (.yield l) #[] #[]] 42) H0.out (T' := fun j => T0 j ∨ j = W.heap.size) (fun j hj => hj))
  have HS := Aside0.mk (show (W.alloc (.cells #[.func (.yield l) #[] #[]] 42)).heap.size = W.heap.size + 1 by simp)
  clear hbox
  go_wp2_with fail
  refine (walked_W W.heap.size W.heap.size l A n c lb L J Jx (fun j => T0 j ∨ j = W.heap.size) _ HN.out HC.out HM.out HW.out HJ.out
    (fun j hj => by rw [HS.out]; rcases hj with h | h; (have := HT0.out j h; omega); omega) HD.out (.inr rfl) (Nat.le_refl _) HQ.out
    (fun T k y A2 c2 okx W1 hT hlt hy hj hh => HY.out T k y A2 c2 okx W1 (fun j hj => hT j (.inl hj)) hlt hy hj hh) HJ1.out).mono ?_
  rintro e W' ⟨⟨v, rfl⟩, h⟩
  have HZ := Aside0.mk h
  clear h
  go_wp2
  go_end0
  exact ⟨⟨_, rfl⟩, HZ.out.imp_left (fun h => HJ.out.less h (fun j hj => .inl hj))⟩

theorem recEnc_len (kd s v k se rq : Int) (l : List S40) (vn vp vb st of : Int) (x : ByteArray) (sq : Int) : (recEnc sq kd s v k se rq l vn vp vb st of x).1.length ≤ 4000000 := by
  have hb := recBody_len kd s v k se rq l vn vp vb st of x
  unfold recEnc
  split
  · simp
  · split
    · unfold recBytes
      rw [withSum_len, List.length_append, withSum_len, recHead_len]
      omega
    · simp
theorem num_N (a : Int) (w : World) : Calls Try.prog 14 #[.int .i64 a] w fun e w' => e = .returned (.int .i64 a) ∧ Drawn0 w w' := heraldlaw7_num.calls a a w rfl
theorem R40_C {W : World} {base n c : Nat} {A : Option Addr} {l : List S40} (h : R40 W base (.slice A n c) l) : Kd.C k40 W A n l := by
  have h2 := Kd.R_reads' h
  have hn := h2.1
  subst hn
  exact h2.2.2
theorem R40_other {W w1 : World} {base q : Nat} {v : Value} {l : List S40} {cs : Array Value} (h : R40 W base v l) (hq : W.heap[q]? = some (.cells cs 28 (0, 0))) (hg : W.grownBy w1 (some q)) : R40 w1 base v l := by
  have h2 := Kd.R_types h hq (t := 28) (fun t ht => by rw [k40_only ht]; decide)
  exact Kd.R_mono (Kd.R_grown h2 hg (fun k hk e => hk.2 (by cases e; rfl))) (fun _ _ => trivial)
section
variable {ops : Array Oper} {o : Oper} {a : Act} {Q : Exit → Act → World → Prop} {rest : List Oper} {W : World}
end
section
variable {ops : Array Oper} {o : Oper} {a : Act} {Q : Exit → Act → World → Prop} {rest : List Oper} {W : World}
/-- A struct stored into a block that is known whole. -/
theorem store_blk (hN : o.dst = none) (hgd : o.guard = none) (t : TypeId) (p x : Operand) (ho : o.op = .store t p x) {q i e : Nat} {cur cur' : Array Value} (cs : List Value) (haddr : a.eval p = .pointer (some ⟨q, i, none⟩)) (hx : a.eval x = .agg cs.toArray)
    (hc : (Value.agg cs.toArray).cells.toList = cs) (ht : (Try.prog.info? t).map (·.size) = some cs.length) (h1 : ∀ u ∈ cs, u.oneCell' = true) (hh : W.heap[q]? = some (.cells cur e (0, 0))) (hfit : i + cs.length ≤ cur.size)
    (hcur : cur.toList.take i ++ cs ++ cur.toList.drop (i + cs.length) = cur'.toList)
    (h : ∀ w1, w1.heap[q]? = some (.cells cur' e (0, 0)) → W.grownBy w1 (some q) → wpList Try.prog ops Q rest a w1) : Stop (wpList Try.prog ops Q (o :: rest) a W) := by
  obtain ⟨cur2, k1, k2, k3⟩ := setCells_row cs i W cur hh hfit
  have e2 : cur2 = cur' := by
    apply Array.toList_inj.1
    rw [k3, hcur]
  subst e2
  obtain ⟨s1, s2, s3, s4⟩ := setCells_same q cs i W
  refine wpList_plain hgd fun K hK => ?_
  have hrun := run_store_run (P := Try.prog) t (.agg cs.toArray) cs hh hc ht hfit h1
  unfold Oper.wp execOp
  simp only [ho, haddr, hx, Sem.run_bind, Sem.run_pure, Result.andThen_ok, hrun]
  show K (a.put o.dst undef) _
  rw [hN]
  exact hK a _ (h _ k1 ⟨s1, s2, s3, Nat.le_of_eq s4.symm, fun k _ hk => setCells_far cs i k (fun e => hk (by rw [e]))⟩)
end

/-- What a Saved holds: view, matched, stamp, of, state, entries, commit. -/
abbrev savedCells (vn vp vb ma st of : Int) (x : ByteArray) (E : Option Addr) (ne ce : Nat) (co : Int) : Array Value := #[.int .i64 vn, .int .i64 vp, .int .i64 vb, .int .i64 ma, .int .i64 st, .int .i64 of, .string x, .slice E ne ce, .int .i64 co]
set_option maxHeartbeats 4000000 in
set_option maxRecDepth 100000 in
theorem known_view (s v k se rq : Int) (A : Option Addr) (n c : Nat) (vn vp vb st of : Int) (x : ByteArray) (w : World) :
    Calls Try.prog 36 #[.agg (recCells 2 s v k se rq A n c vn vp vb st of x)] w fun e w' => e = .returned (.iface 113 (.agg #[.int .i64 vn, .int .i64 vp, .int .i64 vb])) ∧ Below w.heap.size w w' := by
  have hu28 := Try.underlying28
  have hu26 := Try.underlying26
  have hu24 := Try.underlying24
  have hu113 := Try.underlying113
  go_enter Try.func36, Try.ntmps36
  go_wp2_with fail
  refine bodyPost_ret (results_tmp rfl _ _ _) rfl ?_
  exact ⟨rfl, below_alloc (Below.refl _ _) _⟩
set_option maxHeartbeats 4000000 in
set_option maxRecDepth 100000 in
theorem fits_view (vn vp vb : Int) (p : Nat) (cs : Array Value) (sn : Int) (b : Bool) (w : World) (hp : w.heap[p]? = some (.cells cs 53 (0, 0))) (hs : cs[0]? = some (.int .i64 sn)) :
    Calls Try.prog 127 #[.agg #[.int .i64 vn, .int .i64 vp, .int .i64 vb], .pointer (some ⟨p, 0, none⟩), .bool b] w fun e w' => e = .returned (.bool (decide (sn < vn))) ∧ Below w.heap.size w w' := by
  have hu113 := Try.underlying113
  have hc := (blk_cell hp 0).trans hs
  go_enter Try.func127, Try.ntmps127
  go_wp2_with fail
  obtain ⟨g, hg⟩ : ∃ g, g = w.heap.size := ⟨_, rfl⟩
  obtain ⟨w1, hw1⟩ : ∃ w1, w1 = w.alloc (.cells #[.int .i64 vn, .int .i64 vp, .int .i64 vb] 113) := ⟨_, rfl⟩
  rw [← hw1, ← hg]
  have hb1 : Below w.heap.size w w1 := by rw [hw1]; exact below_alloc (Below.refl _ _) _
  have hg1 : w1.heap[g]? = some (.cells #[.int .i64 vn, .int .i64 vp, .int .i64 vb] 113 (0, 0)) := by rw [hw1, hg]; exact heap_alloc_new w _
  have HB := Aside0.mk hb1
  have q0 : w1.cell? ⟨g, 0, none⟩ = some (.int .i64 vn) := blk_cell hg1 0
  have q1 : w1.cell? ⟨p, 0, none⟩ = some (.int .i64 sn) := pw_cell_below hb1 hc
  clear hw1 hg hb1 hg1 hc hp hs
  go_quiet (fail)
  go_wp2; go_ret
  exact ⟨rfl, below_then HB.out HB.out.size (Drawn0.below ⟨⟨nq, rfl⟩⟩)⟩
set_option maxHeartbeats 4000000 in
set_option maxRecDepth 100000 in
theorem says_view (vn vp vb : Int) (p : Nat) (a1 a2 a3 ma st of : Int) (x : ByteArray) (E : Option Addr) (ne ce : Nat) (co : Int) (w : World) (hp : w.heap[p]? = some (.cells (savedCells a1 a2 a3 ma st of x E ne ce co) 53 (0, 0))) :
    Calls Try.prog 128 #[.agg #[.int .i64 vn, .int .i64 vp, .int .i64 vb], .pointer (some ⟨p, 0, none⟩)] w fun e w' => (∃ v, e = .returned v) ∧ w'.heap[p]? = some (.cells (savedCells vn vp vb ma st of x E ne ce co) 53 (0, 0)) ∧ Frm w w' (fun k => k = p) := by
  have hu113 := Try.underlying113
  go_enter Try.func128, Try.ntmps128
  go_wp2_with (with_reducible refine stop_store rfl ?_)
  have HB := Aside0.mk (show Below w.heap.size w (w.alloc (.cells #[.int .i64 vn, .int .i64 vp, .int .i64 vb] 113)) from below_alloc (Below.refl _ _) _)
  have HP := Aside0.mk ((HB.out.block p (blk_lt hp)).trans hp)
  refine store_blk rfl rfl 26 _ _ rfl (q := p) (i := 0) (cur' := savedCells vn vp vb ma st of x E ne ce co) [.int .i64 vn, .int .i64 vp, .int .i64 vb] rfl rfl rfl (by kernel_rfl) (by intro u hu; simp at hu; rcases hu with rfl | rfl | rfl <;> rfl) HP.out (by simp) rfl ?_
  intro w2 hp2 hg2; go_wp2
  go_end0
  refine ⟨⟨_, rfl⟩, hp2, ?_⟩
  exact (Frm.of_below HB.out (fun k => k = p)).then_ (Frm.of_grown (S := fun k => k = p) hg2 (fun k e => (Option.some.inj e).symm)) (fun k h _ => h)

abbrev zJ : JR := ⟨0, 0, 0, 0, 0, 0, [], 0, 0, 0, 0, 0, ⟨#[]⟩⟩
def kJ : Kd JR := Kd.iso (Kd.pair (Kd.int .i64) (Kd.pair (Kd.int .i64) (Kd.pair (Kd.int .i64) (Kd.pair (Kd.int .i64) (Kd.pair (Kd.int .i64) (Kd.pair (Kd.int .i64) (Kd.pair (Kd.slice 40 k40) (Kd.pair (Kd.int .i64) (Kd.pair (Kd.int .i64) (Kd.pair (Kd.int .i64) (Kd.pair (Kd.int .i64) (Kd.pair (Kd.int .i64) (Kd.string))))))))))))) (fun y : JR => (y.kd, y.s, y.v, y.k, y.se, y.rq, y.ops, y.vn, y.vp, y.vb, y.st, y.of, y.x))
abbrev recL (y : JR) (V : Value) : List Value := [.int .i64 y.kd, .int .i64 y.s, .int .i64 y.v, .int .i64 y.k, .int .i64 y.se, .int .i64 y.rq, V, .int .i64 y.vn, .int .i64 y.vp, .int .i64 y.vb, .int .i64 y.st, .int .i64 y.of, .string y.x]
theorem kJ_open {w : World} {y : JR} {cs : List Value} (h : kJ.K w y cs) : ∃ A c, cs = recL y (.slice A y.ops.length c) ∧ y.ops.length ≤ c ∧ Kd.C k40 w A y.ops.length y.ops := by
  obtain ⟨_, _, rfl, rfl, ⟨_, _, rfl, rfl, ⟨_, _, rfl, rfl, ⟨_, _, rfl, rfl, ⟨_, _, rfl, rfl, ⟨_, _, rfl, rfl, ⟨_, _, rfl, ⟨A, c, rfl, l5, g5⟩, ⟨_, _, rfl, rfl, ⟨_, _, rfl, rfl, ⟨_, _, rfl, rfl, ⟨_, _, rfl, rfl, ⟨_, _, rfl, rfl, rfl⟩⟩⟩⟩⟩⟩⟩⟩⟩⟩⟩⟩ := h
  exact ⟨A, c, rfl, l5, g5⟩
theorem kJ_mk (w : World) (y : JR) {A : Option Addr} {c : Nat} (l5 : y.ops.length ≤ c) (g5 : Kd.C k40 w A y.ops.length y.ops) : kJ.K w y (recL y (.slice A y.ops.length c)) := ⟨[.int .i64 y.kd], [.int .i64 y.s, .int .i64 y.v, .int .i64 y.k, .int .i64 y.se, .int .i64 y.rq, .slice A y.ops.length c, .int .i64 y.vn, .int .i64 y.vp, .int .i64 y.vb, .int .i64 y.st, .int .i64 y.of, .string y.x], rfl, rfl, ⟨[.int .i64 y.s], [.int .i64 y.v, .int .i64 y.k, .int .i64 y.se, .int .i64 y.rq, .slice A y.ops.length c, .int .i64 y.vn, .int .i64 y.vp, .int .i64 y.vb, .int .i64 y.st, .int .i64 y.of, .string y.x], rfl, rfl, ⟨[.int .i64 y.v], [.int .i64 y.k, .int .i64 y.se, .int .i64 y.rq, .slice A y.ops.length c, .int .i64 y.vn, .int .i64 y.vp, .int .i64 y.vb, .int .i64 y.st, .int .i64 y.of, .string y.x], rfl, rfl, ⟨[.int .i64 y.k], [.int .i64 y.se, .int .i64 y.rq, .slice A y.ops.length c, .int .i64 y.vn, .int .i64 y.vp, .int .i64 y.vb, .int .i64 y.st, .int .i64 y.of, .string y.x], rfl, rfl, ⟨[.int .i64 y.se], [.int .i64 y.rq, .slice A y.ops.length c, .int .i64 y.vn, .int .i64 y.vp, .int .i64 y.vb, .int .i64 y.st, .int .i64 y.of, .string y.x], rfl, rfl, ⟨[.int .i64 y.rq], [.slice A y.ops.length c, .int .i64 y.vn, .int .i64 y.vp, .int .i64 y.vb, .int .i64 y.st, .int .i64 y.of, .string y.x], rfl, rfl, ⟨[.slice A y.ops.length c], [.int .i64 y.vn, .int .i64 y.vp, .int .i64 y.vb, .int .i64 y.st, .int .i64 y.of, .string y.x], rfl, ⟨A, c, rfl, l5, g5⟩, ⟨[.int .i64 y.vn], [.int .i64 y.vp, .int .i64 y.vb, .int .i64 y.st, .int .i64 y.of, .string y.x], rfl, rfl, ⟨[.int .i64 y.vp], [.int .i64 y.vb, .int .i64 y.st, .int .i64 y.of, .string y.x], rfl, rfl, ⟨[.int .i64 y.vb], [.int .i64 y.st, .int .i64 y.of, .string y.x], rfl, rfl, ⟨[.int .i64 y.st], [.int .i64 y.of, .string y.x], rfl, rfl, ⟨[.int .i64 y.of], [.string y.x], rfl, rfl, rfl⟩⟩⟩⟩⟩⟩⟩⟩⟩⟩⟩⟩
def rd_J (xs : List JR) (i : Int) : JR := xs.getD i.toNat zJ
theorem at_J {w : World} {A : Option Addr} {n : Nat} {xs : List JR} (h : Kd.C kJ w A n xs) (i : Int) (h0 : 0 ≤ i) (h1 : i < n) : ∃ ad A1 c1, A = some ad ∧ w.cell? (ad.add (i.toNat * 13)) = some (.int .i64 (rd_J xs i).kd) ∧ w.cell? ⟨(ad.add (i.toNat * 13)).block, (ad.add (i.toNat * 13)).off + 1, none⟩ = some (.int .i64 (rd_J xs i).s) ∧ w.cell? ⟨(ad.add (i.toNat * 13)).block, (ad.add (i.toNat * 13)).off + 2, none⟩ = some (.int .i64 (rd_J xs i).v) ∧ w.cell? ⟨(ad.add (i.toNat * 13)).block, (ad.add (i.toNat * 13)).off + 3, none⟩ = some (.int .i64 (rd_J xs i).k) ∧ w.cell? ⟨(ad.add (i.toNat * 13)).block, (ad.add (i.toNat * 13)).off + 4, none⟩ = some (.int .i64 (rd_J xs i).se) ∧ w.cell? ⟨(ad.add (i.toNat * 13)).block, (ad.add (i.toNat * 13)).off + 5, none⟩ = some (.int .i64 (rd_J xs i).rq) ∧ w.cell? ⟨(ad.add (i.toNat * 13)).block, (ad.add (i.toNat * 13)).off + 6, none⟩ = some (.slice A1 (rd_J xs i).ops.length c1) ∧ w.cell? ⟨(ad.add (i.toNat * 13)).block, (ad.add (i.toNat * 13)).off + 7, none⟩ = some (.int .i64 (rd_J xs i).vn) ∧ w.cell? ⟨(ad.add (i.toNat * 13)).block, (ad.add (i.toNat * 13)).off + 8, none⟩ = some (.int .i64 (rd_J xs i).vp) ∧ w.cell? ⟨(ad.add (i.toNat * 13)).block, (ad.add (i.toNat * 13)).off + 9, none⟩ = some (.int .i64 (rd_J xs i).vb) ∧ w.cell? ⟨(ad.add (i.toNat * 13)).block, (ad.add (i.toNat * 13)).off + 10, none⟩ = some (.int .i64 (rd_J xs i).st) ∧ w.cell? ⟨(ad.add (i.toNat * 13)).block, (ad.add (i.toNat * 13)).off + 11, none⟩ = some (.int .i64 (rd_J xs i).of) ∧ w.cell? ⟨(ad.add (i.toNat * 13)).block, (ad.add (i.toNat * 13)).off + 12, none⟩ = some (.string (rd_J xs i).x) ∧ (rd_J xs i).ops.length ≤ c1 ∧ Kd.C k40 w A1 (rd_J xs i).ops.length (rd_J xs i).ops := by
  obtain ⟨ad, c, e, _, hK, hc0⟩ := Kd.C_get h zJ i h0 h1
  have hc : ∀ j u, c[j]? = some u → w.cell? (ad.add (i.toNat * 13 + j)) = some u := hc0
  obtain ⟨A1, c1, rfl, l5, g5⟩ := kJ_open hK
  exact ⟨ad, A1, c1, e, hc 0 _ rfl, by rw [← add_field _ _ 1 (by omega)]; exact hc 1 _ rfl, by rw [← add_field _ _ 2 (by omega)]; exact hc 2 _ rfl, by rw [← add_field _ _ 3 (by omega)]; exact hc 3 _ rfl, by rw [← add_field _ _ 4 (by omega)]; exact hc 4 _ rfl, by rw [← add_field _ _ 5 (by omega)]; exact hc 5 _ rfl, by rw [← add_field _ _ 6 (by omega)]; exact hc 6 _ rfl, by rw [← add_field _ _ 7 (by omega)]; exact hc 7 _ rfl, by rw [← add_field _ _ 8 (by omega)]; exact hc 8 _ rfl, by rw [← add_field _ _ 9 (by omega)]; exact hc 9 _ rfl, by rw [← add_field _ _ 10 (by omega)]; exact hc 10 _ rfl, by rw [← add_field _ _ 11 (by omega)]; exact hc 11 _ rfl, by rw [← add_field _ _ 12 (by omega)]; exact hc 12 _ rfl, l5, g5⟩
theorem infoJ : (Try.prog.info? 28).map (fun i => (i.zero, i.size, i.bytes)) = some (some zeroRec, 13, 128) := by kernel_rfl
theorem u43 : Try.prog.underlying 43 = some (.slice 28) := Try.underlying43

/-- What a journal has said. -/
structure SV where
  vn : Int
  vp : Int
  vb : Int
  ma : Int
  st : Int
  of : Int
  x : ByteArray
  es : List S24
  co : Int
abbrev SV.cells (s : SV) (E : Option Addr) (ne ce : Nat) : Array Value := savedCells s.vn s.vp s.vb s.ma s.st s.of s.x E ne ce s.co
def SV.lst (s : SV) : Int := s.st + s.es.length
def SV.its (s : SV) : Int := match s.es.getLast? with
  | none => s.of
  | some e => e.f1
/-- The numbers are small, and what is committed is there. -/
def SV.small (s : SV) : Prop := 0 ≤ s.st ∧ s.st ≤ 2147483647 ∧ s.es.length ≤ 1000000 ∧ s.co ≤ s.st + s.es.length
/-- The view of the entry behind j others. -/
def SV.atv (s : SV) (j : Nat) : Int := (rd_T24 s.es (j : Int)).f1
/-- Does a record fit? -/
def SV.fits (s : SV) (y : JR) (first : Bool) : Bool :=
  if y.kd = 1 then decide (y.s = s.lst + 1) && decide (s.its ≤ y.v)
  else if y.kd = 2 then decide (s.vn < y.vn)
  else if y.kd = 3 then decide (y.vn = s.vn)
  else if y.kd = 4 then decide (y.vn = s.vn)
  else if y.kd = 5 then (if first = true then true else if y.st < s.st ∨ s.co < y.st then false else decide (y.of = if s.st < y.st then s.atv (y.st - s.st - 1).toNat else s.of))
  else decide (s.co < y.st) && decide (y.st ≤ s.lst)
theorem wr_pred {i n : Nat} (h : i + 1 = n) (hn : n ≤ 1000000) : wrap64 ((n : Int) - 1) = (i : Int) := by unfold wrap64; omega
theorem wr_lst {s : Int} {n : Nat} (h0 : 0 ≤ s) (h1 : s ≤ 2147483647) (hn : n ≤ 1000000) : wrap64 (s + (n : Int)) = s + (n : Int) := by unfold wrap64; omega
theorem wr_lst1 {s : Int} {n : Nat} (h0 : 0 ≤ s) (h1 : s ≤ 2147483647) (hn : n ≤ 1000000) : wrap64 (s + (n : Int) + 1) = s + (n : Int) + 1 := by unfold wrap64; omega
theorem its_last {s : SV} {i : Nat} (h : i + 1 = s.es.length) : s.its = s.atv i := by
  unfold SV.its SV.atv rd_T24
  rw [List.getLast?_eq_getElem?, show s.es.length - 1 = i by omega, List.getElem?_eq_getElem (by omega), Int.toNat_natCast, List.getD_eq_getElem?_getD, List.getElem?_eq_getElem (by omega)]
  rfl
set_option maxHeartbeats 8000000 in
set_option maxRecDepth 100000 in
theorem last_N (w : World) (p : Nat) (s : SV) (E : Option Addr) (ne ce : Nat) (hp : w.heap[p]? = some (.cells (s.cells E ne ce) 53 (0, 0))) (hC : Kd.C k24 w E ne s.es) (hn : s.es.length = ne) (hs : s.small) :
    Calls Try.prog 62 #[.pointer (some ⟨p, 0, none⟩)] w fun e w' => e = .returned (.tuple #[.int .i64 s.lst, .int .i64 s.its]) ∧ Below w.heap.size w w' := by
  have hu53 := Try.underlying53
  have hu26 := Try.underlying26
  have hu24 := Try.underlying24
  have hb : ne ≤ 1000000 := by rw [← hn]; exact hs.2.2.1
  have c4 : w.cell? ⟨p, 4, none⟩ = some (.int .i64 s.st) := (blk_cell hp 4).trans rfl
  have c5 : w.cell? ⟨p, 5, none⟩ = some (.int .i64 s.of) := (blk_cell hp 5).trans rfl
  have c7 : w.cell? ⟨p, 7, none⟩ = some (.slice E ne ce) := (blk_cell hp 7).trans rfl
  have HS := Aside0.mk hs
  have HN := Aside0.mk hn
  clear hp hs hn
  by_cases h0 : 0 < ne
  · have d1 : decide ((0 : Int) < (ne : Int)) = true := decide_eq_true (by omega)
    have d2 : decide (0 < ne) = true := decide_eq_true h0
    obtain ⟨i, hi⟩ : ∃ i, i + 1 = ne := ⟨ne - 1, by omega⟩
    obtain ⟨ad, A5, e5, rfl, f0, f1, _⟩ := at_T24 hC (i : Int) (by omega) (by omega)
    rw [Int.toNat_natCast] at f1
    have i1 : (i < ne) = True := eq_true (by omega)
    have i2 : ((i : Int) < (ne : Int)) = True := eq_true (by omega)
    have hlast := its_last (s := s) (i := i) (by rw [HN.out]; exact hi)
    have hf1 : (rd_T24 s.es (i : Int)).f1 = s.its := hlast.symm
    rw [hf1] at f1
    have HL := Aside0.mk (show s.st + (ne : Int) = s.lst by unfold SV.lst; rw [HN.out])
    have hw1 := wr_pred hi hb
    have hw2 := wr_lst (n := ne) HS.out.1 HS.out.2.1 hb
    have hw3 : IntKind.i64.wrap ((ne : Int) - 1) = (i : Int) := (i64_w _).trans hw1
    have hw4 : IntKind.i64.wrap (s.st + (ne : Int)) = s.st + (ne : Int) := (i64_w _).trans hw2
    clear f0 hC hlast hf1 hi
    go_enter Try.func62, Try.ntmps62
    go_wp2_with fail
    go_quiet (fail)
    go_wp2
    go_ret2
    exact ⟨by rw [← HL.out]; rfl, Drawn0.below ⟨⟨nq, rfl⟩⟩⟩
  · have d1 : decide ((0 : Int) < (ne : Int)) = false := decide_eq_false (by omega)
    have d2 : decide (0 < ne) = false := decide_eq_false h0
    have hz : s.es = [] := List.eq_nil_of_length_eq_zero (by rw [HN.out]; omega)
    have HL := Aside0.mk (show s.lst = s.st ∧ s.its = s.of by unfold SV.lst SV.its; rw [hz]; simp)
    clear hC hz
    go_enter Try.func62, Try.ntmps62
    go_wp2_with fail
    go_quiet (fail)
    go_wp2
    go_ret2
    exact ⟨by rw [HL.out.1, HL.out.2]; rfl, Drawn0.below ⟨⟨nq, rfl⟩⟩⟩
set_option maxHeartbeats 8000000 in
set_option maxRecDepth 100000 in
theorem fits_entry (w : World) (p : Nat) (s : SV) (E : Option Addr) (ne ce : Nat) (hp : w.heap[p]? = some (.cells (s.cells E ne ce) 53 (0, 0))) (hC : Kd.C k24 w E ne s.es) (hn : s.es.length = ne) (hs : s.small) (a v k se rq : Int) (V : Value) (hV : ∃ A n c, V = .slice A n c) (b : Bool) :
    Calls Try.prog 125 #[.agg #[.int .i64 a, .int .i64 v, .int .i64 k, .int .i64 se, .int .i64 rq, V], .pointer (some ⟨p, 0, none⟩), .bool b] w fun e w' => e = .returned (.bool (decide (a = s.lst + 1) && decide (s.its ≤ v))) ∧ Below w.heap.size w w' := by
  obtain ⟨A, n, c, rfl⟩ := hV
  have hu112 := Try.underlying112
  have hw := wr_lst1 (n := s.es.length) hs.1 hs.2.1 hs.2.2.1
  have HP := Aside0.mk hp
  have HC := Aside0.mk hC
  have HN := Aside0.mk hn
  have HS := Aside0.mk hs
  have HW := Aside0.mk (show wrap64 (s.lst + 1) = s.lst + 1 from hw)
  clear hp hC hn hs hw
  go_enter Try.func125, Try.ntmps125
  go_wp2_with fail
  obtain ⟨g, hg⟩ : ∃ g, g = w.heap.size := ⟨_, rfl⟩
  obtain ⟨w1, hw1⟩ : ∃ w1, w1 = w.alloc (.cells #[.int .i64 a, .int .i64 v, .int .i64 k, .int .i64 se, .int .i64 rq, .slice A n c] 112) := ⟨_, rfl⟩
  rw [← hw1, ← hg]
  have HB := Aside0.mk (show Below w.heap.size w w1 by rw [hw1]; exact below_alloc (Below.refl _ _) _)
  have HG := Aside0.mk (show w1.heap[g]? = some (.cells #[.int .i64 a, .int .i64 v, .int .i64 k, .int .i64 se, .int .i64 rq, .slice A n c] 112 (0, 0)) by rw [hw1, hg]; exact heap_alloc_new w _)
  clear hw1 hg
  refine (last_N w1 p s E ne ce ((HB.out.block p (blk_lt HP.out)).trans HP.out) (Kd.C_below HC.out HB.out) HN.out HS.out).mono ?_
  rintro e w2 ⟨rfl, hb⟩
  have hg2 := (hb.block g (blk_lt HG.out)).trans HG.out
  have g0 := (blk_cell hg2 0).trans rfl
  have g1 := (blk_cell hg2 1).trans rfl
  have HZ := Aside0.mk (below_step HB.out hb)
  obtain ⟨lst, hl⟩ : ∃ lst, lst = s.lst := ⟨_, rfl⟩
  obtain ⟨its, hi⟩ : ∃ its, its = s.its := ⟨_, rfl⟩
  have HLI := Aside0.mk (And.intro hl hi)
  rw [← hl, ← hi]
  have hw := HW.out
  rw [← hl] at hw
  clear hb hg2 hl hi
  by_cases h1 : a = lst + 1
  · have e1 : decide (a = lst + 1) = true := decide_eq_true h1
    have e2 : (a == lst + 1) = true := by simpa using h1
    by_cases h2 : its ≤ v
    · have e3 : decide (its ≤ v) = true := decide_eq_true h2
      go_wp2; go_ret
      exact ⟨by rw [← HLI.out.1, ← HLI.out.2, e1, e3]; rfl, HZ.out⟩
    · have e3 : decide (its ≤ v) = false := decide_eq_false h2
      go_wp2; go_ret
      exact ⟨by rw [← HLI.out.1, ← HLI.out.2, e1, e3]; rfl, HZ.out⟩
  · have e1 : decide (a = lst + 1) = false := decide_eq_false h1
    have e2 : (a == lst + 1) = false := by simpa using h1
    go_wp2; go_ret
    exact ⟨by rw [← HLI.out.1, e1]; rfl, HZ.out⟩
set_option maxHeartbeats 8000000 in
set_option maxRecDepth 100000 in
theorem fits_matched (w : World) (p : Nat) (s : SV) (E : Option Addr) (ne ce : Nat) (hp : w.heap[p]? = some (.cells (s.cells E ne ce) 53 (0, 0))) (vn : Int) (b : Bool) :
    Calls Try.prog 129 #[.int .i64 vn, .pointer (some ⟨p, 0, none⟩), .bool b] w fun e w' => e = .returned (.bool (decide (vn = s.vn))) ∧ Below w.heap.size w w' := by
  have hu53 := Try.underlying53
  have c0 : w.cell? ⟨p, 0, none⟩ = some (.int .i64 s.vn) := (blk_cell hp 0).trans rfl
  clear hp
  by_cases h1 : vn = s.vn
  · have e1 : decide (vn = s.vn) = true := decide_eq_true h1
    have e2 : (vn == s.vn) = true := by simpa using h1
    go_enter Try.func129, Try.ntmps129
    go_wp2; go_ret
    exact ⟨by rw [e1]; rfl, Below.refl _ _⟩
  · have e1 : decide (vn = s.vn) = false := decide_eq_false h1
    have e2 : (vn == s.vn) = false := by simpa using h1
    go_enter Try.func129, Try.ntmps129
    go_wp2; go_ret
    exact ⟨by rw [e1]; rfl, Below.refl _ _⟩
set_option maxHeartbeats 8000000 in
set_option maxRecDepth 100000 in
theorem fits_commit (w : World) (p : Nat) (s : SV) (E : Option Addr) (ne ce : Nat) (hp : w.heap[p]? = some (.cells (s.cells E ne ce) 53 (0, 0))) (hC : Kd.C k24 w E ne s.es) (hn : s.es.length = ne) (hs : s.small) (a : Int) (b : Bool) :
    Calls Try.prog 136 #[.int .i64 a, .pointer (some ⟨p, 0, none⟩), .bool b] w fun e w' => e = .returned (.bool (decide (s.co < a) && decide (a ≤ s.lst))) ∧ Below w.heap.size w w' := by
  have hu53 := Try.underlying53
  have HP := Aside0.mk hp
  go_enter Try.func136, Try.ntmps136
  go_wp2_with fail
  refine (last_N w p s E ne ce hp hC hn hs).mono ?_
  rintro e w2 ⟨rfl, hb⟩
  have hp2 := (hb.block p (blk_lt HP.out)).trans HP.out
  have c8 : w2.cell? ⟨p, 8, none⟩ = some (.int .i64 s.co) := (blk_cell hp2 8).trans rfl
  have HZ := Aside0.mk hb
  obtain ⟨lst, hl⟩ : ∃ lst, lst = s.lst := ⟨_, rfl⟩
  have HLI := Aside0.mk hl
  rw [← hl]
  clear hb hp2 hl hp hC hn hs
  by_cases h1 : s.co < a
  · have e1 : decide (s.co < a) = true := decide_eq_true h1
    by_cases h2 : a ≤ lst
    · have e3 : decide (a ≤ lst) = true := decide_eq_true h2
      go_wp2; go_ret
      exact ⟨by rw [← HLI.out, e1, e3]; rfl, HZ.out⟩
    · have e3 : decide (a ≤ lst) = false := decide_eq_false h2
      go_wp2; go_ret
      exact ⟨by rw [← HLI.out, e1, e3]; rfl, HZ.out⟩
  · have e1 : decide (s.co < a) = false := decide_eq_false h1
    go_wp2; go_ret
    exact ⟨by rw [e1]; rfl, HZ.out⟩

theorem R40_any {W : World} {base : Nat} {ok ok' : Nat → Prop} {v : Value} {l : List S40} (h : Kd.R k40 40 W base ok v l) (hk : ∀ k, v.ownBlock = some k → ok' k) : Kd.R k40 40 W base ok' v l :=
  ⟨hk, h.2.imp_ (fun _ _ hp => by rw [k40_openM hp]; exact k40_mkM _ _ _ _)⟩

abbrev JR.enc (y : JR) (sq : Int) : List Int × Int := recEnc sq y.kd y.s y.v y.k y.se y.rq y.ops y.vn y.vp y.vb y.st y.of y.x
/-- What is written of records: the bytes, the places behind each, the records that were taken. -/
def wrGo : List JR → List Int × List Int × List JR → List Int × List Int × List JR
  | [], s => s
  | y :: l, (d, es, ys) => if d.length < 60000 then
      (if (y.enc ((es.length : Int) + 1)).2 = 0 then wrGo l (d ++ (y.enc ((es.length : Int) + 1)).1, es ++ [((d.length + (y.enc ((es.length : Int) + 1)).1.length : Nat) : Int)], ys ++ [y]) else wrGo l (d, es, ys))
    else (d, es, ys)
abbrev R3 (w : World) (base : Nat) (v : Value) (l : List Int) : Prop := Kd.R (Kd.int .i64) 3 w base (fun _ => True) v l
theorem info3' : (Try.prog.info? 3).map (fun i => (i.zero, i.size, i.bytes)) = some (some (.int .i64 0), 1, 8) := by kernel_rfl
theorem k3_only {t : Nat} (h : t ∈ 3 :: (Kd.int .i64).E) : t = 3 := by
  have h' : t ∈ [3] := h
  simpa using h'
theorem k8_only {t : Nat} (h : t ∈ 5 :: (Kd.int .u8).E) : t = 5 := by
  have h' : t ∈ [5] := h
  simpa using h'
theorem R3_far {W w1 : World} {base : Nat} {v u : Value} {l k : List Int} (h : R3 W base v l) (hu : R8 W base u k) (hg : W.grownBy w1 u.ownBlock) : R3 w1 base v l :=
  Kd.R_mono (Kd.R_step (Kd.R_bound h) (fun j hj hlt => hg.block j hlt (fun e => by
    obtain ⟨q, hq, hc⟩ := hj.2.2.2
    have h1 : typed W 5 j := Kd.R_typed hu j e.symm
    rw [k3_only hq] at hc
    exact absurd (typed_ne hc h1) (by decide)))) (fun _ _ => trivial)
theorem R8_far {W w1 : World} {base : Nat} {v u : Value} {l k : List Int} (h : R8 W base v l) (hu : R3 W base u k) (hg : W.grownBy w1 u.ownBlock) : R8 w1 base v l :=
  Kd.R_mono (Kd.R_step (Kd.R_bound h) (fun j hj hlt => hg.block j hlt (fun e => by
    obtain ⟨q, hq, hc⟩ := hj.2.2.2
    have h1 : typed W 3 j := Kd.R_typed hu j e.symm
    rw [k8_only hq] at hc
    exact absurd (typed_ne hc h1) (by decide)))) (fun _ _ => trivial)
theorem wr_succ {m : Nat} (h : m ≤ 3000000000000) : wrap64 ((m : Int) + 1) = (m : Int) + 1 := by unfold wrap64; omega
theorem enc_len (y : JR) (sq : Int) : (y.enc sq).1.length ≤ 4000000 := recEnc_len _ _ _ _ _ _ _ _ _ _ _ _ _ _
set_option maxHeartbeats 16000000 in
set_option maxRecDepth 100000 in
theorem written_R (w : World) (A : Option Addr) (n c : Nat) (l : List JR) (hn : l.length = n) (hc : n ≤ c) (hm : n ≤ 2513169434843) (hC : Kd.C kJ w A n l) :
    Calls Try.prog 17 #[.slice A n c] w fun e w' => ∃ V U, e = .returned (.tuple #[V, U]) ∧ R8 w' w.heap.size V (wrGo l ([], [], [])).1 ∧ R3 w' w.heap.size U (wrGo l ([], [], [])).2.1 ∧ Below w.heap.size w w' := by
  have hu28 := Try.underlying28
  have hu26 := Try.underlying26
  have hu24 := Try.underlying24
  have HN := Aside0.mk hn
  have HC := Aside0.mk hC
  have HCC := Aside0.mk hc
  obtain ⟨F, hF⟩ : ∃ F, F = wrGo l ([], [], []) := ⟨_, rfl⟩
  rw [← hF]
  have HFF := Aside0.mk hF
  clear hn hC hc hF
  go_enter Try.func17, Try.ntmps17
  go_wp2
  go_loopw [4, 5, 6] (fun v4 v5 v6 wr => ∃ i : Nat, i ≤ n ∧ v6 = .int .i64 (i : Int) ∧ ∃ (d es : List Int) (ys : List JR), Aside0 (R8 wr w.heap.size v4 d) ∧ Aside0 (R3 wr w.heap.size v5 es) ∧ Aside0 (Below w.heap.size w wr) ∧ Aside0 (wrGo (l.drop i) (d, es, ys) = F) ∧ Aside0 (d.length ≤ 4100000 ∧ es.length ≤ i)) (fun v4 v5 v6 _ => n - (intOf v6).toNat)
  case atStart => exact ⟨0, Nat.zero_le _, rfl, [], [], [], ⟨Kd.R_nil _ _ _ _ _⟩, ⟨Kd.R_nil _ _ _ _ _⟩, ⟨Below.refl _ _⟩, ⟨HFF.out.symm⟩, ⟨by simp, by simp⟩⟩
  case round =>
    obtain ⟨i, hi, rfl, d, es, ys, HO, HE, HB, HW, HL⟩ := hrel
    obtain ⟨A4, c4, rfl⟩ := Kd.R_slice HO.out
    obtain ⟨A5, c5, rfl⟩ := Kd.R_slice HE.out
    obtain ⟨m4, hm4⟩ : ∃ m4, m4 = d.length := ⟨_, rfl⟩
    obtain ⟨m5, hm5⟩ : ∃ m5, m5 = es.length := ⟨_, rfl⟩
    rw [← hm4] at HO
    rw [← hm5] at HE
    rw [← hm4, ← hm5]
    have HM4 := Aside0.mk hm4
    have HM5 := Aside0.mk hm5
    clear hm4 hm5
    by_cases hlt : i < n
    · have hd1 : decide ((i : Int) < (n : Int)) = true := decide_eq_true (by omega)
      have hd2 : decide (i < n) = true := decide_eq_true hlt
      have hil : i < l.length := by rw [HN.out]; exact hlt
      have hdr : l.drop i = l[i] :: l.drop (i + 1) := List.drop_eq_getElem_cons hil
      have HDR := Aside0.mk hdr
      by_cases h6 : m4 < 60000
      · have g1 : decide ((m4 : Int) < 60000) = true := decide_eq_true (by omega)
        have g2 : decide (m4 < 60000) = true := decide_eq_true h6
        obtain ⟨ad, A1, c1, rfl, f0, f1, f2, f3, f4, f5, f6, f7, f8, f9, f10, f11, f12, hlc, hCo⟩ := at_J HC.out (i : Int) (by omega) (by omega)
        obtain ⟨y, hy⟩ : ∃ y, rd_J l (i : Int) = y := ⟨_, rfl⟩
        rw [hy, Int.toNat_natCast] at f0 f1 f2 f3 f4 f5 f6 f7 f8 f9 f10 f11 f12
        rw [hy] at hlc hCo
        have hyi : l[i] = y := by
          rw [← hy]
          unfold rd_J
          rw [Int.toNat_natCast, List.getD_eq_getElem?_getD, List.getElem?_eq_getElem hil]
          rfl
        have HYI := Aside0.mk hyi
        obtain ⟨m6, hm6⟩ : ∃ m6, m6 = y.ops.length := ⟨_, rfl⟩
        rw [← hm6] at f6 hlc hCo
        replace f0 := pw_cell_below HB.out f0
        replace f1 := pw_cell_below HB.out f1
        replace f2 := pw_cell_below HB.out f2
        replace f3 := pw_cell_below HB.out f3
        replace f4 := pw_cell_below HB.out f4
        replace f5 := pw_cell_below HB.out f5
        replace f6 := pw_cell_below HB.out f6
        replace f7 := pw_cell_below HB.out f7
        replace f8 := pw_cell_below HB.out f8
        replace f9 := pw_cell_below HB.out f9
        replace f10 := pw_cell_below HB.out f10
        replace f11 := pw_cell_below HB.out f11
        replace f12 := pw_cell_below HB.out f12
        have HCO := Aside0.mk (Kd.C_below hCo HB.out)
        have HLC := Aside0.mk hlc
        have HM6 := Aside0.mk hm6
        have hws := wr_succ (m := m5) (by have := HL.out.2; have := HM5.out; omega)
        clear hCo hlc hm6 hy hyi hdr
        go_wp2_with fail
        obtain ⟨r, hr⟩ : ∃ r, r = y.enc ((m5 : Int) + 1) := ⟨_, rfl⟩
        refine (encode_C ((m5 : Int) + 1) y.kd y.s y.v y.k y.se y.rq A1 c1 m6 y.ops y.vn y.vp y.vb y.st y.of y.x wr HM6.out.symm HCO.out HLC.out r.1 r.2 (by rw [hr])).mono ?_
        rintro e1 w1 ⟨V, rfl, hv, hb⟩
        have HV := Aside0.mk hv
        have HO1 := Aside0.mk (Kd.R_below HO.out hb)
        have HE1 := Aside0.mk (Kd.R_below HE.out hb)
        have HB1 := Aside0.mk (below_step HB.out hb)
        have HR := Aside0.mk hr
        clear hv hb hr f0 f1 f2 f3 f4 f5 f6 f7 f8 f9 f10 f11 f12 hws HO HE HB HCO
        go_wp2_with fail
        refine (num_N r.2 w1).mono ?_
        rintro e2 w2 ⟨rfl, hd⟩
        have HV2 := Aside0.mk (Kd.R_below HV.out hd.below)
        have HO2 := Aside0.mk (Kd.R_below HO1.out hd.below)
        have HE2 := Aside0.mk (Kd.R_below HE1.out hd.below)
        have HB2 := Aside0.mk (below_step HB1.out hd.below)
        clear hd HV HO1 HE1 HB1
        have hgo : F = wrGo (l.drop (i + 1)) (if r.2 = 0 then (d ++ r.1, es ++ [((d.length + r.1.length : Nat) : Int)], ys ++ [y]) else (d, es, ys)) := by
          rw [← HW.out, HDR.out, HYI.out]
          show (if d.length < 60000 then _ else _) = _
          rw [if_pos (by rw [← HM4.out]; exact h6), ← HM5.out, ← HR.out]
          by_cases h0 : r.2 = 0
          · rw [if_pos h0, if_pos h0]
          · rw [if_neg h0, if_neg h0]
        have HGO := Aside0.mk hgo
        have HRL := Aside0.mk (show r.1.length ≤ 4000000 by rw [HR.out]; exact enc_len y _)
        clear hgo
        by_cases h0 : r.2 = 0
        · have q1 : (r.2 == 0) = true := by simpa using h0
          have q2 : decide (r.2 = 0) = true := decide_eq_true h0
          rw [if_pos h0] at HGO
          obtain ⟨A7, c7, rfl, hc7, hC7⟩ := Kd.R_reads HV2.out
          obtain ⟨m7, hm7⟩ : ∃ m7, m7 = r.1.length := ⟨_, rfl⟩
          rw [← hm7] at hC7
          have HC7 := Aside0.mk hC7
          have HM7 := Aside0.mk hm7
          rw [← hm7]
          clear hC7 hc7 hm7
          go_wp2_with (with_reducible refine stop_append rfl ?_)
          refine app8 (v := .slice A4 m4 c4) (xs := d) (ys := r.1) w w.heap.size rfl _ _ rfl rfl rfl HO2.out HC7.out HB2.out HB2.out.size (by have := HL.out.1; have := HM7.out; have := HRL.out; omega) ?_
          intro v3 w3 ho3 hb3 hg3 hat3
          obtain ⟨A8, c8, rfl⟩ := Kd.R_slice ho3
          obtain ⟨m8, hm8⟩ : ∃ m8, m8 = (d ++ r.1).length := ⟨_, rfl⟩
          rw [← hm8] at ho3 ⊢
          have HO3 := Aside0.mk ho3
          have HE3 := Aside0.mk (R3_far HE2.out HO2.out hg3)
          have HB3 := Aside0.mk hb3
          have HM8 := Aside0.mk hm8
          clear ho3 hb3 hg3 hat3 hm8
          go_wp2_with (with_reducible refine stop_append rfl ?_)
          refine Kd.R_append (Kd.int .i64) (w0 := w) w.heap.size rfl _ _ 44 3 (.int .i64 0) 8 rfl Try.underlying44 info3' rfl (by decide) (by decide) (.slice A5 m5 c5) es (m8 : Int) [.int .i64 (m8 : Int)] (fun _ => True) (fun _ => False) rfl rfl rfl (fun _ h => h.elim) (fun _ _ => trivial) HE3.out HB3.out HB3.out.size (by have := HL.out.2; omega) ?_
          intro v4 w4 ho4 hb4 hg4 hat4
          have HO4 := Aside0.mk (R8_far HO3.out HE3.out hg4)
          have HE4 := Aside0.mk ho4
          have HB4 := Aside0.mk hb4
          clear ho4 hb4 hg4 hat4 q1 q2
          go_wp2
          go_roundw
          case rel => exact ⟨i + 1, by omega, by go_num, d ++ r.1, es ++ [(m8 : Int)], ys ++ [y], ⟨HO4.out⟩, ⟨HE4.out⟩, HB4, ⟨by rw [HGO.out, HM8.out, List.length_append]⟩, ⟨by have := HM4.out; have := HRL.out; rw [List.length_append]; omega, by rw [List.length_append]; have := HL.out.2; simp; omega⟩⟩
          case measure => simp [intOf]; omega
        · have q1 : (r.2 == 0) = false := by simpa using h0
          have q2 : decide (r.2 = 0) = false := decide_eq_false h0
          rw [if_neg h0] at HGO
          go_wp2
          go_roundw
          case rel => exact ⟨i + 1, by omega, by go_num, d, es, ys, ⟨HO2.out⟩, ⟨HE2.out⟩, HB2, ⟨HGO.out.symm⟩, ⟨HL.out.1, by have := HL.out.2; omega⟩⟩
          case measure => simp [intOf]; omega
      · have g1 : decide ((m4 : Int) < 60000) = false := decide_eq_false (by omega)
        have g2 : decide (m4 < 60000) = false := decide_eq_false h6
        have hfin : (d, es, ys) = F := by
          rw [← HW.out, hdr]
          unfold wrGo
          rw [if_neg (by rw [← HM4.out]; exact h6)]
        clear hdr
        go_wp2
        go_ret2
        rw [← hfin]
        exact ⟨_, _, rfl, HO.out, HE.out, HB.out⟩
    · have hd1 : decide ((i : Int) < (n : Int)) = false := decide_eq_false (by omega)
      have hd2 : decide (i < n) = false := decide_eq_false hlt
      have hdr : l.drop i = [] := List.drop_of_length_le (by rw [HN.out]; omega)
      have hfin : (d, es, ys) = F := by
        rw [← HW.out, hdr]
        rfl
      clear hdr
      go_wp2
      go_ret2
      rw [← hfin]
      exact ⟨_, _, rfl, HO.out, HE.out, HB.out⟩

/-- Elements as they stand in W0 (what they point to is shared): read in whatever comes of W0. -/
def heldK {α : Type} (d : Kd α) (W0 : World) : Kd α where
  sz := d.sz
  E := []
  K := fun _ x cs => ∀ W2, Below W0.heap.size W0 W2 → d.K W2 x cs
  M := fun _ _ _ x cs => ∀ W2, Below W0.heap.size W0 W2 → d.K W2 x cs
  K_len := fun h => d.K_len (h W0 (Below.refl _ _))
  K_one := fun h => d.K_one (h W0 (Below.refl _ _))
  K_below := fun _ h => h
  K_of_M := fun h => h
  M_mono := fun _ h => h
  M_bound := fun h => h
  M_move := fun _ h => h
  M_lower := fun _ h => h
theorem heldK_C {α : Type} {d : Kd α} {W0 w : World} (hb : Below W0.heap.size W0 w) {A : Option Addr} {n : Nat} {xs : List α} (h : Kd.C (heldK d W0) w A n xs) : Kd.C d w A n xs := ReadsRow.imp_ h (Below.refl _ _) (fun _ _ hp => hp w hb)
/-- Do entries stand in a row behind a stamp and a view? -/
def entsMay : List S24 → Int → Int → Bool
  | [], _, _ => true
  | e :: es, st, of => (entOk e.f0 e.f1 e.f2 e.f3 e.f4 e.f5 && (decide (e.f0 = st + 1) && decide (of ≤ e.f1))) && entsMay es (st + 1) e.f1
def SV.viewB (s : SV) : Bool := if noView s.vn s.vp s.vb = true then decide (s.ma = 0) else vMay s.vn s.vp s.vb && (decide (0 ≤ s.ma) && decide (s.ma ≤ s.vn))
/-- May a Saved be? -/
def SV.mayB (s : SV) : Bool := s.viewB && ((numOk s.st && numOk s.of) && (entsMay s.es s.st s.of && (decide (s.st ≤ s.co) && decide (s.co ≤ s.lst))))
theorem numOk_range {v : Int} (h : numOk v = true) : 0 ≤ v ∧ v ≤ 2147483647 := by
  unfold numOk at h
  simpa using h
theorem entsMay_drop (es : List S24) (i : Nat) (st of : Int) (h : i < es.length) : entsMay (es.drop i) st of = ((entOk (rd_T24 es (i : Int)).f0 (rd_T24 es (i : Int)).f1 (rd_T24 es (i : Int)).f2 (rd_T24 es (i : Int)).f3 (rd_T24 es (i : Int)).f4 (rd_T24 es (i : Int)).f5 && (decide ((rd_T24 es (i : Int)).f0 = st + 1) && decide (of ≤ (rd_T24 es (i : Int)).f1))) && entsMay (es.drop (i + 1)) (st + 1) (rd_T24 es (i : Int)).f1) := by
  have e : rd_T24 es (i : Int) = es[i] := by
    unfold rd_T24
    rw [Int.toNat_natCast, List.getD_eq_getElem?_getD, List.getElem?_eq_getElem h]
    rfl
  rw [e, List.drop_eq_getElem_cons h]
  rfl
theorem wr_row {st : Int} {i : Nat} (h0 : 0 ≤ st) (h1 : st ≤ 2147483647) (hi : i ≤ 1000000) : wrap64 (wrap64 (st + (i : Int)) + 1) = st + (i : Int) + 1 := by unfold wrap64; omega
set_option maxHeartbeats 8000000 in
set_option maxRecDepth 100000 in
theorem last_M (w : World) (p : Nat) (s : SV) (E : Option Addr) (ne ce : Nat) (hp : w.heap[p]? = some (.cells (s.cells E ne ce) 53 (0, 0))) (hC : Kd.C k24 w E ne s.es) (hn : s.es.length = ne) (hs : 0 ≤ s.st ∧ s.st ≤ 2147483647 ∧ s.es.length ≤ 1000000) :
    Calls Try.prog 62 #[.pointer (some ⟨p, 0, none⟩)] w fun e w' => e = .returned (.tuple #[.int .i64 s.lst, .int .i64 s.its]) ∧ Below w.heap.size w w' := by
  have hu53 := Try.underlying53
  have hu26 := Try.underlying26
  have hu24 := Try.underlying24
  have hb : ne ≤ 1000000 := by rw [← hn]; exact hs.2.2
  have c4 : w.cell? ⟨p, 4, none⟩ = some (.int .i64 s.st) := (blk_cell hp 4).trans rfl
  have c5 : w.cell? ⟨p, 5, none⟩ = some (.int .i64 s.of) := (blk_cell hp 5).trans rfl
  have c7 : w.cell? ⟨p, 7, none⟩ = some (.slice E ne ce) := (blk_cell hp 7).trans rfl
  have HS := Aside0.mk hs
  have HN := Aside0.mk hn
  clear hp hs hn
  by_cases h0 : 0 < ne
  · have d1 : decide ((0 : Int) < (ne : Int)) = true := decide_eq_true (by omega)
    have d2 : decide (0 < ne) = true := decide_eq_true h0
    obtain ⟨i, hi⟩ : ∃ i, i + 1 = ne := ⟨ne - 1, by omega⟩
    obtain ⟨ad, A5, e5, rfl, f0, f1, _⟩ := at_T24 hC (i : Int) (by omega) (by omega)
    rw [Int.toNat_natCast] at f1
    have i1 : (i < ne) = True := eq_true (by omega)
    have i2 : ((i : Int) < (ne : Int)) = True := eq_true (by omega)
    have hlast := its_last (s := s) (i := i) (by rw [HN.out]; exact hi)
    have hf1 : (rd_T24 s.es (i : Int)).f1 = s.its := hlast.symm
    rw [hf1] at f1
    have HL := Aside0.mk (show s.st + (ne : Int) = s.lst by unfold SV.lst; rw [HN.out])
    have hw1 := wr_pred hi hb
    have hw2 := wr_lst (n := ne) HS.out.1 HS.out.2.1 hb
    have hw3 : IntKind.i64.wrap ((ne : Int) - 1) = (i : Int) := (i64_w _).trans hw1
    have hw4 : IntKind.i64.wrap (s.st + (ne : Int)) = s.st + (ne : Int) := (i64_w _).trans hw2
    clear f0 hC hlast hf1 hi
    go_enter Try.func62, Try.ntmps62
    go_wp2_with fail
    go_quiet (fail)
    go_wp2
    go_ret2
    exact ⟨by rw [← HL.out]; rfl, Drawn0.below ⟨⟨nq, rfl⟩⟩⟩
  · have d1 : decide ((0 : Int) < (ne : Int)) = false := decide_eq_false (by omega)
    have d2 : decide (0 < ne) = false := decide_eq_false h0
    have hz : s.es = [] := List.eq_nil_of_length_eq_zero (by rw [HN.out]; omega)
    have HL := Aside0.mk (show s.lst = s.st ∧ s.its = s.of by unfold SV.lst SV.its; rw [hz]; simp)
    clear hC hz
    go_enter Try.func62, Try.ntmps62
    go_wp2_with fail
    go_quiet (fail)
    go_wp2
    go_ret2
    exact ⟨by rw [HL.out.1, HL.out.2]; rfl, Drawn0.below ⟨⟨nq, rfl⟩⟩⟩
set_option maxHeartbeats 16000000 in
set_option maxRecDepth 100000 in
theorem may_N (w : World) (s : SV) (E : Option Addr) (n c : Nat) (hn : s.es.length = n) (hm : n ≤ 1000000) (hC : Kd.C k24 w E n s.es) :
    Calls Try.prog 37 #[.agg (s.cells E n c)] w fun e w' => e = .returned (.bool s.mayB) ∧ Below w.heap.size w w' := by
  have hu53 := Try.underlying53
  have hu26 := Try.underlying26
  have hu24 := Try.underlying24
  have HN := Aside0.mk hn
  have HM := Aside0.mk hm
  have HC := Aside0.mk hC
  clear hn hC
  go_enter Try.func37, Try.ntmps37
  go_upto_region 1 with (fail)
  obtain ⟨g, hg⟩ : ∃ g, g = w.heap.size := ⟨_, rfl⟩
  obtain ⟨w1, hw1⟩ : ∃ w1, w1 = w.alloc (.cells (s.cells E n c) 53) := ⟨_, rfl⟩
  rw [← hw1, ← hg]
  have HB1 := Aside0.mk (show Below w.heap.size w w1 by rw [hw1]; exact below_alloc (Below.refl _ _) _)
  have HG := Aside0.mk (show w1.heap[g]? = some (.cells (s.cells E n c) 53 (0, 0)) by rw [hw1, hg]; exact heap_alloc_new w _)
  clear hw1 hg
  have a0 := (blk_cell HG.out 0).trans rfl
  have a1 := (blk_cell HG.out 1).trans rfl
  have a2 := (blk_cell HG.out 2).trans rfl
  have a3 := (blk_cell HG.out 3).trans rfl
  go_cut [13] (fun v13 wc => v13 = .bool (noView s.vn s.vp s.vb) ∧ w1 = wc)
  case first =>
    by_cases h0 : s.vn = 0
    · have c0 : (s.vn == 0) = true := beq_iff_eq.mpr h0
      have d0 := Aside0.mk h0
      clear h0
      by_cases h1 : s.vp = 0
      · have c1 : (s.vp == 0) = true := beq_iff_eq.mpr h1
        have d1 := Aside0.mk h1
        clear h1
        by_cases h2 : s.vb = 0
        · have c2 : (s.vb == 0) = true := beq_iff_eq.mpr h2
          have d2 := Aside0.mk h2
          clear h2
          have HF := Aside0.mk (show noView s.vn s.vp s.vb = true by unfold noView; rw [c0, c1, c2]; rfl)
          have e0 := d0.out
          have e1 := d1.out
          have e2 := d2.out
          go_wp2; go_meet
          case rel => exact ⟨by rw [HF.out]; try rfl, rfl⟩
        · have c2 : (s.vb == 0) = false := beq_eq_false_iff_ne.mpr h2
          have HF := Aside0.mk (show noView s.vn s.vp s.vb = false by unfold noView; rw [c2]; simp)
          have e2 : (s.vb = 0) = False := eq_false h2
          clear h2
          go_wp2; go_meet
          case rel => exact ⟨by rw [HF.out]; try rfl, rfl⟩
      · have c1 : (s.vp == 0) = false := beq_eq_false_iff_ne.mpr h1
        have HF := Aside0.mk (show noView s.vn s.vp s.vb = false by unfold noView; rw [c1]; simp)
        have e2 : (s.vp = 0) = False := eq_false h1
        clear h1
        go_wp2; go_meet
        case rel => exact ⟨by rw [HF.out]; try rfl, rfl⟩
    · have c0 : (s.vn == 0) = false := beq_eq_false_iff_ne.mpr h0
      have HF := Aside0.mk (show noView s.vn s.vp s.vb = false by unfold noView; rw [c0]; simp)
      have e2 : (s.vn = 0) = False := eq_false h0
      clear h0
      go_wp2; go_meet
      case rel => exact ⟨by rw [HF.out]; try rfl, rfl⟩
  obtain ⟨rfl, rfl⟩ := hcut
  clear a0 a1 a2 a3
  go_upto_if 13 with (fail)
  go_cut [2] (fun v2 wc => v2 = .bool false ∧ s.viewB = true ∧ Below w1.heap.size w1 wc)
  case first =>
    have a0 := (blk_cell HG.out 0).trans rfl
    have a1 := (blk_cell HG.out 1).trans rfl
    have a2 := (blk_cell HG.out 2).trans rfl
    have a3 := (blk_cell HG.out 3).trans rfl
    cases hv : noView s.vn s.vp s.vb
    case true =>
      have HV := Aside0.mk hv
      clear hv
      by_cases h0 : s.ma = 0
      · have c0 : (s.ma == 0) = true := beq_iff_eq.mpr h0
        have c1 : (s.ma != 0) = false := bne_eq_false_iff_eq.mpr h0
        have HF := Aside0.mk (show s.viewB = true by unfold SV.viewB; rw [if_pos HV.out, decide_eq_true h0])
        clear h0
        go_wp2; go_meet
        case rel => exact ⟨rfl, HF.out, Below.refl _ _⟩
      · have c0 : (s.ma == 0) = false := beq_eq_false_iff_ne.mpr h0
        have c1 : (s.ma != 0) = true := bne_iff_ne.mpr h0
        have HF := Aside0.mk (show s.mayB = false by unfold SV.mayB SV.viewB; rw [if_pos HV.out, decide_eq_false h0]; rfl)
        clear h0
        go_wp2; go_ret
        exact ⟨by rw [HF.out]; rfl, HB1.out⟩
    case false =>
      have HV := Aside0.mk hv
      clear hv
      obtain ⟨vm, hvm⟩ : ∃ vm, vMay s.vn s.vp s.vb = vm := ⟨_, rfl⟩
      have HVM := Aside0.mk hvm
      clear hvm
      go_wp2_with fail
      refine (journal_viewMay.calls s.vn s.vp s.vb _ _ ((vMay_eq s.vn s.vp s.vb).trans (congrArg some HVM.out))).mono ?_
      rintro e w2 ⟨rfl, hb⟩
      have HB2 := Aside0.mk hb
      have HG2 := Aside0.mk ((hb.block g (blk_lt HG.out)).trans HG.out)
      clear hb a0 a1 a2 a3
      have a0 := (blk_cell HG2.out 0).trans rfl
      have a3 := (blk_cell HG2.out 3).trans rfl
      cases vm
      case false =>
        have HF := Aside0.mk (show s.mayB = false by unfold SV.mayB SV.viewB; rw [if_neg (by rw [HV.out]; decide), HVM.out]; rfl)
        go_wp2; go_ret
        exact ⟨by rw [HF.out]; rfl, below_step HB1.out HB2.out⟩
      by_cases h0 : s.ma < 0
      · have c0 : decide (s.ma < 0) = true := decide_eq_true h0
        have HF := Aside0.mk (show s.mayB = false by unfold SV.mayB SV.viewB; rw [if_neg (by rw [HV.out]; decide), HVM.out, decide_eq_false (show ¬ 0 ≤ s.ma by omega)]; rfl)
        clear h0
        go_wp2; go_ret
        exact ⟨by rw [HF.out]; rfl, below_step HB1.out HB2.out⟩
      have c0 : decide (s.ma < 0) = false := decide_eq_false h0
      by_cases h1 : s.vn < s.ma
      · have c1 : decide (s.vn < s.ma) = true := decide_eq_true h1
        have HF := Aside0.mk (show s.mayB = false by unfold SV.mayB SV.viewB; rw [if_neg (by rw [HV.out]; decide), HVM.out, decide_eq_false (show ¬ s.ma ≤ s.vn by omega)]; simp)
        clear h0 h1
        go_wp2; go_ret
        exact ⟨by rw [HF.out]; rfl, below_step HB1.out HB2.out⟩
      have c1 : decide (s.vn < s.ma) = false := decide_eq_false h1
      have HF := Aside0.mk (show s.viewB = true by unfold SV.viewB; rw [if_neg (by rw [HV.out]; decide), HVM.out, decide_eq_true (show 0 ≤ s.ma by omega), decide_eq_true (show s.ma ≤ s.vn by omega)]; rfl)
      clear h0 h1
      go_wp2; go_meet
      case rel => exact ⟨rfl, HF.out, HB2.out⟩
  obtain ⟨rfl, hvb, hb⟩ := hcut
  have HVB := Aside0.mk hvb
  have HB2 := Aside0.mk (below_step HB1.out hb)
  have HG2 := Aside0.mk ((hb.block g (blk_lt HG.out)).trans HG.out)
  have HC2 := Aside0.mk (Kd.C_below HC.out HB2.out)
  clear hvb hb
  obtain ⟨w2, hw2⟩ : ∃ w2, w2 = wc := ⟨_, rfl⟩
  rw [← hw2]
  rw [← hw2] at HB2 HG2 HC2
  clear hw2
  have a4 := (blk_cell HG2.out 4).trans rfl
  have a5 := (blk_cell HG2.out 5).trans rfl
  obtain ⟨t1, ht1⟩ : ∃ t, numOk s.st = t := ⟨_, rfl⟩
  obtain ⟨t2, ht2⟩ : ∃ t, numOk s.of = t := ⟨_, rfl⟩
  have HT1 := Aside0.mk ht1
  have HT2 := Aside0.mk ht2
  clear ht1 ht2
  go_wp2_with fail
  refine (journal_number.calls s.st _ _ ((jnumber_eq s.st).trans (congrArg some HT1.out))).mono ?_
  rintro e w3 ⟨rfl, hd⟩
  have HB3 := Aside0.mk (below_step HB2.out (Drawn0.below hd))
  have HG3 := Aside0.mk (((Drawn0.below hd).block g (blk_lt HG2.out)).trans HG2.out)
  have HC3 := Aside0.mk (Kd.C_below HC2.out (Drawn0.below hd))
  clear hd a4 a5
  cases t1
  case false =>
    have HF := Aside0.mk (show s.mayB = false by unfold SV.mayB; rw [HT1.out]; simp)
    go_wp2; go_ret
    exact ⟨by rw [HF.out]; rfl, HB3.out⟩
  have a5 := (blk_cell HG3.out 5).trans rfl
  go_wp2_with fail
  refine (journal_number.calls s.of _ _ ((jnumber_eq s.of).trans (congrArg some HT2.out))).mono ?_
  rintro e w4 ⟨rfl, hd⟩
  have HB4 := Aside0.mk (below_step HB3.out (Drawn0.below hd))
  have HG4 := Aside0.mk (((Drawn0.below hd).block g (blk_lt HG3.out)).trans HG3.out)
  have HC4 := Aside0.mk (Kd.C_below HC3.out (Drawn0.below hd))
  clear hd a5
  cases t2
  case false =>
    have HF := Aside0.mk (show s.mayB = false by unfold SV.mayB; rw [HT2.out]; simp)
    go_wp2; go_ret
    exact ⟨by rw [HF.out]; rfl, HB4.out⟩
  have HMAY := Aside0.mk (show s.mayB = (entsMay s.es s.st s.of && (decide (s.st ≤ s.co) && decide (s.co ≤ s.lst))) by unfold SV.mayB; rw [HVB.out, HT1.out, HT2.out]; rfl)
  have HST := Aside0.mk (numOk_range HT1.out)
  have a5 := (blk_cell HG4.out 5).trans rfl
  have a7 := (blk_cell HG4.out 7).trans rfl
  go_wp2
  clear a5 a7
  go_loopw [3, 49] (fun v3 v49 wr => ∃ (i : Nat) (of : Int), i ≤ n ∧ v49 = .int .i64 (i : Int) ∧ v3 = .int .i64 of ∧ Aside0 (entsMay s.es s.st s.of = entsMay (s.es.drop i) (s.st + (i : Int)) of) ∧ Aside0 (Below w4.heap.size w4 wr)) (fun _ v49 _ => n - (intOf v49).toNat)
  case atStart => exact ⟨0, s.of, Nat.zero_le _, rfl, rfl, ⟨by simp⟩, ⟨Below.refl _ _⟩⟩
  case round =>
    obtain ⟨i, of, hi, rfl, rfl, HE, HW⟩ := hrel
    have HGr := Aside0.mk ((HW.out.block g (blk_lt HG4.out)).trans HG4.out)
    by_cases hlt : i < n
    · have hd1 : decide ((i : Int) < (n : Int)) = true := decide_eq_true (by omega)
      have hd2 : decide (i < n) = true := decide_eq_true hlt
      have HLT := Aside0.mk hlt
      have i1 : (i < n) = True := eq_true hlt
      have i2 : ((i : Int) < (n : Int)) = True := eq_true (by omega)
      obtain ⟨ad, A5, c5, rfl, p0, p1, p2, p3, p4, p5, l5, C5⟩ := at_T24 (Kd.C_below HC4.out HW.out) (i : Int) (by omega) (by omega)
      have he := entsMay_drop s.es i (s.st + (i : Int)) of (by rw [HN.out]; exact hlt)
      obtain ⟨x, hx⟩ : ∃ x, rd_T24 s.es (i : Int) = x := ⟨_, rfl⟩
      rw [hx, Int.toNat_natCast] at p0 p1 p2 p3 p4
      rw [hx, Int.toNat_natCast] at p5
      rw [hx] at l5 C5 he
      obtain ⟨m5, hm5⟩ : ∃ m5, x.f5.length = m5 := ⟨_, rfl⟩
      rw [hm5] at p5 l5 C5
      have HM5 := Aside0.mk hm5
      have HL5 := Aside0.mk l5
      have HC5 := Aside0.mk C5
      have HDE := Aside0.mk he
      clear hx hm5 l5 C5 he hlt
      go_wp2_with fail
      obtain ⟨w5, hw5⟩ : ∃ w5, w5 = wr.alloc (.cells #[.int .i64 x.f0, .int .i64 x.f1, .int .i64 x.f2, .int .i64 x.f3, .int .i64 x.f4, .slice A5 m5 c5] 24) := ⟨_, rfl⟩
      obtain ⟨g5, hg5⟩ : ∃ g5, g5 = wr.heap.size := ⟨_, rfl⟩
      rw [← hw5]
      try rw [← hg5]
      have HA5 := Aside0.mk (show Below wr.heap.size wr w5 by rw [hw5]; exact below_alloc (Below.refl _ _) _)
      have HG5 := Aside0.mk (show w5.heap[g5]? = some (.cells #[.int .i64 x.f0, .int .i64 x.f1, .int .i64 x.f2, .int .i64 x.f3, .int .i64 x.f4, .slice A5 m5 c5] 24 (0, 0)) by rw [hw5, hg5]; exact heap_alloc_new wr _)
      clear hw5 hg5 p0 p1 p2 p3 p4 p5
      obtain ⟨ok, hok⟩ : ∃ ok, entOk x.f0 x.f1 x.f2 x.f3 x.f4 x.f5 = ok := ⟨_, rfl⟩
      have HOK := Aside0.mk hok
      clear hok
      refine (encode_N x.f0 x.f1 x.f2 x.f3 x.f4 A5 c5 m5 x.f5 w5 HM5.out (Kd.C_below HC5.out HA5.out) HL5.out).mono ?_
      rintro e w6 ⟨B6, m6, cb6, rfl, _, hb⟩
      rw [HOK.out]
      have HB6 := Aside0.mk (below_step HA5.out hb)
      have HG6 := Aside0.mk ((hb.block g5 (blk_lt HG5.out)).trans HG5.out)
      have HGq := Aside0.mk ((HB6.out.block g (blk_lt HGr.out)).trans HGr.out)
      have HW6 := Aside0.mk (below_step HW.out HB6.out)
      clear hb
      have a4 := (blk_cell HGq.out 4).trans rfl
      have q0 := (blk_cell HG6.out 0).trans rfl
      have q1 := (blk_cell HG6.out 1).trans rfl
      have hw1 := wr_row (i := i) HST.out.1 HST.out.2 (by have := HLT.out; omega)
      cases ok
      case false =>
        have HF := Aside0.mk (show s.mayB = false by rw [HMAY.out, HE.out, HDE.out, HOK.out]; simp)
        go_wp2; go_ret
        exact ⟨by rw [HF.out]; rfl, below_step HB4.out HW6.out⟩
      obtain ⟨nx, hnx⟩ : ∃ nx, wrap64 (wrap64 (s.st + (i : Int)) + 1) = nx := ⟨_, rfl⟩
      have HNX := Aside0.mk (show nx = s.st + (i : Int) + 1 by rw [← hnx]; exact hw1)
      clear hw1
      by_cases h1 : x.f0 = nx
      · have c1 : (x.f0 == nx) = true := beq_iff_eq.mpr h1
        have c1' : (x.f0 != nx) = false := bne_eq_false_iff_eq.mpr h1
        have d1 := Aside0.mk h1
        clear h1
        by_cases h2 : x.f1 < of
        · have c2 : decide (x.f1 < of) = true := decide_eq_true h2
          have HF := Aside0.mk (show s.mayB = false by rw [HMAY.out, HE.out, HDE.out, decide_eq_false (show ¬ of ≤ x.f1 by omega)]; simp)
          clear h2
          go_wp2; go_ret
          exact ⟨by rw [HF.out]; rfl, below_step HB4.out HW6.out⟩
        · have c2 : decide (x.f1 < of) = false := decide_eq_false h2
          have HNE := Aside0.mk (show entsMay s.es s.st s.of = entsMay (s.es.drop (i + 1)) (s.st + ((i + 1 : Nat) : Int)) x.f1 by
            rw [HE.out, HDE.out, HOK.out, decide_eq_true (show of ≤ x.f1 by omega), decide_eq_true (d1.out.trans HNX.out), show s.st + ((i + 1 : Nat) : Int) = s.st + (i : Int) + 1 by omega]
            rfl)
          clear h2
          go_wp2
          have h8 := wr_succ (m := i) (by have := HLT.out; have := HM.out; omega)
          go_roundw
          case rel => exact ⟨i + 1, x.f1, HLT.out, by first | rfl | (rw [h8]; rfl), rfl, HNE, HW6⟩
          case measure =>
            have h9 := HLT.out
            first
              | (show n - ((i : Int) + 1).toNat < n - (i : Int).toNat; omega)
              | (show n - (intOf (.int .i64 (wrap64 ((i : Int) + 1)))).toNat < n - (intOf (.int .i64 (i : Int))).toNat
                 rw [h8]
                 show n - ((i : Int) + 1).toNat < n - (i : Int).toNat
                 omega)
      · have c1 : (x.f0 == nx) = false := beq_eq_false_iff_ne.mpr h1
        have c1' : (x.f0 != nx) = true := bne_iff_ne.mpr h1
        have HF := Aside0.mk (show s.mayB = false by rw [HMAY.out, HE.out, HDE.out, decide_eq_false (show ¬ x.f0 = s.st + (i : Int) + 1 by rw [← HNX.out]; exact h1)]; simp)
        clear h1
        go_wp2; go_ret
        exact ⟨by rw [HF.out]; rfl, below_step HB4.out HW6.out⟩
    · obtain rfl : i = n := by omega
      have hd1 : decide ((i : Int) < (i : Int)) = false := decide_eq_false (by omega)
      have hd2 : decide (i < i) = false := decide_eq_false (by omega)
      have HEM := Aside0.mk (show entsMay s.es s.st s.of = true by
        rw [HE.out, List.drop_eq_nil_of_le (by rw [HN.out]; exact Nat.le_refl _)]
        rfl)
      clear hlt hi
      go_wp2_with fail
      refine (last_M wr g s E i c HGr.out (Kd.C_below HC4.out HW.out) HN.out ⟨HST.out.1, HST.out.2, by rw [HN.out]; exact HM.out⟩).mono ?_
      rintro e w6 ⟨rfl, hb⟩
      have HGq := Aside0.mk ((hb.block g (blk_lt HGr.out)).trans HGr.out)
      have HW6 := Aside0.mk (below_step HB4.out (below_step HW.out hb))
      clear hb
      have a4 := (blk_cell HGq.out 4).trans rfl
      have a8 := (blk_cell HGq.out 8).trans rfl
      have HMA := HMAY.out
      rw [HEM.out] at HMA
      have HMB := Aside0.mk HMA
      clear HMA
      by_cases h1 : s.st ≤ s.co
      · have c1 : decide (s.st ≤ s.co) = true := decide_eq_true h1
        have HF := Aside0.mk (show s.mayB = decide (s.co ≤ s.lst) by rw [HMB.out, c1]; rfl)
        clear h1
        go_wp2; go_ret
        exact ⟨by rw [HF.out]; rfl, HW6.out⟩
      · have c1 : decide (s.st ≤ s.co) = false := decide_eq_false h1
        have HF := Aside0.mk (show s.mayB = false by rw [HMB.out, c1]; rfl)
        clear h1
        go_wp2; go_ret
        exact ⟨by rw [HF.out]; rfl, HW6.out⟩
end Go.Proofs.Ytdbniihjkiecbaa.PW
namespace Go.Proofs.Ytdbniihjkiecbaa.PW
open Go.RowKit Go.Proofs.YtdbniihjkiecbaaW.PrintWords Go.Proofs.YtdbniihjkiecbaaW.PrintLast Go.Proofs.YtdbniihjkiecbaaW.PrintMore
attribute [local go_sem] max2_int min2_int max_two min_two max_three min_three max_four min_four   -- for this text's walks alone
set_option linter.unusedVariables false
set_option linter.unusedSimpArgs false

def wire_ReadNumber.f (l0 : List Int) (a1 : Int) : Option (Int × Int × Int) := if bytesOk l0 = true ∧ l0.length ≤ 140737488355328 then some (readNum l0 a1) else none
set_option maxHeartbeats 4000000 in
set_option maxRecDepth 100000 in
theorem wire_ReadNumber.calls (A0 : Option Addr) (c0 : Nat) (l0 : List Int) (a1 : Int) (r1 r2 r3 : Int) (w : World) (hr0 : Kd.C (Kd.int .u8) w A0 l0.length l0) (hc0 : l0.length ≤ c0) (h : wire_ReadNumber.f l0 a1 = some (r1, r2, r3)) :
    Calls Try.prog 101 #[.slice A0 l0.length c0, .int .i64 a1] w fun e w' => e = .returned (.tuple #[.int .i64 r1, .int .i64 r2, .int .i64 r3]) ∧ Drawn0 w w' := by
  unfold wire_ReadNumber.f at h
  split at h
  case isFalse => cases h
  rename_i hok
  obtain ⟨hok, hm⟩ := hok
  have hr := Option.some.inj h
  clear h
  have HOK := Aside0.mk hok
  clear hok
  have HR0 := Aside0.mk hr0
  have HC0 := Aside0.mk hc0
  clear hr0 hc0
  unfold readNum at hr
  by_cases h1 : a1 < 0
  · rw [if_pos (by omega)] at hr
    cases hr
    go_enter Try.func101, Try.ntmps101
    go_wp2
    go_ret3
    exact ⟨rfl, Drawn0.refl _⟩
  by_cases h2 : a1 > l0.length
  · rw [if_pos (by omega)] at hr
    cases hr
    go_enter Try.func101, Try.ntmps101
    go_wp2
    go_ret3
    exact ⟨rfl, Drawn0.refl _⟩
  rw [if_neg (by omega)] at hr
  have hr' := Aside0.mk hr
  clear hr
  go_enter Try.func101, Try.ntmps101
  go_wp2_with (with_reducible refine stop_slice rfl ?_)
  refine from8 rfl _ _ rfl rfl rfl (by omega) (by omega) HC0.out HR0.out ?_
  intro A1 hr2
  have HR2 := Aside0.mk hr2
  clear hr2
  obtain ⟨n, hn⟩ : ∃ n : Nat, n = l0.length - a1.toNat := ⟨_, rfl⟩
  obtain ⟨s, hs⟩ : ∃ s : List Int, s = l0.drop a1.toNat := ⟨_, rfl⟩
  have hsl : s.length = n := by rw [hs, List.length_drop]; omega
  have HOK2 := Aside0.mk (hs ▸ bytesOk_drop HOK.out a1.toNat)
  rw [← hn, ← hs] at HR2
  rw [← hs] at hr'
  rw [← hn]
  have hna : (l0.length : Int) - a1 = n := by omega
  clear hs hn HR0
  go_wp2
  go_loop [7, 22] (fun v i => ∃ k : Nat, k ≤ n ∧ k ≤ 5 ∧ i = .int .i64 k ∧ ∃ x : Int, v = .int .i64 x ∧ Aside0 (0 ≤ x ∧ x < 128 ^ k) ∧ Aside0 (rnGo a1 (5 - k) k x (s.drop k) = (r1, r2, r3))) (fun _ i => n - (intOf i).toNat)
  case atStart => exact ⟨0, Nat.zero_le _, by omega, rfl, _, rfl, ⟨by simp⟩, ⟨by simpa using hr'.out⟩⟩
  case round =>
    obtain ⟨k, hk, hk5, rfl, x, rfl, hx, hgo⟩ := hrel
    by_cases hlt : k < n
    · by_cases hk6 : k = 5
      · have he := hgo.out
        rw [hk6, show 5 - 5 = 0 from rfl, rnGo] at he
        cases he
        obtain ⟨ad, rfl, hc⟩ := Kd.at_int HR2.out (k : Int) (by omega) (by omega)
        rw [Int.toNat_natCast] at hc
        have hge : (5 : Int) ≤ (l0.length : Int) - a1 := by omega
        have hkb : ((k : Int) == 5) = true := by simp [hk6]
        have hk8 : 5 ≤ k := by omega
        clear hgo hk6
        go_wp2
        go_ret3
        exact ⟨rfl, Drawn0.refl _⟩
      · have hk7 : k < 5 := by omega
        obtain ⟨ad, rfl, hc⟩ := Kd.at_int HR2.out (k : Int) (by omega) (by omega)
        rw [Int.toNat_natCast] at hc
        have hbb := Aside0.mk (bytesOk_rd HOK2.out k (by omega))
        have hstep := hgo.out
        rw [drop_rd s k (by omega), rnGo_step a1 x _ k hk7] at hstep
        obtain ⟨b, hb⟩ : ∃ b, b = rd s k := ⟨_, rfl⟩
        rw [← hb] at hc hbb hstep
        clear hb hgo
        have hds := digit_step x b k hk7 hx.out hbb.out
        by_cases hb1 : b ≥ 128
        · rw [if_pos hb1] at hstep
          have hstep2 := Aside0.mk hstep
          have hds2 := Aside0.mk hds
          clear hstep hds
          go_wp2
          go_round
          case rel =>
            refine ⟨k + 1, by omega, by omega, by go_num, _, rfl, ⟨?_⟩, ⟨?_⟩⟩
            · rw [hds2.out]; exact digit_bound x b k hk7 hx.out hbb.out
            · rw [hds2.out]; exact hstep2.out
          case measure => simp [intOf]; omega
        · rw [if_neg hb1] at hstep
          have hv := digit_bound x b k hk7 hx.out hbb.out
          rw [← hds] at hstep hv
          have hds2 := Aside0.mk hds
          clear hds
          obtain ⟨y, hy⟩ : ∃ y, y = Go.bits .or .i64 x (wrap64 (wrap64 (Go.bits .and .u8 b 127) * 2 ^ (7 * k))) := ⟨_, rfl⟩
          rw [← hy] at hstep hv
          have hstep2 := Aside0.mk hstep
          have hy2 := hy.symm
          have hv2 := Aside0.mk hv
          clear hstep hy hv
          have hk0 : b = 0 → k = 0 → y ≤ 2147483647 := by
            intro e1 e2
            subst e2
            have := hv2.out
            simp at this; omega
          by_cases hz : b = 0
          · by_cases hk1 : k = 0
            · have hyb := hk0 hz hk1
              have he := hstep2.out
              rw [if_neg (by omega)] at he
              cases he
              have hz2 : (b == 0) = true := beq_iff_eq.mpr hz
              have hk2 : k ≤ 0 := by omega
              clear hz hk0 hk1
              go_wp2
              go_ret3
              exact ⟨by simp, Drawn0.refl _⟩
            · have he := hstep2.out
              rw [if_pos (by omega)] at he
              cases he
              have hz2 : (b == 0) = true := beq_iff_eq.mpr hz
              have hk2 : 0 < k := by omega
              clear hz hk0 hk1
              go_wp2
              go_ret3
              exact ⟨rfl, Drawn0.refl _⟩
          · have hz2 : (b == 0) = false := beq_eq_false_iff_ne.mpr hz
            by_cases hbig : y > 2147483647
            · have he := hstep2.out
              rw [if_pos (by omega)] at he
              cases he
              clear hz hk0
              go_wp2
              go_ret3
              exact ⟨rfl, Drawn0.refl _⟩
            · have he := hstep2.out
              rw [if_neg (by omega)] at he
              cases he
              clear hz hk0
              go_wp2
              go_ret3
              exact ⟨by simp, Drawn0.refl _⟩
    · have hkn : s.drop k = [] := List.drop_eq_nil_of_le (by omega)
      by_cases hk6 : k = 5
      · have he := hgo.out
        rw [hk6, rnGo] at he
        cases he
        have hge : (5 : Int) ≤ (l0.length : Int) - a1 := by omega
        clear hkn hk6
        go_wp2
        go_ret3
        exact ⟨rfl, Drawn0.refl _⟩
      · have he := hgo.out
        obtain ⟨m, hm⟩ : ∃ m, 5 - k = m + 1 := ⟨5 - (k + 1), by omega⟩
        rw [hkn, hm, rnGo] at he
        cases he
        have hge : (l0.length : Int) - a1 < 5 := by omega
        clear hkn hk6 hm
        go_wp2
        go_ret3
        exact ⟨rfl, Drawn0.refl _⟩

def wire_ReadText.f (l0 : List Int) (a1 : Int) : Option (ByteArray × Int × Int) := if bytesOk l0 = true ∧ l0.length ≤ 140737488355328 then some (strOfNums (readText l0 a1).1, (readText l0 a1).2.1, (readText l0 a1).2.2) else none
set_option maxHeartbeats 4000000 in
set_option maxRecDepth 100000 in
theorem wire_ReadText.calls (A0 : Option Addr) (c0 : Nat) (l0 : List Int) (a1 : Int) (r1 : ByteArray) (r2 r3 : Int) (w : World) (hr0 : Kd.C (Kd.int .u8) w A0 l0.length l0) (hc0 : l0.length ≤ c0) (h : wire_ReadText.f l0 a1 = some (r1, r2, r3)) :
    Calls Try.prog 102 #[.slice A0 l0.length c0, .int .i64 a1] w fun e w' => e = .returned (.tuple #[.string r1, .int .i64 r2, .int .i64 r3]) ∧ Drawn0 w w' := by
  unfold wire_ReadText.f at h
  split at h
  case isFalse => cases h
  rename_i hok
  have hnum : wire_ReadNumber.f l0 a1 = some (readNum l0 a1) := by unfold wire_ReadNumber.f; rw [if_pos hok]
  have hr := Option.some.inj h
  clear h
  obtain ⟨x, q, e, hxq⟩ : ∃ x q e, readNum l0 a1 = (x, q, e) := ⟨_, _, _, rfl⟩
  unfold readText at hr
  rw [hxq] at hr hnum
  have hm := hok.2
  clear hok
  have HR0 := Aside0.mk hr0
  have HC0 := Aside0.mk hc0
  have HN := Aside0.mk hnum
  have HX := Aside0.mk hxq
  clear hr0 hc0 hnum hxq
  simp only at hr
  by_cases h1 : e ≠ 0
  · rw [if_pos h1] at hr
    cases hr
    have h2 : (e == 0) = false := beq_eq_false_iff_ne.mpr h1
    have h3 : (e != 0) = true := bne_iff_ne.mpr h1
    clear h1
    go_enter Try.func102, Try.ntmps102
    go_wp2_with (go_at_call 101; refine (wire_ReadNumber.calls A0 c0 l0 a1 x q e _ HR0.out HC0.out HN.out).mono ?_; rintro e1 w1 ⟨rfl, ⟨nd, rfl⟩⟩)
    go_ret3
    exact ⟨rfl, ⟨⟨_, rfl⟩⟩⟩
  · rw [if_neg h1] at hr
    obtain rfl : e = 0 := by omega
    clear h1
    obtain ⟨g0, g1, g2, g3, g4⟩ := readNum_ok HX.out
    by_cases h2 : x > 262144
    · rw [if_pos h2] at hr
      cases hr
      go_enter Try.func102, Try.ntmps102
      go_wp2_with (go_at_call 101; refine (wire_ReadNumber.calls A0 c0 l0 a1 x q 0 _ HR0.out HC0.out HN.out).mono ?_; rintro e1 w1 ⟨rfl, ⟨nd, rfl⟩⟩)
      go_ret3
      exact ⟨rfl, ⟨⟨_, rfl⟩⟩⟩
    · rw [if_neg h2] at hr
      by_cases h3 : x > l0.length - q
      · rw [if_pos h3] at hr
        cases hr
        go_enter Try.func102, Try.ntmps102
        go_wp2_with (go_at_call 101; refine (wire_ReadNumber.calls A0 c0 l0 a1 x q 0 _ HR0.out HC0.out HN.out).mono ?_; rintro e1 w1 ⟨rfl, ⟨nd, rfl⟩⟩)
        go_ret3
        exact ⟨rfl, ⟨⟨_, rfl⟩⟩⟩
      · rw [if_neg h3] at hr
        have hr1 := Aside0.mk hr
        clear hr
        go_enter Try.func102, Try.ntmps102
        go_wp2_with (first | (go_at_call 101; refine (wire_ReadNumber.calls A0 c0 l0 a1 x q 0 _ HR0.out HC0.out HN.out).mono ?_; rintro e1 w1 ⟨rfl, ⟨nd, rfl⟩⟩) | (with_reducible refine stop_slice rfl ?_))
        refine mid8 rfl _ _ _ rfl rfl rfl rfl (by omega) (by omega) (by omega) HC0.out (Kd.C_drewN HR0.out nd) ?_
        intro A1 hr2
        have HR2 := Aside0.mk hr2
        clear hr2
        go_wp2_with (with_reducible refine stop_convert rfl ?_)
        refine str8 rfl _ rfl rfl HR2.out ?_
        go_wp2
        go_ret3
        have he := hr1.out
        cases he
        exact ⟨rfl, ⟨⟨_, rfl⟩⟩⟩

end Go.Proofs.Ytdbniihjkiecbaa.PW
namespace Go.Proofs.Ytdbniihjkiecbaa.PW
open Go.RowKit Go.Proofs.YtdbniihjkiecbaaW.PrintWords Go.Proofs.YtdbniihjkiecbaaW.PrintLast Go.Proofs.YtdbniihjkiecbaaW.PrintMore
attribute [local go_sem] max2_int min2_int max_two min_two max_three min_three max_four min_four   -- for this text's walks alone
set_option linter.unusedVariables false
set_option linter.unusedSimpArgs false

/-! ### journal_four: function 83 -/
def journal_four.f (l0 : List Int) : Option (Int) := if 0 < (l0.length : Int) then (if 1 < (l0.length : Int) then (if 2 < (l0.length : Int) then (if 3 < (l0.length : Int) then (some (Go.bits .or .i64 (Go.bits .or .i64 (Go.bits .or .i64 (wrap64 ((wrap64 (rd l0 0)) * 16777216)) (wrap64 ((wrap64 (rd l0 1)) * 65536))) (wrap64 ((wrap64 (rd l0 2)) * 256))) (wrap64 (rd l0 3)))) else (none)) else (none)) else (none)) else (none)
set_option maxHeartbeats 8000000 in
set_option maxRecDepth 100000 in
theorem journal_four.calls (A0 : Option Addr) (c0 : Nat) (l0 : List Int) (r : Int) (w : World) (hr0 : Kd.C (Kd.int .u8) w A0 l0.length l0) (hc0 : l0.length ≤ c0) (h : journal_four.f l0 = some r) :
    Calls Try.prog 83 #[.slice A0 l0.length c0] w fun e w' => e = .returned (.int .i64 r) ∧ Drawn0 w w' := by
  have HR0 := Aside0.mk hr0
  have HC0 := Aside0.mk hc0
  clear hr0 hc0
  have H : (if 0 < (l0.length : Int) then (if 1 < (l0.length : Int) then (if 2 < (l0.length : Int) then (if 3 < (l0.length : Int) then (some (Go.bits .or .i64 (Go.bits .or .i64 (Go.bits .or .i64 (wrap64 ((wrap64 (rd l0 0)) * 16777216)) (wrap64 ((wrap64 (rd l0 1)) * 65536))) (wrap64 ((wrap64 (rd l0 2)) * 256))) (wrap64 (rd l0 3)))) else (none)) else (none)) else (none)) else (none)) = some r := h
  clear h
  by_cases c2 : 0 < (l0.length : Int)
  · rw [if_pos c2] at H
    have c2b0 : decide (0 < (l0.length : Int)) = true := decide_eq_true c2
    have c2b1 : decide (0 < l0.length) = true := decide_eq_true (by omega)
    clear c2
    by_cases c3 : 1 < (l0.length : Int)
    · rw [if_pos c3] at H
      have c3b0 : decide (1 < (l0.length : Int)) = true := decide_eq_true c3
      have c3b1 : decide (1 < l0.length) = true := decide_eq_true (by omega)
      clear c3
      by_cases c4 : 2 < (l0.length : Int)
      · rw [if_pos c4] at H
        have c4b0 : decide (2 < (l0.length : Int)) = true := decide_eq_true c4
        have c4b1 : decide (2 < l0.length) = true := decide_eq_true (by omega)
        clear c4
        by_cases c5 : 3 < (l0.length : Int)
        · rw [if_pos c5] at H
          have c5b0 : decide (3 < (l0.length : Int)) = true := decide_eq_true c5
          have c5b1 : decide (3 < l0.length) = true := decide_eq_true (by omega)
          clear c5
          obtain rfl := Option.some.inj H
          have p107 : 0 ≤ (0 : Int) := (by omega)
          have q107 : 0 < (l0.length : Int) := of_decide_eq_true (by first | (with_reducible assumption) | assumption)
          obtain ⟨ad107, e107, hx107_0⟩ := Kd.at_int HR0.out 0 p107 q107
          cases e107
          have qi107 : (0 < l0.length) = True := eq_true (by omega)
          (try rw [show ((0 : Int)).toNat = 0 from rfl] at hx107_0)
          (try rw [Addr.add_zero'] at hx107_0)
          replace p107 := eq_true p107
          replace q107 := eq_true q107
          have p108 : 0 ≤ (1 : Int) := (by omega)
          have q108 : 1 < (l0.length : Int) := of_decide_eq_true (by first | (with_reducible assumption) | assumption)
          obtain ⟨ad108, e108, hx108_0⟩ := Kd.at_int HR0.out 1 p108 q108
          obtain rfl : ad107 = ad108 := (by injection e108)
          (try simp only [show (1 : Int).toNat = 1 from rfl, Nat.reduceMul, Nat.reduceEqDiff, Go.Addr.add, ↓reduceIte] at hx108_0)
          have qi108 : (1 < l0.length) = True := eq_true (by omega)
          (try rw [show ((1 : Int)).toNat = 1 from rfl] at hx108_0)
          replace p108 := eq_true p108
          replace q108 := eq_true q108
          have p109 : 0 ≤ (2 : Int) := (by omega)
          have q109 : 2 < (l0.length : Int) := of_decide_eq_true (by first | (with_reducible assumption) | assumption)
          obtain ⟨ad109, e109, hx109_0⟩ := Kd.at_int HR0.out 2 p109 q109
          obtain rfl : ad107 = ad109 := (by injection e109)
          (try simp only [show (2 : Int).toNat = 2 from rfl, Nat.reduceMul, Nat.reduceEqDiff, Go.Addr.add, ↓reduceIte] at hx109_0)
          have qi109 : (2 < l0.length) = True := eq_true (by omega)
          (try rw [show ((2 : Int)).toNat = 2 from rfl] at hx109_0)
          replace p109 := eq_true p109
          replace q109 := eq_true q109
          have p110 : 0 ≤ (3 : Int) := (by omega)
          have q110 : 3 < (l0.length : Int) := of_decide_eq_true (by first | (with_reducible assumption) | assumption)
          obtain ⟨ad110, e110, hx110_0⟩ := Kd.at_int HR0.out 3 p110 q110
          obtain rfl : ad107 = ad110 := (by injection e110)
          (try simp only [show (3 : Int).toNat = 3 from rfl, Nat.reduceMul, Nat.reduceEqDiff, Go.Addr.add, ↓reduceIte] at hx110_0)
          have qi110 : (3 < l0.length) = True := eq_true (by omega)
          (try rw [show ((3 : Int)).toNat = 3 from rfl] at hx110_0)
          replace p110 := eq_true p110
          replace q110 := eq_true q110
          go_enter Try.func83, Try.ntmps83
          go_wp2
          repeat (go_quiet (fail); try go_wp2)
          go_ret
          exact ⟨by first | rfl | (simp; done) | (simp [*]; done), by repeat (first | exact Drawn0.refl _ | apply Drawn0.step)⟩
        · rw [if_neg c5] at H
          exact absurd H (by simp)
      · rw [if_neg c4] at H
        exact absurd H (by simp)
    · rw [if_neg c3] at H
      exact absurd H (by simp)
  · rw [if_neg c2] at H
    exact absurd H (by simp)

-- NOT PRINTED: function 94 (slices_IndexFunc_int_int)

-- NOT PRINTED: function 86 (slices_ContainsFunc_int_int)

-- NOT PRINTED: function 77 (note_numbers)

-- NOT PRINTED: function 103 (api_Op_103)

-- NOT PRINTED: function 95 (api_Op_95)

-- NOT PRINTED: function 88 (api_Op_88)

-- NOT PRINTED: function 89 (note_mayOp)

-- NOT PRINTED: function 78 (note_mayOps)

-- NOT PRINTED: function 68 (note_mayEntry)

-- NOT PRINTED: function 97 (note_guarded)

-- NOT PRINTED: function 91 (note_DecodeEntry)


theorem Drawn0.quiet {f : FuncId} {args : Array Value} {w : World} {n : Nat} {v : Value} (h : Calls Try.prog f args (w.drewN n) fun e w' => e = .returned v ∧ Drawn0 (w.drewN n) w') :
    Calls Try.prog f args (w.drewN n) fun e w' => e = .returned v ∧ ∃ m, w' = w.drewN m :=
  h.mono fun _ w' ⟨he, hd⟩ => ⟨he, by obtain ⟨k, hk⟩ := hd.out; exact ⟨n + k, by rw [hk, World.drewN_drewN]⟩⟩
theorem readNum_N (A : Option Addr) (c n : Nat) (l : List Int) (a x q e : Int) (w : World) (hn : l.length = n) (hm : n ≤ 140737488355328) (hok : bytesOk l = true) (hc : n ≤ c) (hC : C8 w A n l) (hr : readNum l a = (x, q, e)) :
    Calls Try.prog 101 #[.slice A n c, .int .i64 a] w fun r w' => r = .returned (.tuple #[.int .i64 x, .int .i64 q, .int .i64 e]) ∧ Drawn0 w w' := by
  subst hn
  refine wire_ReadNumber.calls A c l a x q e w hC hc ?_
  unfold wire_ReadNumber.f
  rw [if_pos ⟨hok, hm⟩, hr]
set_option maxHeartbeats 8000000 in
set_option maxRecDepth 100000 in
theorem rd_number (w0 w : World) (rb n c : Nat) (A : Option Addr) (l : List Int) (at_ x q : Int) (hn : l.length = n) (hc : n ≤ c) (hok : bytesOk l = true) (hm : n ≤ 140737488355328) (hC : C8 w0 A n l) (hB : Below w0.heap.size w0 w) (hg : w.heap[rb]? = some (.cells #[.slice A n c, .int .i64 at_] 147 (0, 0))) (hr : readNum l at_ = (x, q, 0)) :
    Calls Try.prog 92 #[.pointer (some ⟨rb, 0, none⟩)] w fun e w' => e = .returned (.int .i64 x) ∧ w'.heap[rb]? = some (.cells #[.slice A n c, .int .i64 q] 147 (0, 0)) ∧ Frm w w' (fun k => k = rb) := by
  have hu147 := Try.underlying147
  have HN := Aside0.mk hn
  have HC := Aside0.mk (Kd.C_below hC hB)
  have HCC := Aside0.mk hc
  have HOK := Aside0.mk hok
  have HM := Aside0.mk hm
  have HR := Aside0.mk hr
  have HG := Aside0.mk hg
  have k0 : w.cell? ⟨rb, 0, none⟩ = some (.slice A n c) := blk_cell hg 0
  have k1 : w.cell? ⟨rb, 1, none⟩ = some (.int .i64 at_) := blk_cell hg 1
  have z1 : w.frozen? ⟨rb, 1, none⟩ = false := blk_frozen hg 1
  clear hn hc hok hm hC hB hg hr
  go_enter Try.func92, Try.ntmps92
  go_wp2_with fail
  go_quiet (first | (go_at_call 101; exact Drawn0.quiet (readNum_N A c n l at_ x q 0 _ HN.out HM.out HOK.out HCC.out (by repeat (first | exact HC.out | apply Kd.C_drewN | apply Kd.C_drew)) HR.out)))
  go_wp2; go_ret
  have hb := (show Below w.heap.size w (w.drewN nq) from Drawn0.below ⟨⟨nq, rfl⟩⟩)
  exact ⟨rfl, blk_put ((hb.block rb (blk_lt HG.out)).trans HG.out) 1 _ rfl, Frm.set_ (p := ⟨rb, 1, none⟩) (Frm.of_below hb (fun k => k = rb)) (.inl rfl) _⟩
/-- The deferred closure of read, where nothing panics. -/
theorem read_idle (a b c : Value) (w : World) :
    CallsD Try.prog 82 #[a, b, c] .returning w fun e u' w' => e = .returned (.tuple #[]) ∧ u' = .returning ∧ w' = w := by
  refine callsD_of_wpS Try.func82 rfl fun c₀ cs hu => ?_
  apply wpS_seq
  apply wpS_region
  simp [wpOpsS, go_sem, recoverD, hu, Try.ntmps82, Exit.thenS]
  apply wpS_seq
  apply wpS_region
  simp [wpOpsS, go_sem, Exit.thenS]
  refine wpS_cond (t := false) (by simp [Act.eval, Array.replicate]) ?_
  simp only [Bool.false_eq_true, if_false]
  refine wpS_of_wp (wp_skip ?_)
  cases c₀
  simp_all [bodyPostS, results, Try.results82]

theorem readText_N (A : Option Addr) (c n : Nat) (l : List Int) (a : Int) (x : List Int) (q e : Int) (w : World) (hn : l.length = n) (hm : n ≤ 140737488355328) (hok : bytesOk l = true) (hc : n ≤ c) (hC : C8 w A n l) (hr : readText l a = (x, q, e)) :
    Calls Try.prog 102 #[.slice A n c, .int .i64 a] w fun r w' => r = .returned (.tuple #[.string (strOfNums x), .int .i64 q, .int .i64 e]) ∧ Drawn0 w w' := by
  subst hn
  refine wire_ReadText.calls A c l a (strOfNums x) q e w hC hc ?_
  unfold wire_ReadText.f
  rw [if_pos ⟨hok, hm⟩, hr]
/-- What stands at a place is read. -/
theorem readNum_drop {l t : List Int} {v : Int} {i : Nat} (h0 : 0 ≤ v) (h1 : v ≤ 2147483647) (hi : i ≤ l.length) (h : l.drop i = (numEnc v).1 ++ t) : readNum l (i : Int) = (v, ((i + (numEnc v).1.length : Nat) : Int), 0) := by
  have e : (numEnc v).1 = numBytes 4 v := by unfold numEnc; rw [if_neg (by omega)]
  rw [e] at h ⊢
  have := readNum_written (l.take i) t v h0 h1
  rw [← h, List.take_append_drop, List.length_take, Nat.min_eq_left hi] at this
  exact this
theorem readText_drop {l t : List Int} {s : ByteArray} {i : Nat} (hs : s.size ≤ 262144) (hi : i ≤ l.length) (h : l.drop i = (textEnc s).1 ++ t) : readText l (i : Int) = (bytesOf s, ((i + (textEnc s).1.length : Nat) : Int), 0) := by
  have e : (textEnc s).1 = numBytes 4 (bytesOf s).length ++ bytesOf s := by unfold textEnc; rw [if_neg (by omega), bytesOf_length]
  rw [e] at h ⊢
  have := readText_written (l.take i) t (bytesOf s) (by rw [bytesOf_length]; exact hs)
  rw [← h, List.take_append_drop, List.length_take, Nat.min_eq_left hi] at this
  exact this
theorem drop_next {l a t : List Int} {i : Nat} (h : l.drop i = a ++ t) : l.drop (i + a.length) = t := by
  rw [← List.drop_drop, h, List.drop_left]
theorem drop_le {l a t : List Int} {i n : Nat} (hn : l.length = n) (hi : i ≤ n) (h : l.drop i = a ++ t) : i + a.length ≤ n := by
  have := congrArg List.length h
  rw [List.length_drop, List.length_append] at this
  omega
set_option maxHeartbeats 8000000 in
set_option maxRecDepth 100000 in
theorem nr_number (w0 w : World) (rb n c : Nat) (A : Option Addr) (l : List Int) (at_ x q : Int) (hn : l.length = n) (hc : n ≤ c) (hok : bytesOk l = true) (hm : n ≤ 140737488355328) (hC : C8 w0 A n l) (hB : Below w0.heap.size w0 w) (hg : w.heap[rb]? = some (.cells #[.slice A n c, .int .i64 at_] 163 (0, 0))) (hr : readNum l at_ = (x, q, 0)) :
    Calls Try.prog 105 #[.pointer (some ⟨rb, 0, none⟩)] w fun e w' => e = .returned (.int .i64 x) ∧ w'.heap[rb]? = some (.cells #[.slice A n c, .int .i64 q] 163 (0, 0)) ∧ Frm w w' (fun k => k = rb) := by
  have hu163 := Try.underlying163
  have HN := Aside0.mk hn
  have HC := Aside0.mk (Kd.C_below hC hB)
  have HCC := Aside0.mk hc
  have HOK := Aside0.mk hok
  have HM := Aside0.mk hm
  have HR := Aside0.mk hr
  have HG := Aside0.mk hg
  have k0 : w.cell? ⟨rb, 0, none⟩ = some (.slice A n c) := blk_cell hg 0
  have k1 : w.cell? ⟨rb, 1, none⟩ = some (.int .i64 at_) := blk_cell hg 1
  have z1 : w.frozen? ⟨rb, 1, none⟩ = false := blk_frozen hg 1
  clear hn hc hok hm hC hB hg hr
  go_enter Try.func105, Try.ntmps105
  go_wp2_with fail
  go_quiet (first | (go_at_call 101; exact Drawn0.quiet (readNum_N A c n l at_ x q 0 _ HN.out HM.out HOK.out HCC.out (by repeat (first | exact HC.out | apply Kd.C_drewN | apply Kd.C_drew)) HR.out)))
  go_wp2; go_ret
  have hb := (show Below w.heap.size w (w.drewN nq) from Drawn0.below ⟨⟨nq, rfl⟩⟩)
  exact ⟨rfl, blk_put ((hb.block rb (blk_lt HG.out)).trans HG.out) 1 _ rfl, Frm.set_ (p := ⟨rb, 1, none⟩) (Frm.of_below hb (fun k => k = rb)) (.inl rfl) _⟩
set_option maxHeartbeats 8000000 in
set_option maxRecDepth 100000 in
theorem rd_text (w0 w : World) (rb n c : Nat) (A : Option Addr) (l : List Int) (at_ q : Int) (x : List Int) (hn : l.length = n) (hc : n ≤ c) (hok : bytesOk l = true) (hm : n ≤ 140737488355328) (hC : C8 w0 A n l) (hB : Below w0.heap.size w0 w) (hg : w.heap[rb]? = some (.cells #[.slice A n c, .int .i64 at_] 147 (0, 0))) (hr : readText l at_ = (x, q, 0)) :
    Calls Try.prog 93 #[.pointer (some ⟨rb, 0, none⟩)] w fun e w' => e = .returned (.string (strOfNums x)) ∧ w'.heap[rb]? = some (.cells #[.slice A n c, .int .i64 q] 147 (0, 0)) ∧ Frm w w' (fun k => k = rb) := by
  have hu147 := Try.underlying147
  have HN := Aside0.mk hn
  have HC := Aside0.mk (Kd.C_below hC hB)
  have HCC := Aside0.mk hc
  have HOK := Aside0.mk hok
  have HM := Aside0.mk hm
  have HR := Aside0.mk hr
  have HG := Aside0.mk hg
  have k0 : w.cell? ⟨rb, 0, none⟩ = some (.slice A n c) := blk_cell hg 0
  have k1 : w.cell? ⟨rb, 1, none⟩ = some (.int .i64 at_) := blk_cell hg 1
  have z1 : w.frozen? ⟨rb, 1, none⟩ = false := blk_frozen hg 1
  clear hn hc hok hm hC hB hg hr
  go_enter Try.func93, Try.ntmps93
  go_wp2_with fail
  go_quiet (first | (go_at_call 102; exact Drawn0.quiet (readText_N A c n l at_ x q 0 _ HN.out HM.out HOK.out HCC.out (by repeat (first | exact HC.out | apply Kd.C_drewN | apply Kd.C_drew)) HR.out)))
  go_wp2; go_ret
  have hb := (show Below w.heap.size w (w.drewN nq) from Drawn0.below ⟨⟨nq, rfl⟩⟩)
  exact ⟨rfl, blk_put ((hb.block rb (blk_lt HG.out)).trans HG.out) 1 _ rfl, Frm.set_ (p := ⟨rb, 1, none⟩) (Frm.of_below hb (fun k => k = rb)) (.inl rfl) _⟩
set_option maxHeartbeats 8000000 in
set_option maxRecDepth 100000 in
theorem nr_text (w0 w : World) (rb n c : Nat) (A : Option Addr) (l : List Int) (at_ q : Int) (x : List Int) (hn : l.length = n) (hc : n ≤ c) (hok : bytesOk l = true) (hm : n ≤ 140737488355328) (hC : C8 w0 A n l) (hB : Below w0.heap.size w0 w) (hg : w.heap[rb]? = some (.cells #[.slice A n c, .int .i64 at_] 163 (0, 0))) (hr : readText l at_ = (x, q, 0)) :
    Calls Try.prog 108 #[.pointer (some ⟨rb, 0, none⟩)] w fun e w' => e = .returned (.string (strOfNums x)) ∧ w'.heap[rb]? = some (.cells #[.slice A n c, .int .i64 q] 163 (0, 0)) ∧ Frm w w' (fun k => k = rb) := by
  have hu163 := Try.underlying163
  have HN := Aside0.mk hn
  have HC := Aside0.mk (Kd.C_below hC hB)
  have HCC := Aside0.mk hc
  have HOK := Aside0.mk hok
  have HM := Aside0.mk hm
  have HR := Aside0.mk hr
  have HG := Aside0.mk hg
  have k0 : w.cell? ⟨rb, 0, none⟩ = some (.slice A n c) := blk_cell hg 0
  have k1 : w.cell? ⟨rb, 1, none⟩ = some (.int .i64 at_) := blk_cell hg 1
  have z1 : w.frozen? ⟨rb, 1, none⟩ = false := blk_frozen hg 1
  clear hn hc hok hm hC hB hg hr
  go_enter Try.func108, Try.ntmps108
  go_wp2_with fail
  go_quiet (first | (go_at_call 102; exact Drawn0.quiet (readText_N A c n l at_ x q 0 _ HN.out HM.out HOK.out HCC.out (by repeat (first | exact HC.out | apply Kd.C_drewN | apply Kd.C_drew)) HR.out)))
  go_wp2; go_ret
  have hb := (show Below w.heap.size w (w.drewN nq) from Drawn0.below ⟨⟨nq, rfl⟩⟩)
  exact ⟨rfl, blk_put ((hb.block rb (blk_lt HG.out)).trans HG.out) 1 _ rfl, Frm.set_ (p := ⟨rb, 1, none⟩) (Frm.of_below hb (fun k => k = rb)) (.inl rfl) _⟩

/-- An op stands at place i, up to q. -/
def OpAt (l : List Int) (i : Int) (o : S40) (q : Int) : Prop :=
  ∃ q1 q2 q3 q4 b1 b2, readNum l i = (o.f0, q1, 0) ∧ readText l q1 = (b1, q2, 0) ∧ strOfNums b1 = o.f1 ∧ readText l q2 = (b2, q3, 0) ∧ strOfNums b2 = o.f2 ∧
    ((o.f3 = -1 ∧ readNum l q3 = (0, q4, 0) ∧ readNum l q4 = (o.f4, q, 0)) ∨ ∃ q5, readNum l q3 = (1, q4, 0) ∧ readNum l q4 = (o.f3, q5, 0) ∧ readNum l q5 = (o.f4, q, 0))
set_option maxHeartbeats 4000000 in
set_option maxRecDepth 100000 in
theorem nr_truth (w0 w : World) (rb n c : Nat) (A : Option Addr) (l : List Int) (at_ x q : Int) (b : Bool) (hx : x = if b then 1 else 0) (hn : l.length = n) (hc : n ≤ c) (hok : bytesOk l = true) (hm : n ≤ 140737488355328) (hC : C8 w0 A n l) (hB : Below w0.heap.size w0 w) (hg : w.heap[rb]? = some (.cells #[.slice A n c, .int .i64 at_] 163 (0, 0))) (hr : readNum l at_ = (x, q, 0)) :
    Calls Try.prog 109 #[.pointer (some ⟨rb, 0, none⟩)] w fun e w' => e = .returned (.bool b) ∧ w'.heap[rb]? = some (.cells #[.slice A n c, .int .i64 q] 163 (0, 0)) ∧ Frm w w' (fun k => k = rb) := by
  have HC := Aside0.mk hC
  have HB := Aside0.mk hB
  have HG := Aside0.mk hg
  clear hC hB hg
  go_enter Try.func109, Try.ntmps109
  go_wp2_with fail
  refine (nr_number w0 w rb n c A l at_ x q hn hc hok hm HC.out HB.out HG.out hr).mono ?_
  rintro e w1 ⟨rfl, hg1, hf1⟩
  have HG1 := Aside0.mk hg1
  have HF1 := Aside0.mk hf1
  clear hg1 hf1 hr
  cases b with
  | true =>
    simp only [if_true] at hx
    subst hx
    go_wp2; go_ret
    exact ⟨rfl, HG1.out, HF1.out⟩
  | false =>
    simp only [Bool.false_eq_true, if_false] at hx
    subst hx
    go_wp2; go_ret
    exact ⟨rfl, HG1.out, HF1.out⟩
abbrev opArr (o : S40) : Array Value := #[.int .i64 o.f0, .string o.f1, .string o.f2, .int .i64 o.f3, .int .i64 o.f4]
abbrev opZero : Array Value := #[.int .i64 0, .string ⟨#[]⟩, .string ⟨#[]⟩, .int .i64 0, .int .i64 0]
set_option maxHeartbeats 8000000 in
set_option maxRecDepth 100000 in
theorem get_op (w0 w : World) (rb n c : Nat) (A : Option Addr) (l : List Int) (at_ q : Int) (o : S40) (hn : l.length = n) (hc : n ≤ c) (hok : bytesOk l = true) (hm : n ≤ 140737488355328) (hC : C8 w0 A n l) (hB : Below w0.heap.size w0 w) (hrb : w0.heap.size ≤ rb) (hg : w.heap[rb]? = some (.cells #[.slice A n c, .int .i64 at_] 163 (0, 0))) (hr : OpAt l at_ o q) :
    Calls Try.prog 107 #[.pointer (some ⟨rb, 0, none⟩)] w fun e w' => e = .returned (.agg (opArr o)) ∧ w'.heap[rb]? = some (.cells #[.slice A n c, .int .i64 q] 163 (0, 0)) ∧ Frm w w' (fun k => k = rb) := by
  obtain ⟨q1, q2, q3, q4, b1, b2, hr1, hr2, hs1, hr3, hs2, hr4⟩ := hr
  have hu40 := Try.underlying40
  have HN := Aside0.mk hn
  have HC := Aside0.mk hC
  have HCC := Aside0.mk hc
  have HOK := Aside0.mk hok
  have HM := Aside0.mk hm
  have HR1 := Aside0.mk hr1
  have HR2 := Aside0.mk hr2
  have HR3 := Aside0.mk hr3
  have HR4 := Aside0.mk hr4
  have HS := Aside0.mk (And.intro hs1 hs2)
  have HG := Aside0.mk hg
  have HB := Aside0.mk hB
  have HRB := Aside0.mk hrb
  have HWW := Aside0.mk hB.size
  clear hn hc hok hm hC hB hg hr1 hr2 hr3 hr4 hrb hs1 hs2
  go_enter Try.func107, Try.ntmps107
  go_wp2_with fail
  obtain ⟨f, hf⟩ : ∃ f, f = w.heap.size := ⟨_, rfl⟩
  obtain ⟨v0, hv0⟩ : ∃ v0, v0 = w.alloc (.cells opZero 40) := ⟨_, rfl⟩
  rw [← hv0, ← hf]
  have HW1 := Aside0.mk (show Below w.heap.size w v0 by rw [hv0]; exact below_alloc (Below.refl _ _) _)
  have HF0 := Aside0.mk (show v0.heap[f]? = some (.cells opZero 40 (0, 0)) by rw [hv0, hf]; exact heap_alloc_new w _)
  have HB0 := Aside0.mk (below_step HB.out HW1.out)
  have HX0 := Aside0.mk (Frm.of_below HW1.out (fun k => k = rb))
  have HG0 := Aside0.mk ((HW1.out.block rb (blk_lt HG.out)).trans HG.out)
  have HFT := Aside0.mk (show f ≠ rb by have := blk_lt HG.out; omega)
  have HFW := Aside0.mk (show w.heap.size ≤ f by omega)
  clear hf hv0 HW1 HG HB
  refine (nr_number w0 v0 rb n c A l at_ o.f0 q1 HN.out HCC.out HOK.out HM.out HC.out HB0.out HG0.out HR1.out).mono ?_
  rintro e1 v1 ⟨rfl, hg1, hf1⟩
  have HG1 := Aside0.mk hg1
  have HB1 := Aside0.mk (below_frm HB0.out hf1 (N := w0.heap.size) (fun k hk => by rw [hk]; exact HRB.out) (Nat.le_refl _))
  have HX1 := Aside0.mk (HX0.out.then_ hf1 (fun k hk _ => hk))
  have HF1 := Aside0.mk (hf1.blk HF0.out (fun e => HFT.out e))
  clear hg1 hf1 HG0 HB0 HX0 HF0
  go_wp2_with fail
  refine (nr_text w0 v1 rb n c A l q1 q2 b1 HN.out HCC.out HOK.out HM.out HC.out HB1.out HG1.out HR2.out).mono ?_
  rintro e2 v2 ⟨rfl, hg2, hf2⟩
  have HG2 := Aside0.mk hg2
  have HB2 := Aside0.mk (below_frm HB1.out hf2 (N := w0.heap.size) (fun k hk => by rw [hk]; exact HRB.out) (Nat.le_refl _))
  have HX2 := Aside0.mk (HX1.out.then_ hf2 (fun k hk _ => hk))
  have HF2 := Aside0.mk (hf2.blk HF1.out (fun e => HFT.out e))
  clear hg2 hf2 HG1 HB1 HX1 HF1
  go_wp2_with fail
  refine (nr_text w0 v2 rb n c A l q2 q3 b2 HN.out HCC.out HOK.out HM.out HC.out HB2.out HG2.out HR3.out).mono ?_
  rintro e3 v3 ⟨rfl, hg3, hf3⟩
  have HG3 := Aside0.mk hg3
  have HB3 := Aside0.mk (below_frm HB2.out hf3 (N := w0.heap.size) (fun k hk => by rw [hk]; exact HRB.out) (Nat.le_refl _))
  have HX3 := Aside0.mk (HX2.out.then_ hf3 (fun k hk _ => hk))
  have HF3 := Aside0.mk (hf3.blk HF2.out (fun e => HFT.out e))
  clear hg3 hf3 HG2 HB2 HX2 HF2
  rw [HS.out.1, HS.out.2]
  go_wp2_with fail
  obtain ⟨g, hg⟩ : ∃ g, g = v3.heap.size := ⟨_, rfl⟩
  obtain ⟨v4, hv4⟩ : ∃ v4, v4 = v3.alloc (.cells #[.int .i64 o.f0, .string o.f1, .string o.f2, .int .i64 (-1), .int .i64 0] 40) := ⟨_, rfl⟩
  rw [← hv4, ← hg]
  have HW4 := Aside0.mk (show Below v3.heap.size v3 v4 by rw [hv4]; exact below_alloc (Below.refl _ _) _)
  have HT4 := Aside0.mk (show v4.heap[g]? = some (.cells #[.int .i64 o.f0, .string o.f1, .string o.f2, .int .i64 (-1), .int .i64 0] 40 (0, 0)) by rw [hv4, hg]; exact heap_alloc_new v3 _)
  have HF4 := Aside0.mk ((HW4.out.block f (blk_lt HF3.out)).trans HF3.out)
  have HG4 := Aside0.mk ((HW4.out.block rb (blk_lt HG3.out)).trans HG3.out)
  have HB4 := Aside0.mk (below_step HB3.out HW4.out)
  have HX4 := Aside0.mk (HX3.out.step HW4.out)
  have HTT := Aside0.mk (show g ≠ rb by have := blk_lt HG3.out; omega)
  have HTF := Aside0.mk (show f ≠ g ∧ w.heap.size ≤ g by have := blk_lt HF3.out; have := HX3.out.size; omega)
  clear hg hv4 HW4 HF3 HG3 HB3 HX3
  rcases HR4.out with ⟨h3, hr4, hr5⟩ | ⟨q5, hr4, hr5, hr6⟩
  · have HR5 := Aside0.mk hr5
    have H3 := Aside0.mk h3
    refine (nr_truth w0 v4 rb n c A l q3 0 q4 false rfl HN.out HCC.out HOK.out HM.out HC.out HB4.out HG4.out hr4).mono ?_
    clear hr4 hr5 h3
    rintro e5 v5 ⟨rfl, hg5, hf5⟩
    have HG5 := Aside0.mk hg5
    have HB5 := Aside0.mk (below_frm HB4.out hf5 (N := w0.heap.size) (fun k hk => by rw [hk]; exact HRB.out) (Nat.le_refl _))
    have HX5 := Aside0.mk (HX4.out.then_ hf5 (fun k hk _ => hk))
    have HF5 := Aside0.mk (hf5.blk HF4.out (fun e => HFT.out e))
    have HT5 := Aside0.mk (hf5.blk HT4.out (fun e => HTT.out e))
    clear hg5 hf5 HG4 HB4 HX4 HF4 HT4
    go_wp2_with fail
    refine (nr_number w0 v5 rb n c A l q4 o.f4 q HN.out HCC.out HOK.out HM.out HC.out HB5.out HG5.out HR5.out).mono ?_
    rintro e6 v6 ⟨rfl, hg6, hf6⟩
    have HG6 := Aside0.mk hg6
    have HB6 := Aside0.mk (below_frm HB5.out hf6 (N := w0.heap.size) (fun k hk => by rw [hk]; exact HRB.out) (Nat.le_refl _))
    have HX6 := Aside0.mk (HX5.out.then_ hf6 (fun k hk _ => hk))
    have HF6 := Aside0.mk (hf6.blk HF5.out (fun e => HFT.out e))
    have HT6 := Aside0.mk (hf6.blk HT5.out (fun e => HTT.out e))
    clear hg6 hf6 HG5 HB5 HX5 HF5 HT5
    have HT6 := Aside0.mk (show v6.heap[g]? = some (.cells #[.int .i64 o.f0, .string o.f1, .string o.f2, .int .i64 o.f3, .int .i64 0] 40 (0, 0)) by rw [H3.out]; exact HT6.out)
    have t4 := (blk_cell HT6.out 4).trans rfl
    have z4 := blk_frozen HT6.out 4
    go_wp2_with (with_reducible refine stop_dst (N := 19) rfl ?_)
    refine Stop.go ?_
    clear t4 z4
    obtain ⟨wy, hwy⟩ : ∃ wy, wy = v6.setCell ⟨g, 4, none⟩ (.int .i64 o.f4) := ⟨_, rfl⟩
    rw [← hwy]
    have HTY := Aside0.mk (show wy.heap[g]? = some (.cells (opArr o) 40 (0, 0)) by rw [hwy]; exact blk_put HT6.out 4 _ rfl)
    have HFY := Aside0.mk (show wy.heap[f]? = some (.cells opZero 40 (0, 0)) by rw [hwy]; exact blk_far HF6.out (by simp only; exact HTF.out.1) _)
    have HGY := Aside0.mk (show wy.heap[rb]? = some (.cells #[.slice A n c, .int .i64 q] 163 (0, 0)) by rw [hwy]; exact blk_far HG6.out (by simp only; exact fun e => HTT.out e.symm) _)
    have HXY := Aside0.mk (show Frm w wy (fun k => k = rb) by rw [hwy]; exact HX6.out.set_ (p := ⟨g, 4, none⟩) (.inr HTF.out.2) _)
    clear hwy HT6 HF6 HG6 HX6 HB6
    have y0 := (blk_cell HTY.out 0).trans rfl
    have y1 := (blk_cell HTY.out 1).trans rfl
    have y2 := (blk_cell HTY.out 2).trans rfl
    have y3 := (blk_cell HTY.out 3).trans rfl
    have y4 := (blk_cell HTY.out 4).trans rfl
    go_wp2_with (with_reducible refine stop_store rfl ?_)
    refine store_blk rfl rfl 40 _ _ rfl (q := f) (i := 0) (cur' := opArr o) (opArr o).toList rfl rfl rfl (by kernel_rfl) (by intro u hu; simp at hu; rcases hu with rfl | rfl | rfl | rfl | rfl <;> rfl) HFY.out (by simp) rfl ?_
    intro wz hz hgz
    have HRZ := Aside0.mk ((hgz.block rb (blk_lt HGY.out) (fun e => HFT.out (Option.some.inj e).symm)).trans HGY.out)
    have HXZ := Aside0.mk (HXY.out.then_ (Frm.of_grown (S := fun k => k = f) hgz (fun k e => (Option.some.inj e).symm)) (fun k hk hlt => by have := HFW.out; omega))
    clear hgz y0 y1 y2 y3 y4
    go_wp2
    refine bodyPost_ret (results_cell_row rfl _ _ f 40 (opArr o) (0, 0) _ rfl hz Try.underlying40 rfl (by kernel_rfl)) rfl ?_
    exact ⟨rfl, HRZ.out, HXZ.out⟩
  · have HR5 := Aside0.mk hr5
    have HR6 := Aside0.mk hr6
    refine (nr_truth w0 v4 rb n c A l q3 1 q4 true rfl HN.out HCC.out HOK.out HM.out HC.out HB4.out HG4.out hr4).mono ?_
    clear hr4 hr5 hr6
    rintro e5 v5 ⟨rfl, hg5, hf5⟩
    have HG5 := Aside0.mk hg5
    have HB5 := Aside0.mk (below_frm HB4.out hf5 (N := w0.heap.size) (fun k hk => by rw [hk]; exact HRB.out) (Nat.le_refl _))
    have HX5 := Aside0.mk (HX4.out.then_ hf5 (fun k hk _ => hk))
    have HF5 := Aside0.mk (hf5.blk HF4.out (fun e => HFT.out e))
    have HT5 := Aside0.mk (hf5.blk HT4.out (fun e => HTT.out e))
    clear hg5 hf5 HG4 HB4 HX4 HF4 HT4
    go_wp2_with fail
    refine (nr_number w0 v5 rb n c A l q4 o.f3 q5 HN.out HCC.out HOK.out HM.out HC.out HB5.out HG5.out HR5.out).mono ?_
    rintro e6 v6 ⟨rfl, hg6, hf6⟩
    have HG6 := Aside0.mk hg6
    have HB6 := Aside0.mk (below_frm HB5.out hf6 (N := w0.heap.size) (fun k hk => by rw [hk]; exact HRB.out) (Nat.le_refl _))
    have HX6 := Aside0.mk (HX5.out.then_ hf6 (fun k hk _ => hk))
    have HF6 := Aside0.mk (hf6.blk HF5.out (fun e => HFT.out e))
    have HT6 := Aside0.mk (hf6.blk HT5.out (fun e => HTT.out e))
    clear hg6 hf6 HG5 HB5 HX5 HF5 HT5
    have t3 := (blk_cell HT6.out 3).trans rfl
    have z3 := blk_frozen HT6.out 3
    go_wp2_with fail
    clear t3 z3
    obtain ⟨v7, hv7⟩ : ∃ v7, v7 = v6.setCell ⟨g, 3, none⟩ (.int .i64 o.f3) := ⟨_, rfl⟩
    rw [← hv7]
    have HT7 := Aside0.mk (show v7.heap[g]? = some (.cells #[.int .i64 o.f0, .string o.f1, .string o.f2, .int .i64 o.f3, .int .i64 0] 40 (0, 0)) by rw [hv7]; exact blk_put HT6.out 3 _ rfl)
    have HF7 := Aside0.mk (show v7.heap[f]? = some (.cells opZero 40 (0, 0)) by rw [hv7]; exact blk_far HF6.out (by simp only; exact HTF.out.1) _)
    have HG7 := Aside0.mk (show v7.heap[rb]? = some (.cells #[.slice A n c, .int .i64 q5] 163 (0, 0)) by rw [hv7]; exact blk_far HG6.out (by simp only; exact fun e => HTT.out e.symm) _)
    have HX7 := Aside0.mk (show Frm w v7 (fun k => k = rb) by rw [hv7]; exact HX6.out.set_ (p := ⟨g, 3, none⟩) (.inr HTF.out.2) _)
    have HB7 := Aside0.mk (show Below w0.heap.size w0 v7 by rw [hv7]; exact HB6.out.setCell (p := ⟨g, 3, none⟩) (by have := HTF.out.2; have := HWW.out; simp only; omega) _)
    clear hv7 HT6 HF6 HG6 HX6 HB6
    refine (nr_number w0 v7 rb n c A l q5 o.f4 q HN.out HCC.out HOK.out HM.out HC.out HB7.out HG7.out HR6.out).mono ?_
    rintro e8 v8 ⟨rfl, hg8, hf8⟩
    have HG8 := Aside0.mk hg8
    have HB8 := Aside0.mk (below_frm HB7.out hf8 (N := w0.heap.size) (fun k hk => by rw [hk]; exact HRB.out) (Nat.le_refl _))
    have HX8 := Aside0.mk (HX7.out.then_ hf8 (fun k hk _ => hk))
    have HF8 := Aside0.mk (hf8.blk HF7.out (fun e => HFT.out e))
    have HT8 := Aside0.mk (hf8.blk HT7.out (fun e => HTT.out e))
    clear hg8 hf8 HG7 HB7 HX7 HF7 HT7
    have t4 := (blk_cell HT8.out 4).trans rfl
    have z4 := blk_frozen HT8.out 4
    go_wp2_with (with_reducible refine stop_dst (N := 19) rfl ?_)
    refine Stop.go ?_
    clear t4 z4
    obtain ⟨wy, hwy⟩ : ∃ wy, wy = v8.setCell ⟨g, 4, none⟩ (.int .i64 o.f4) := ⟨_, rfl⟩
    rw [← hwy]
    have HTY := Aside0.mk (show wy.heap[g]? = some (.cells (opArr o) 40 (0, 0)) by rw [hwy]; exact blk_put HT8.out 4 _ rfl)
    have HFY := Aside0.mk (show wy.heap[f]? = some (.cells opZero 40 (0, 0)) by rw [hwy]; exact blk_far HF8.out (by simp only; exact HTF.out.1) _)
    have HGY := Aside0.mk (show wy.heap[rb]? = some (.cells #[.slice A n c, .int .i64 q] 163 (0, 0)) by rw [hwy]; exact blk_far HG8.out (by simp only; exact fun e => HTT.out e.symm) _)
    have HXY := Aside0.mk (show Frm w wy (fun k => k = rb) by rw [hwy]; exact HX8.out.set_ (p := ⟨g, 4, none⟩) (.inr HTF.out.2) _)
    clear hwy HT8 HF8 HG8 HX8 HB8
    have y0 := (blk_cell HTY.out 0).trans rfl
    have y1 := (blk_cell HTY.out 1).trans rfl
    have y2 := (blk_cell HTY.out 2).trans rfl
    have y3 := (blk_cell HTY.out 3).trans rfl
    have y4 := (blk_cell HTY.out 4).trans rfl
    go_wp2_with (with_reducible refine stop_store rfl ?_)
    refine store_blk rfl rfl 40 _ _ rfl (q := f) (i := 0) (cur' := opArr o) (opArr o).toList rfl rfl rfl (by kernel_rfl) (by intro u hu; simp at hu; rcases hu with rfl | rfl | rfl | rfl | rfl <;> rfl) HFY.out (by simp) rfl ?_
    intro wz hz hgz
    have HRZ := Aside0.mk ((hgz.block rb (blk_lt HGY.out) (fun e => HFT.out (Option.some.inj e).symm)).trans HGY.out)
    have HXZ := Aside0.mk (HXY.out.then_ (Frm.of_grown (S := fun k => k = f) hgz (fun k e => (Option.some.inj e).symm)) (fun k hk hlt => by have := HFW.out; omega))
    clear hgz y0 y1 y2 y3 y4
    go_wp2
    refine bodyPost_ret (results_cell_row rfl _ _ f 40 (opArr o) (0, 0) _ rfl hz Try.underlying40 rfl (by kernel_rfl)) rfl ?_
    exact ⟨rfl, HRZ.out, HXZ.out⟩

abbrev entZero : Array Value := #[.int .i64 0, .int .i64 0, .int .i64 0, .int .i64 0, .int .i64 0, .slice none 0 0]
/-- Ops stand at place i, up to q. -/
def OpsAt (l : List Int) : Int → List S40 → Int → Prop
  | i, [], q => q = i
  | i, o :: os, q => ∃ q', OpAt l i o q' ∧ OpsAt l q' os q
/-- An entry stands at place i, up to q. -/
def EntAt (l : List Int) (i s v k se rq : Int) (ops : List S40) (q : Int) : Prop :=
  ∃ q1 q2 q3 q4 q5 q6, readNum l i = (s, q1, 0) ∧ readNum l q1 = (v, q2, 0) ∧ readNum l q2 = (k, q3, 0) ∧ readNum l q3 = (se, q4, 0) ∧ readNum l q4 = (rq, q5, 0) ∧ readNum l q5 = ((ops.length : Int), q6, 0) ∧ OpsAt l q6 ops q
theorem R40_frm {W W1 : World} {base q ty : Nat} {v : Value} {l : List S40} {cs : Array Value} (h : R40 W base v l) (hq : W.heap[q]? = some (.cells cs ty (0, 0))) (ht : ty ≠ 40) (hf : Frm W W1 (fun k => k = q)) : R40 W1 base v l := by
  have h2 := Kd.R_types h hq (t := ty) (fun t ht2 => by rw [k40_only ht2]; exact fun e => ht e.symm)
  exact Kd.R_mono (Kd.R_step h2 (fun k hk hlt => hf.block k hlt (fun e => hk.2 e))) (fun _ _ => trivial)
set_option maxHeartbeats 8000000 in
set_option maxRecDepth 100000 in
theorem get_list (w0 w : World) (rb n c : Nat) (A : Option Addr) (l : List Int) (at_ q1 q : Int) (ops : List S40) (m : Nat) (hm2 : ops.length = m) (hm1 : m ≤ 1000000) (hn : l.length = n) (hc : n ≤ c) (hok : bytesOk l = true) (hm : n ≤ 140737488355328) (hC : C8 w0 A n l) (hB : Below w0.heap.size w0 w) (hrb : w0.heap.size ≤ rb) (hg : w.heap[rb]? = some (.cells #[.slice A n c, .int .i64 at_] 163 (0, 0)))
    (hr1 : readNum l at_ = ((m : Int), q1, 0)) (hr2 : OpsAt l q1 ops q) :
    Calls Try.prog 106 #[.pointer (some ⟨rb, 0, none⟩), .func (.func 107) #[] #[]] w fun e w' => ∃ V, e = .returned V ∧ R40 w' w.heap.size V ops ∧ w'.heap[rb]? = some (.cells #[.slice A n c, .int .i64 q] 163 (0, 0)) ∧ Frm w w' (fun k => k = rb) := by
  have HN := Aside0.mk hn
  have HC := Aside0.mk hC
  have HCC := Aside0.mk hc
  have HOK := Aside0.mk hok
  have HM := Aside0.mk hm
  have HM2 := Aside0.mk hm2
  have HR2 := Aside0.mk hr2
  have HB := Aside0.mk hB
  have HRB := Aside0.mk hrb
  have HG := Aside0.mk hg
  clear hn hc hok hm hC hB hrb hg hm2 hr2
  go_enter Try.func106, Try.ntmps106
  go_wp2_with fail
  refine (nr_number w0 w rb n c A l at_ (m : Int) q1 HN.out HCC.out HOK.out HM.out HC.out HB.out HG.out hr1).mono ?_
  rintro e1 v1 ⟨rfl, hg1, hf1⟩
  have HG1 := Aside0.mk hg1
  have HX1 := Aside0.mk hf1
  have HW := Aside0.mk (blk_lt HG.out)
  clear hg1 hf1 hr1 HG
  go_wp2
  go_loopw [5, 8] (fun v5 v8 wr => ∃ i : Nat, i ≤ m ∧ v8 = .int .i64 (i : Int) ∧ Aside0 (R40 wr w.heap.size v5 (ops.take i)) ∧ ∃ qi : Int, Aside0 (OpsAt l qi (ops.drop i) q) ∧ Aside0 (wr.heap[rb]? = some (.cells #[.slice A n c, .int .i64 qi] 163 (0, 0))) ∧ Aside0 (Frm w wr (fun k => k = rb))) (fun v5 v8 _ => m - (intOf v8).toNat)
  case atStart => exact ⟨0, Nat.zero_le _, rfl, ⟨by rw [List.take_zero]; exact Kd.R_nil _ _ _ _ _⟩, q1, ⟨by rw [List.drop_zero]; exact HR2.out⟩, HG1, HX1⟩
  case round =>
    clear HG1 HX1 HR2
    obtain ⟨i, hi, rfl, HO, qi, HQ, HGI, HXI⟩ := hrel
    by_cases hlt : i < m
    · have hd1 : decide ((i : Int) < (m : Int)) = true := decide_eq_true (by omega)
      have hd2 : decide (i < m) = true := decide_eq_true hlt
      have hil : i < ops.length := by rw [HM2.out]; exact hlt
      obtain ⟨o, ho⟩ : ∃ o, o = ops[i] := ⟨_, rfl⟩
      have hdr : ops.drop i = o :: ops.drop (i + 1) := by rw [ho]; exact List.drop_eq_getElem_cons hil
      have htk : ops.take (i + 1) = ops.take i ++ [o] := by rw [ho]; exact List.take_succ_eq_append_getElem hil
      have hq := HQ.out
      rw [hdr] at hq
      obtain ⟨q', hq1, hq2⟩ := hq
      have HQ2 := Aside0.mk hq2
      have HTK := Aside0.mk htk
      have hBI := below_frm HB.out HXI.out (N := w0.heap.size) (fun k hk => by rw [hk]; exact HRB.out) (Nat.le_refl _)
      clear hq2 htk hdr ho hil
      go_wp2_with fail
      refine (get_op w0 wr rb n c A l qi q' o HN.out HCC.out HOK.out HM.out HC.out hBI HRB.out HGI.out hq1).mono ?_
      rintro e2 v2 ⟨rfl, hg2, hf2⟩
      have HG2 := Aside0.mk hg2
      have HX2 := Aside0.mk (HXI.out.then_ hf2 (fun k hk _ => hk))
      have HO2 := Aside0.mk (R40_frm HO.out HGI.out (by decide) hf2)
      clear hg2 hf2 hq1 hBI
      go_wp2_with (with_reducible refine stop_append rfl ?_)
      refine appOp (v := u5) (xs := ops.take i) v2 w.heap.size rfl _ _ rfl o rfl rfl HO2.out (Below.refl _ _) HX2.out.size (by rw [List.length_take]; omega) ?_
      intro v3 w3 ho3 hb3 hg3 hat3
      have HO3 := Aside0.mk (show R40 w3 w.heap.size v3 (ops.take (i + 1)) by rw [HTK.out]; exact ho3)
      have HG3 := Aside0.mk ((hg3.block rb (blk_lt HG2.out) (fun e => absurd (typed_ne ⟨_, HG2.out⟩ (R40_type HO2.out rb e.symm)) (by decide))).trans HG2.out)
      have HX3 := Aside0.mk (HX2.out.then_ (Frm.of_grown (S := fun k => u5.ownBlock = some k) hg3 (fun k e => e)) (fun k hk hlt => absurd hlt (by have := Kd.R_base HO2.out k hk; omega)))
      clear ho3 hb3 hg3 hat3
      go_wp2
      go_roundw
      case rel => exact ⟨i + 1, by omega, by go_num, HO3, q', HQ2, HG3, HX3⟩
      case measure => simp [intOf]; omega
    · have hd1 : decide ((i : Int) < (m : Int)) = false := decide_eq_false (by omega)
      have hd2 : decide (i < m) = false := decide_eq_false hlt
      have hdr : ops.drop i = [] := List.drop_of_length_le (by rw [HM2.out]; omega)
      have htk : ops.take i = ops := List.take_of_length_le (by rw [HM2.out]; omega)
      have hq := HQ.out
      rw [hdr] at hq
      obtain rfl : q = qi := hq
      rw [htk] at HO
      clear hdr htk
      go_wp2; go_ret
      exact ⟨_, rfl, HO.out, HGI.out, HXI.out⟩
set_option maxHeartbeats 8000000 in
set_option maxRecDepth 100000 in
theorem nr_end (w : World) (rb n c : Nat) (A : Option Addr) (hg : w.heap[rb]? = some (.cells #[.slice A n c, .int .i64 (n : Int)] 163 (0, 0))) :
    Calls Try.prog 100 #[.pointer (some ⟨rb, 0, none⟩)] w fun e w' => (∃ v, e = .returned v) ∧ Below w.heap.size w w' := by
  have hu163 := Try.underlying163
  have k0 : w.cell? ⟨rb, 0, none⟩ = some (.slice A n c) := blk_cell hg 0
  have k1 : w.cell? ⟨rb, 1, none⟩ = some (.int .i64 (n : Int)) := blk_cell hg 1
  clear hg
  go_enter Try.func100, Try.ntmps100
  go_wp2_with fail
  go_quiet (fail)
  go_wp2
  go_end0
  exact ⟨⟨_, rfl⟩, Drawn0.below ⟨⟨nq, rfl⟩⟩⟩
set_option maxHeartbeats 8000000 in
set_option maxRecDepth 100000 in
theorem get_entry (w0 w : World) (rb n c : Nat) (A : Option Addr) (l : List Int) (at_ q s v k se rq : Int) (ops : List S40) (m : Nat) (hm2 : ops.length = m) (hm1 : m ≤ 1000000) (hn : l.length = n) (hc : n ≤ c) (hok : bytesOk l = true) (hm : n ≤ 140737488355328) (hC : C8 w0 A n l) (hB : Below w0.heap.size w0 w) (hrb : w0.heap.size ≤ rb) (hg : w.heap[rb]? = some (.cells #[.slice A n c, .int .i64 at_] 163 (0, 0))) (hr : EntAt l at_ s v k se rq ops q) :
    Calls Try.prog 99 #[.pointer (some ⟨rb, 0, none⟩)] w fun e w' => ∃ V, e = .returned (.agg #[.int .i64 s, .int .i64 v, .int .i64 k, .int .i64 se, .int .i64 rq, V]) ∧ R40 w' w.heap.size V ops ∧ w'.heap[rb]? = some (.cells #[.slice A n c, .int .i64 q] 163 (0, 0)) ∧ Frm w w' (fun k => k = rb) := by
  obtain ⟨q1, q2, q3, q4, q5, q6, hr1, hr2, hr3, hr4, hr5, hr6, hr7⟩ := hr
  rw [hm2] at hr6
  have hu24 := Try.underlying24
  have HN := Aside0.mk hn
  have HC := Aside0.mk hC
  have HCC := Aside0.mk hc
  have HOK := Aside0.mk hok
  have HM := Aside0.mk hm
  have HM2 := Aside0.mk hm2
  have HM1 := Aside0.mk hm1
  have HR1 := Aside0.mk hr1
  have HR2 := Aside0.mk hr2
  have HR3 := Aside0.mk hr3
  have HR4 := Aside0.mk hr4
  have HR5 := Aside0.mk hr5
  have HR6 := Aside0.mk hr6
  have HR7 := Aside0.mk hr7
  have HG := Aside0.mk hg
  have HB := Aside0.mk hB
  have HRB := Aside0.mk hrb
  clear hn hc hok hm hC hB hg hr1 hr2 hr3 hr4 hr5 hr6 hr7 hrb hm1 hm2
  go_enter Try.func99, Try.ntmps99
  go_wp2_with fail
  obtain ⟨f, hf⟩ : ∃ f, f = w.heap.size := ⟨_, rfl⟩
  obtain ⟨v0, hv0⟩ : ∃ v0, v0 = w.alloc (.cells entZero 24) := ⟨_, rfl⟩
  rw [← hv0, ← hf]
  have HW1 := Aside0.mk (show Below w.heap.size w v0 by rw [hv0]; exact below_alloc (Below.refl _ _) _)
  have HF0 := Aside0.mk (show v0.heap[f]? = some (.cells entZero 24 (0, 0)) by rw [hv0, hf]; exact heap_alloc_new w _)
  have HB0 := Aside0.mk (below_step HB.out HW1.out)
  have HX0 := Aside0.mk (Frm.of_below HW1.out (fun k => k = rb))
  have HG0 := Aside0.mk ((HW1.out.block rb (blk_lt HG.out)).trans HG.out)
  have HFT := Aside0.mk (show f ≠ rb by have := blk_lt HG.out; omega)
  have HFW := Aside0.mk (show w.heap.size ≤ f by omega)
  clear hf hv0 HW1 HG HB
  refine (nr_number w0 v0 rb n c A l at_ s q1 HN.out HCC.out HOK.out HM.out HC.out HB0.out HG0.out HR1.out).mono ?_
  rintro e1 v1 ⟨rfl, hg1, hf1⟩
  have HG1 := Aside0.mk hg1
  have HB1 := Aside0.mk (below_frm HB0.out hf1 (N := w0.heap.size) (fun k hk => by rw [hk]; exact HRB.out) (Nat.le_refl _))
  have HX1 := Aside0.mk (HX0.out.then_ hf1 (fun k hk _ => hk))
  have HF1 := Aside0.mk (hf1.blk HF0.out (fun e => HFT.out e))
  clear hg1 hf1 HG0 HB0 HX0 HF0
  go_wp2_with fail
  refine (nr_number w0 v1 rb n c A l q1 v q2 HN.out HCC.out HOK.out HM.out HC.out HB1.out HG1.out HR2.out).mono ?_
  rintro e2 v2 ⟨rfl, hg2, hf2⟩
  have HG2 := Aside0.mk hg2
  have HB2 := Aside0.mk (below_frm HB1.out hf2 (N := w0.heap.size) (fun k hk => by rw [hk]; exact HRB.out) (Nat.le_refl _))
  have HX2 := Aside0.mk (HX1.out.then_ hf2 (fun k hk _ => hk))
  have HF2 := Aside0.mk (hf2.blk HF1.out (fun e => HFT.out e))
  clear hg2 hf2 HG1 HB1 HX1 HF1
  go_wp2_with fail
  refine (nr_number w0 v2 rb n c A l q2 k q3 HN.out HCC.out HOK.out HM.out HC.out HB2.out HG2.out HR3.out).mono ?_
  rintro e3 v3 ⟨rfl, hg3, hf3⟩
  have HG3 := Aside0.mk hg3
  have HB3 := Aside0.mk (below_frm HB2.out hf3 (N := w0.heap.size) (fun k hk => by rw [hk]; exact HRB.out) (Nat.le_refl _))
  have HX3 := Aside0.mk (HX2.out.then_ hf3 (fun k hk _ => hk))
  have HF3 := Aside0.mk (hf3.blk HF2.out (fun e => HFT.out e))
  clear hg3 hf3 HG2 HB2 HX2 HF2
  go_wp2_with fail
  refine (nr_number w0 v3 rb n c A l q3 se q4 HN.out HCC.out HOK.out HM.out HC.out HB3.out HG3.out HR4.out).mono ?_
  rintro e4 v4 ⟨rfl, hg4, hf4⟩
  have HG4 := Aside0.mk hg4
  have HB4 := Aside0.mk (below_frm HB3.out hf4 (N := w0.heap.size) (fun k hk => by rw [hk]; exact HRB.out) (Nat.le_refl _))
  have HX4 := Aside0.mk (HX3.out.then_ hf4 (fun k hk _ => hk))
  have HF4 := Aside0.mk (hf4.blk HF3.out (fun e => HFT.out e))
  clear hg4 hf4 HG3 HB3 HX3 HF3
  go_wp2_with fail
  refine (nr_number w0 v4 rb n c A l q4 rq q5 HN.out HCC.out HOK.out HM.out HC.out HB4.out HG4.out HR5.out).mono ?_
  rintro e5 v5 ⟨rfl, hg5, hf5⟩
  have HG5 := Aside0.mk hg5
  have HB5 := Aside0.mk (below_frm HB4.out hf5 (N := w0.heap.size) (fun k hk => by rw [hk]; exact HRB.out) (Nat.le_refl _))
  have HX5 := Aside0.mk (HX4.out.then_ hf5 (fun k hk _ => hk))
  have HF5 := Aside0.mk (hf5.blk HF4.out (fun e => HFT.out e))
  clear hg5 hf5 HG4 HB4 HX4 HF4
  go_wp2_with fail
  refine (get_list w0 v5 rb n c A l q5 q6 q ops m HM2.out HM1.out HN.out HCC.out HOK.out HM.out HC.out HB5.out HRB.out HG5.out HR6.out HR7.out).mono ?_
  rintro e6 v6 ⟨V, rfl, ho6, hg6, hf6⟩
  have HG6 := Aside0.mk hg6
  have HX6 := Aside0.mk (HX5.out.then_ hf6 (fun k hk _ => hk))
  have HF6 := Aside0.mk (hf6.blk HF5.out (fun e => HFT.out e))
  have HO6 := Aside0.mk (Kd.R_lower ho6 HX5.out.size)
  clear hg6 hf6 ho6 HG5 HB5 HX5 HF5
  obtain ⟨B, mm, cb, rfl, hmm, hcb, _⟩ := R40_form HO6.out
  clear hmm hcb
  go_wp2_with (with_reducible refine stop_store rfl ?_)
  refine store_blk rfl rfl 24 _ _ rfl (q := f) (i := 0) (cur' := #[.int .i64 s, .int .i64 v, .int .i64 k, .int .i64 se, .int .i64 rq, .slice B mm cb]) [.int .i64 s, .int .i64 v, .int .i64 k, .int .i64 se, .int .i64 rq, .slice B mm cb] rfl rfl rfl (by kernel_rfl) (by intro u hu; simp at hu; rcases hu with rfl | rfl | rfl | rfl | rfl | rfl <;> rfl) HF6.out (by simp) rfl ?_
  intro wz hz hgz
  have HRZ := Aside0.mk ((hgz.block rb (blk_lt HG6.out) (fun e => HFT.out (Option.some.inj e).symm)).trans HG6.out)
  have HXZ := Aside0.mk (HX6.out.then_ (Frm.of_grown (S := fun k => k = f) hgz (fun k e => (Option.some.inj e).symm)) (fun k hk hlt => by have := HFW.out; omega))
  have HOZ := Aside0.mk (R40_frm HO6.out HF6.out (by decide) (Frm.of_grown (S := fun k => k = f) hgz (fun k e => (Option.some.inj e).symm)))
  clear hgz
  go_wp2
  refine bodyPost_ret (results_cell_row rfl _ _ f 24 #[.int .i64 s, .int .i64 v, .int .i64 k, .int .i64 se, .int .i64 rq, .slice B mm cb] (0, 0) _ rfl hz Try.underlying24 rfl (by kernel_rfl)) rfl ?_
  exact ⟨_, rfl, HOZ.out, HRZ.out, HXZ.out⟩

abbrev entArr (s v k se rq : Int) (V : Value) : Array Value := #[.int .i64 s, .int .i64 v, .int .i64 k, .int .i64 se, .int .i64 rq, V]
set_option maxHeartbeats 8000000 in
set_option maxRecDepth 100000 in
theorem dec_in (w : World) (d e n c : Nat) (A : Option Addr) (l : List Int) (s v k se rq : Int) (ops : List S40) (m : Nat) (hm2 : ops.length = m) (hm1 : m ≤ 1000000) (hn : l.length = n) (hc : n ≤ c) (hok : bytesOk l = true) (hm : n ≤ 140737488355328) (hC : C8 w A n l) (hd : w.heap[d]? = some (.cells #[.slice A n c] 29 (0, 0))) (he : w.heap[e]? = some (.cells entZero 24 (0, 0))) (hr : EntAt l 0 s v k se rq ops (n : Int)) :
    Calls Try.prog 98 #[.pointer (some ⟨d, 0, none⟩), .pointer (some ⟨e, 0, none⟩)] w fun r w' => (∃ x, r = .returned x) ∧ ∃ V, R40 w' w.heap.size V ops ∧ w'.heap[e]? = some (.cells (entArr s v k se rq V) 24 (0, 0)) ∧ Frm w w' (fun k => k = e) := by
  have hu163 := Try.underlying163
  have hu24 := Try.underlying24
  have d0 := (blk_cell hd 0).trans rfl
  have HN := Aside0.mk hn
  have HC := Aside0.mk hC
  have HCC := Aside0.mk hc
  have HOK := Aside0.mk hok
  have HM := Aside0.mk hm
  have HM2 := Aside0.mk hm2
  have HM1 := Aside0.mk hm1
  have HD := Aside0.mk hd
  have HE := Aside0.mk he
  have HR := Aside0.mk hr
  clear hn hc hok hm hC hd he hr hm1 hm2
  go_enter Try.func98, Try.ntmps98
  go_wp2_with fail
  obtain ⟨rb, hrb⟩ : ∃ rb, rb = w.heap.size := ⟨_, rfl⟩
  obtain ⟨v1, hv1⟩ : ∃ v1, v1 = w.alloc (.cells #[.slice A n c, .int .i64 0] 163) := ⟨_, rfl⟩
  rw [← hv1, ← hrb]
  have HW1 := Aside0.mk (show Below w.heap.size w v1 by rw [hv1]; exact below_alloc (Below.refl _ _) _)
  have HG1 := Aside0.mk (show v1.heap[rb]? = some (.cells #[.slice A n c, .int .i64 0] 163 (0, 0)) by rw [hv1, hrb]; exact heap_alloc_new w _)
  have HRB := Aside0.mk (show w.heap.size ≤ rb by omega)
  have HE1 := Aside0.mk ((HW1.out.block e (blk_lt HE.out)).trans HE.out)
  have HER := Aside0.mk (show e ≠ rb by have := blk_lt HE.out; omega)
  clear hrb hv1 d0
  refine (get_entry w v1 rb n c A l 0 (n : Int) s v k se rq ops m HM2.out HM1.out HN.out HCC.out HOK.out HM.out HC.out HW1.out HRB.out HG1.out HR.out).mono ?_
  rintro r2 v2 ⟨V, rfl, ho2, hg2, hf2⟩
  have HG2 := Aside0.mk hg2
  have HE2 := Aside0.mk (hf2.blk HE1.out (fun x => HER.out x))
  have HX2 := Aside0.mk ((Frm.of_below HW1.out (fun _ => False)).then_ hf2 (fun k hk hlt => by have := HRB.out; omega))
  have HO2 := Aside0.mk (Kd.R_lower ho2 HW1.out.size)
  clear ho2 hg2 hf2 HE1 HG1
  obtain ⟨B, mm, cb, rfl, hmm, hcb, _⟩ := R40_form HO2.out
  clear hmm hcb
  go_wp2_with (with_reducible refine stop_store rfl ?_)
  refine store_blk rfl rfl 24 _ _ rfl (q := e) (i := 0) (cur' := entArr s v k se rq (.slice B mm cb)) [.int .i64 s, .int .i64 v, .int .i64 k, .int .i64 se, .int .i64 rq, .slice B mm cb] rfl rfl rfl (by kernel_rfl) (by intro u hu; simp at hu; rcases hu with rfl | rfl | rfl | rfl | rfl | rfl <;> rfl) HE2.out (by simp) rfl ?_
  intro v3 hz hgz
  have HE3 := Aside0.mk hz
  have HG3 := Aside0.mk ((hgz.block rb (blk_lt HG2.out) (fun x => HER.out (Option.some.inj x).symm)).trans HG2.out)
  have HX3 := Aside0.mk ((HX2.out.mono (S1 := fun k => k = e) (fun k hk _ => hk.elim)).then_ (Frm.of_grown (S := fun k => k = e) hgz (fun k e => (Option.some.inj e).symm)) (fun k hk _ => hk))
  have HO3 := Aside0.mk (R40_frm HO2.out HE2.out (by decide) (Frm.of_grown (S := fun k => k = e) hgz (fun k e => (Option.some.inj e).symm)))
  clear hz hgz HE2 HG2 HX2 HO2
  go_wp2_with fail
  refine (nr_end v3 rb n c A HG3.out).mono ?_
  rintro r4 v4 ⟨⟨x4, rfl⟩, hb4⟩
  have HB4 := Aside0.mk hb4
  clear hb4
  go_wp2
  go_end0
  exact ⟨⟨_, rfl⟩, _, Kd.R_below HO3.out HB4.out, (HB4.out.block e (blk_lt HE3.out)).trans HE3.out, HX3.out.step HB4.out⟩
/-- The deferred closure of guarded, where nothing panics. -/
theorem guard_idle (a : Value) (w : World) :
    CallsD Try.prog 104 #[a] .returning w fun e u' w' => e = .returned (.tuple #[]) ∧ u' = .returning ∧ w' = w := by
  refine callsD_of_wpS Try.func104 rfl fun c₀ cs hu => ?_
  apply wpS_seq
  apply wpS_region
  simp [wpOpsS, go_sem, recoverD, hu, Try.ntmps104, Exit.thenS]
  apply wpS_seq
  apply wpS_region
  simp [wpOpsS, go_sem, Exit.thenS]
  refine wpS_cond (t := false) (by simp [Act.eval, Array.replicate]) ?_
  simp only [Bool.false_eq_true, if_false]
  refine wpS_of_wp (wp_skip ?_)
  cases c₀
  simp_all [bodyPostS, results, Try.results104]
theorem results97_row (tmps : Array Value) (w : World) (p : Nat) (b : Bool) (h2 : tmps[2]? = some (.pointer (some ⟨p, 0, none⟩))) (c2 : w.cell? ⟨p, 0, none⟩ = some (.bool b)) :
    (results Try.f97 tmps).run Try.prog w = .ok (.bool b) w := by
  have hl2 : (loadVar 4 ⟨p, 0, none⟩).run Try.prog w = .ok (.bool b) w := by simp [go_sem, c2]
  simp [results, Try.results97, h2, asAddr, hl2, Sem.run_bind, Sem.run_pure, Result.andThen_ok]
theorem door97 {R : Ending → World → Prop} {a : Act} {w : World} {p v : Value} (hd : a.defers = [{ target := .fn (.func 104) #[p], args := #[] }]) (hres : (results Try.f97 a.tmps).run Try.prog w = .ok v w) (hR : R (.returned v) w) :
    bodyPostD Try.prog Try.f97 R Exit.ret a w := by
  show Leaves Try.prog Try.f97 a.tmps R a.defers .returning w
  rw [hd]
  refine leaves_cons (f := 104) (args := #[p]) (by simp) (by simp [go_sem]) ?_
  refine (guard_idle _ _).mono ?_
  rintro e u' w'' ⟨rfl, rfl, rfl⟩
  exact ⟨v, hres, hR⟩
set_option maxHeartbeats 8000000 in
set_option maxRecDepth 100000 in
theorem guarded_in (w : World) (d e n c : Nat) (A : Option Addr) (l : List Int) (s v k se rq : Int) (ops : List S40) (m : Nat) (hm2 : ops.length = m) (hm1 : m ≤ 1000000) (hn : l.length = n) (hc : n ≤ c) (hok : bytesOk l = true) (hm : n ≤ 140737488355328) (hC : C8 w A n l) (hd : w.heap[d]? = some (.cells #[.slice A n c] 29 (0, 0))) (he : w.heap[e]? = some (.cells entZero 24 (0, 0))) (hr : EntAt l 0 s v k se rq ops (n : Int)) :
    Calls Try.prog 97 #[.func (.func 98) #[] #[.pointer (some ⟨d, 0, none⟩), .pointer (some ⟨e, 0, none⟩)]] w fun r w' => r = .returned (.bool true) ∧ ∃ V, R40 w' w.heap.size V ops ∧ w'.heap[e]? = some (.cells (entArr s v k se rq V) 24 (0, 0)) ∧ Frm w w' (fun k => k = e) := by
  have hmf : ∀ (fn : Fn) (first cap : Array Value) (w : World), (Instr.makeFunc fn first cap).run Try.prog w = .ok (.func fn first cap) w := fun _ _ _ _ => rfl
  have HN := Aside0.mk hn
  have HC := Aside0.mk hC
  have HCC := Aside0.mk hc
  have HOK := Aside0.mk hok
  have HM := Aside0.mk hm
  have HM2 := Aside0.mk hm2
  have HM1 := Aside0.mk hm1
  have HD := Aside0.mk hd
  have HE := Aside0.mk he
  have HR := Aside0.mk hr
  clear hn hc hok hm hC hd he hr hm1 hm2
  go_enter_defers Try.func97, Try.ntmps97
  go_wp2_with fail
  obtain ⟨p, hp⟩ : ∃ p, p = w.heap.size := ⟨_, rfl⟩
  obtain ⟨v1, hv1⟩ : ∃ v1, v1 = w.alloc (.cells #[.bool false] 4) := ⟨_, rfl⟩
  rw [← hv1, ← hp]
  have HW1 := Aside0.mk (show Below w.heap.size w v1 by rw [hv1]; exact below_alloc (Below.refl _ _) _)
  have HP1 := Aside0.mk (show v1.heap[p]? = some (.cells #[.bool false] 4 (0, 0)) by rw [hv1, hp]; exact heap_alloc_new w _)
  have HPW := Aside0.mk (show w.heap.size ≤ p by omega)
  have HPE := Aside0.mk (show p ≠ e by have := blk_lt HE.out; omega)
  clear hv1 hp
  refine (dec_in v1 d e n c A l s v k se rq ops m HM2.out HM1.out HN.out HCC.out HOK.out HM.out (Kd.C_below HC.out HW1.out) ((HW1.out.block d (blk_lt HD.out)).trans HD.out) ((HW1.out.block e (blk_lt HE.out)).trans HE.out) HR.out).mono ?_
  rintro r2 v2 ⟨⟨x2, rfl⟩, V, ho2, he2, hf2⟩
  have HE2 := Aside0.mk he2
  have HO2 := Aside0.mk (Kd.R_lower ho2 HW1.out.size)
  have HX2 := Aside0.mk ((Frm.of_below HW1.out (fun k => k = e)).then_ hf2 (fun k hk _ => hk))
  have HP2 := Aside0.mk (hf2.blk HP1.out (fun x => HPE.out x))
  clear he2 ho2 hf2
  have c2 := (blk_cell HP2.out 0).trans rfl
  have z2 := blk_frozen HP2.out 0
  go_wp2
  clear c2 z2
  obtain ⟨wz, hwz⟩ : ∃ wz, wz = v2.setCell ⟨p, 0, none⟩ (.bool true) := ⟨_, rfl⟩
  rw [← hwz]
  have k1 : wz.cell? ⟨p, 0, none⟩ = some (.bool true) := by rw [hwz]; exact World.cell?_setCell_same' _ _ _ (by rw [blk_cell HP2.out 0]; rfl)
  have k2 : wz.heap[e]? = some (.cells (entArr s v k se rq V) 24 (0, 0)) := by rw [hwz]; exact blk_far HE2.out (by simp only; exact fun x => HPE.out x.symm) _
  have k3 : R40 wz w.heap.size V ops := by rw [hwz]; exact Kd.R_set HO2.out HP2.out (fun t ht => by rw [k40_only ht]; decide) 0 _
  have k4 : Frm w wz (fun k => k = e) := by rw [hwz]; exact HX2.out.set_ (p := ⟨p, 0, none⟩) (.inr HPW.out) _
  exact door97 rfl (results97_row _ _ p _ rfl k1) ⟨rfl, V, k3, k2, k4⟩

/-- A view's record. -/
abbrev viewCells (x y z : Int) : Array Value := #[.int .i64 2, .int .i64 0, .int .i64 0, .int .i64 0, .int .i64 0, .int .i64 0, .slice none 0 0, .int .i64 x, .int .i64 y, .int .i64 z, .int .i64 0, .int .i64 0, .string ⟨#[]⟩]
abbrev zeroCells : Array Value := #[.int .i64 0, .int .i64 0, .int .i64 0, .int .i64 0, .int .i64 0, .int .i64 0, .slice none 0 0, .int .i64 0, .int .i64 0, .int .i64 0, .int .i64 0, .int .i64 0, .string ⟨#[]⟩]
set_option maxHeartbeats 8000000 in
set_option maxRecDepth 100000 in
theorem rd_view (w0 w : World) (rb n c : Nat) (A : Option Addr) (l : List Int) (x1 q1 x2 q2 x3 : Int) (hn : l.length = n) (hc : n ≤ c) (hok : bytesOk l = true) (hm : n ≤ 140737488355328) (hC : C8 w0 A n l) (hB : Below w0.heap.size w0 w) (hrb : w0.heap.size ≤ rb) (hg : w.heap[rb]? = some (.cells #[.slice A n c, .int .i64 0] 147 (0, 0)))
    (hr1 : readNum l 0 = (x1, q1, 0)) (hr2 : readNum l q1 = (x2, q2, 0)) (hr3 : readNum l q2 = (x3, (n : Int), 0)) :
    Calls Try.prog 84 #[.pointer (some ⟨rb, 0, none⟩), .int .i64 2] w fun e w' => e = .returned (.agg (viewCells x1 x2 x3)) ∧ Frm w w' (fun k => k = rb) := by
  have hu28 := Try.underlying28
  have hu26 := Try.underlying26
  have hu147 := Try.underlying147
  have HN := Aside0.mk hn
  have HC := Aside0.mk hC
  have HCC := Aside0.mk hc
  have HOK := Aside0.mk hok
  have HM := Aside0.mk hm
  have HR1 := Aside0.mk hr1
  have HR2 := Aside0.mk hr2
  have HR3 := Aside0.mk hr3
  have HG := Aside0.mk hg
  have HB := Aside0.mk hB
  have HRB := Aside0.mk hrb
  clear hn hc hok hm hC hB hg hr1 hr2 hr3 hrb
  go_enter Try.func84, Try.ntmps84
  go_wp2_with fail
  obtain ⟨f, hf⟩ : ∃ f, f = w.heap.size := ⟨_, rfl⟩
  obtain ⟨g, hg⟩ : ∃ g, g = w.heap.size + 1 := ⟨_, rfl⟩
  obtain ⟨va, hva⟩ : ∃ va, va = w.alloc (.cells zeroCells 28) := ⟨_, rfl⟩
  obtain ⟨v0, hv0⟩ : ∃ v0, v0 = va.alloc (.cells (viewCells 0 0 0) 28) := ⟨_, rfl⟩
  have hsz : va.heap.size = w.heap.size + 1 := by rw [hva]; simp
  rw [← hva, ← hv0, ← hg, ← hf]
  have HW1 := Aside0.mk (show Below w.heap.size w v0 by rw [hv0]; exact (below_step (w := w) (W := va) (by rw [hva]; exact below_alloc (Below.refl _ _) _) (below_alloc (Below.refl _ _) _)))
  have HF0 := Aside0.mk (show v0.heap[f]? = some (.cells zeroCells 28 (0, 0)) by
    rw [hv0]
    refine (Below.heap_alloc _ _ _ (by omega)).trans ?_
    rw [hva, hf]; exact heap_alloc_new w _)
  have HT0 := Aside0.mk (show v0.heap[g]? = some (.cells (viewCells 0 0 0) 28 (0, 0)) by rw [hv0, hg, ← hsz]; exact heap_alloc_new va _)
  have HB0 := Aside0.mk (below_step HB.out HW1.out)
  have HX0 := Aside0.mk (Frm.of_below HW1.out (fun k => k = rb))
  have HG0 := Aside0.mk ((HW1.out.block rb (blk_lt HG.out)).trans HG.out)
  have HFT := Aside0.mk (show f ≠ rb ∧ g ≠ rb by have := blk_lt HG.out; omega)
  have HFG := Aside0.mk (show f ≠ g ∧ w.heap.size ≤ f ∧ w.heap.size ≤ g by omega)
  clear hf hg hva hv0 hsz HW1 HG HB
  refine (rd_number w0 v0 rb n c A l 0 x1 q1 HN.out HCC.out HOK.out HM.out HC.out HB0.out HG0.out HR1.out).mono ?_
  rintro e1 v1 ⟨rfl, hg1, hf1⟩
  have HG1 := Aside0.mk hg1
  have HB1 := Aside0.mk (below_frm HB0.out hf1 (N := w0.heap.size) (fun k hk => by rw [hk]; exact HRB.out) (Nat.le_refl _))
  have HF1 := Aside0.mk (hf1.blk HF0.out (fun e => HFT.out.1 e))
  have HT1 := Aside0.mk (hf1.blk HT0.out (fun e => HFT.out.2 e))
  have HX1 := Aside0.mk (HX0.out.then_ hf1 (fun k hk _ => hk))
  clear hg1 hf1
  go_wp2_with fail
  refine (rd_number w0 v1 rb n c A l q1 x2 q2 HN.out HCC.out HOK.out HM.out HC.out HB1.out HG1.out HR2.out).mono ?_
  rintro e2 v2 ⟨rfl, hg2, hf2⟩
  have HG2 := Aside0.mk hg2
  have HB2 := Aside0.mk (below_frm HB1.out hf2 (N := w0.heap.size) (fun k hk => by rw [hk]; exact HRB.out) (Nat.le_refl _))
  have HF2 := Aside0.mk (hf2.blk HF1.out (fun e => HFT.out.1 e))
  have HT2 := Aside0.mk (hf2.blk HT1.out (fun e => HFT.out.2 e))
  have HX2 := Aside0.mk (HX1.out.then_ hf2 (fun k hk _ => hk))
  clear hg2 hf2
  go_wp2_with fail
  refine (rd_number w0 v2 rb n c A l q2 x3 (n : Int) HN.out HCC.out HOK.out HM.out HC.out HB2.out HG2.out HR3.out).mono ?_
  rintro e3 v3 ⟨rfl, hg3, hf3⟩
  have HG3 := Aside0.mk hg3
  have HB3 := Aside0.mk (below_frm HB2.out hf3 (N := w0.heap.size) (fun k hk => by rw [hk]; exact HRB.out) (Nat.le_refl _))
  have HF3 := Aside0.mk (hf3.blk HF2.out (fun e => HFT.out.1 e))
  have HT3 := Aside0.mk (hf3.blk HT2.out (fun e => HFT.out.2 e))
  have HX3 := Aside0.mk (HX2.out.then_ hf3 (fun k hk _ => hk))
  clear hg3 hf3
  clear HG0 HB0 HF0 HT0 HG1 HB1 HF1 HT1 HG2 HB2 HF2 HT2 HX0 HX1 HX2
  go_wp2_with (with_reducible refine stop_store rfl ?_)
  refine store_blk rfl rfl 26 _ _ rfl (q := g) (i := 7) (cur' := viewCells x1 x2 x3) [.int .i64 x1, .int .i64 x2, .int .i64 x3] rfl rfl rfl (by kernel_rfl) (by intro u hu; simp at hu; rcases hu with rfl | rfl | rfl <;> rfl) HT3.out (by simp) rfl ?_
  intro v4 hg4 hgr
  have hr4 := (hgr.block rb (blk_lt HG3.out) (fun e => HFT.out.2 (Option.some.inj e).symm)).trans HG3.out
  have HF4 := Aside0.mk ((hgr.block f (blk_lt HF3.out) (fun e => HFG.out.1 (Option.some.inj e))).trans HF3.out)
  have HB4 := Aside0.mk (HX3.out.then_ (Frm.of_grown (S := fun k => k = g) hgr (fun k e => (Option.some.inj e).symm)) (fun k hk hlt => by have := HFG.out.2.2; omega))
  have HT4 := Aside0.mk hg4
  have r0 : v4.cell? ⟨rb, 0, none⟩ = some (.slice A n c) := blk_cell hr4 0
  have r1 : v4.cell? ⟨rb, 1, none⟩ = some (.int .i64 (n : Int)) := blk_cell hr4 1
  clear hg4 hgr hr4 HG3 HB3 HF3 HT3
  go_wp2_with fail
  go_quiet (fail)
  obtain ⟨v5, hv5⟩ : ∃ v5, v5 = v4.drewN nq := ⟨_, rfl⟩
  rw [← hv5]
  have hb5 := (show Below v4.heap.size v4 v5 from Drawn0.below ⟨⟨nq, hv5⟩⟩)
  have ht5 : v5.heap[g]? = some (.cells (viewCells x1 x2 x3) 28 (0, 0)) := (hb5.block g (blk_lt HT4.out)).trans HT4.out
  have HF5 := Aside0.mk ((hb5.block f (blk_lt HF4.out)).trans HF4.out)
  have HB5 := Aside0.mk (HB4.out.step hb5)
  have kp0 : v5.cell? ⟨g, 0, none⟩ = some (.int .i64 2) := blk_cell ht5 0
  have kp1 : v5.cell? ⟨g, 1, none⟩ = some (.int .i64 0) := blk_cell ht5 1
  have kp2 : v5.cell? ⟨g, 2, none⟩ = some (.int .i64 0) := blk_cell ht5 2
  have kp3 : v5.cell? ⟨g, 3, none⟩ = some (.int .i64 0) := blk_cell ht5 3
  have kp4 : v5.cell? ⟨g, 4, none⟩ = some (.int .i64 0) := blk_cell ht5 4
  have kp5 : v5.cell? ⟨g, 5, none⟩ = some (.int .i64 0) := blk_cell ht5 5
  have kp6 : v5.cell? ⟨g, 6, none⟩ = some (.slice none 0 0) := blk_cell ht5 6
  have kp7 : v5.cell? ⟨g, 7, none⟩ = some (.int .i64 x1) := blk_cell ht5 7
  have kp8 : v5.cell? ⟨g, 8, none⟩ = some (.int .i64 x2) := blk_cell ht5 8
  have kp9 : v5.cell? ⟨g, 9, none⟩ = some (.int .i64 x3) := blk_cell ht5 9
  have kp10 : v5.cell? ⟨g, 10, none⟩ = some (.int .i64 0) := blk_cell ht5 10
  have kp11 : v5.cell? ⟨g, 11, none⟩ = some (.int .i64 0) := blk_cell ht5 11
  have kp12 : v5.cell? ⟨g, 12, none⟩ = some (.string ⟨#[]⟩) := blk_cell ht5 12
  clear hb5 hv5 HT4 HF4 HB4 r0 r1 ht5
  go_wp2_with (with_reducible refine stop_store rfl ?_)
  refine store_blk rfl rfl 28 _ _ rfl (q := f) (i := 0) (cur' := viewCells x1 x2 x3) (viewCells x1 x2 x3).toList rfl rfl rfl (by kernel_rfl) (by intro u hu; simp at hu; rcases hu with rfl | rfl | rfl | rfl | rfl | rfl | rfl | rfl | rfl <;> rfl) HF5.out (by simp) rfl ?_
  intro v6 hg6 hgr
  have HB6 := Aside0.mk (HB5.out.then_ (Frm.of_grown (S := fun k => k = f) hgr (fun k e => (Option.some.inj e).symm)) (fun k hk hlt => by have := HFG.out.2.1; omega))
  clear hgr HF5 HB5
  go_wp2
  (try simp only [Exit.inBlock, Exit.then])
  refine bodyPost_ret (results_cell_row rfl _ _ f 28 (viewCells x1 x2 x3) (0, 0) _ rfl hg6 Try.underlying28 rfl (by kernel_rfl)) rfl ?_
  exact ⟨rfl, HB6.out⟩

set_option maxHeartbeats 8000000 in
set_option maxRecDepth 100000 in
theorem dec_entry (w : World) (n c : Nat) (A : Option Addr) (l : List Int) (s v k se rq : Int) (ops : List S40) (m : Nat) (hm2 : ops.length = m) (hm1 : m ≤ 1000000) (hn : l.length = n) (hc : n ≤ c) (hok : bytesOk l = true) (hm : n ≤ 262144) (hC : C8 w A n l) (hr : EntAt l 0 s v k se rq ops (n : Int)) (hmay : entOk s v k se rq ops = true) :
    Calls Try.prog 91 #[.slice A n c] w fun r w' => ∃ B cb, r = .returned (.tuple #[.agg (entArr s v k se rq (.slice B m cb)), .int .i64 0]) ∧ R40 w' w.heap.size (.slice B m cb) ops ∧ Below w.heap.size w w' := by
  have hmf : ∀ (fn : Fn) (first cap : Array Value) (w : World), (Instr.makeFunc fn first cap).run Try.prog w = .ok (.func fn first cap) w := fun _ _ _ _ => rfl
  have hu24 := Try.underlying24
  have HN := Aside0.mk hn
  have HC := Aside0.mk hC
  have HCC := Aside0.mk hc
  have HOK := Aside0.mk hok
  have HM := Aside0.mk hm
  have HM2 := Aside0.mk hm2
  have HM1 := Aside0.mk hm1
  have HR := Aside0.mk hr
  have HMAY := Aside0.mk hmay
  have hd1 : decide ((262144 : Int) < (n : Int)) = false := decide_eq_false (by omega)
  have hd2 : decide (262144 < n) = false := decide_eq_false (by omega)
  clear hn hc hok hm hC hr hm1 hm2 hmay
  go_enter Try.func91, Try.ntmps91
  go_wp2_with fail
  obtain ⟨d, hd⟩ : ∃ d, d = w.heap.size := ⟨_, rfl⟩
  obtain ⟨f, hf⟩ : ∃ f, f = w.heap.size + 1 := ⟨_, rfl⟩
  obtain ⟨e, he⟩ : ∃ e, e = w.heap.size + 1 + 1 := ⟨_, rfl⟩
  obtain ⟨va, hva⟩ : ∃ va, va = w.alloc (.cells #[.slice A n c] 29) := ⟨_, rfl⟩
  obtain ⟨vb, hvb⟩ : ∃ vb, vb = va.alloc (.cells entZero 24) := ⟨_, rfl⟩
  obtain ⟨v1, hv1⟩ : ∃ v1, v1 = vb.alloc (.cells entZero 24) := ⟨_, rfl⟩
  rw [← hva, ← hvb, ← hv1, ← he, ← hf, ← hd]
  have hza : va.heap.size = w.heap.size + 1 := by rw [hva]; simp
  have hzb : vb.heap.size = w.heap.size + 1 + 1 := by rw [hvb, ← hza]; simp
  have hba : Below va.heap.size va vb := by rw [hvb]; exact below_alloc (Below.refl _ _) _
  have hbb : Below vb.heap.size vb v1 := by rw [hv1]; exact below_alloc (Below.refl _ _) _
  have HW1 := Aside0.mk (show Below w.heap.size w v1 from below_step (below_step (by rw [hva]; exact below_alloc (Below.refl _ _) _) hba) hbb)
  have HD1 := Aside0.mk (show v1.heap[d]? = some (.cells #[.slice A n c] 29 (0, 0)) by
    refine (hbb.block d (by omega)).trans ((hba.block d (by omega)).trans ?_)
    rw [hva, hd]; exact heap_alloc_new w _)
  have HF1 := Aside0.mk (show v1.heap[f]? = some (.cells entZero 24 (0, 0)) by
    refine (hbb.block f (by omega)).trans ?_
    rw [hvb, hf, ← hza]; exact heap_alloc_new va _)
  have HE1 := Aside0.mk (show v1.heap[e]? = some (.cells entZero 24 (0, 0)) by rw [hv1, he, ← hzb]; exact heap_alloc_new vb _)
  have HFE := Aside0.mk (show f ≠ e ∧ w.heap.size ≤ f ∧ w.heap.size ≤ e by omega)
  clear hd hf he hva hvb hv1 hza hzb hba hbb
  refine (guarded_in v1 d e n c A l s v k se rq ops m HM2.out HM1.out HN.out HCC.out HOK.out (by have := HM.out; omega) (Kd.C_below HC.out HW1.out) HD1.out HE1.out HR.out).mono ?_
  rintro r2 v2 ⟨rfl, V, ho2, he2, hf2⟩
  have HE2 := Aside0.mk he2
  have HO2 := Aside0.mk (Kd.R_lower ho2 HW1.out.size)
  have HX2 := Aside0.mk ((Frm.of_below HW1.out (fun _ => False)).then_ hf2 (fun k hk hlt => by have := HFE.out.2.2; omega))
  have HF2 := Aside0.mk (hf2.blk HF1.out (fun x => HFE.out.1 x))
  clear he2 ho2 hf2 HD1 HE1 HF1
  obtain ⟨B, mm, cb, rfl, hmm, hcb, hCo⟩ := R40_form HO2.out
  obtain rfl : m = mm := by rw [← HM2.out]; exact hmm
  have HCB := Aside0.mk hcb
  have HCO := Aside0.mk hCo
  clear hmm hcb hCo
  have y0 := (blk_cell HE2.out 0).trans rfl
  have y1 := (blk_cell HE2.out 1).trans rfl
  have y2 := (blk_cell HE2.out 2).trans rfl
  have y3 := (blk_cell HE2.out 3).trans rfl
  have y4 := (blk_cell HE2.out 4).trans rfl
  have y5 := (blk_cell HE2.out 5).trans rfl
  go_wp2_with fail
  refine (mayEntry_N s v k se rq B cb m ops v2 HM2.out HCO.out HCB.out).mono ?_
  rintro r3 v3 ⟨rfl, hb3⟩
  rw [HMAY.out]
  have HE3 := Aside0.mk ((hb3.block e (blk_lt HE2.out)).trans HE2.out)
  have HF3 := Aside0.mk ((hb3.block f (blk_lt HF2.out)).trans HF2.out)
  have HO3 := Aside0.mk (Kd.R_below HO2.out hb3)
  have HX3 := Aside0.mk (HX2.out.step hb3)
  clear hb3 y0 y1 y2 y3 y4 y5 HE2 HF2 HO2 HX2 HCO
  have y0 := (blk_cell HE3.out 0).trans rfl
  have y1 := (blk_cell HE3.out 1).trans rfl
  have y2 := (blk_cell HE3.out 2).trans rfl
  have y3 := (blk_cell HE3.out 3).trans rfl
  have y4 := (blk_cell HE3.out 4).trans rfl
  have y5 := (blk_cell HE3.out 5).trans rfl
  go_wp2_with (with_reducible refine stop_store rfl ?_)
  refine store_blk rfl rfl 24 _ _ rfl (q := f) (i := 0) (cur' := entArr s v k se rq (.slice B m cb)) [.int .i64 s, .int .i64 v, .int .i64 k, .int .i64 se, .int .i64 rq, .slice B m cb] rfl rfl rfl (by kernel_rfl) (by intro u hu; simp at hu; rcases hu with rfl | rfl | rfl | rfl | rfl | rfl <;> rfl) HF3.out (by simp) rfl ?_
  intro wz hz hgz
  have HZ := Aside0.mk hz
  have HOZ := Aside0.mk (R40_frm HO3.out HF3.out (by decide) (Frm.of_grown (S := fun k => k = f) hgz (fun k e => (Option.some.inj e).symm)))
  have HXZ := Aside0.mk ((HX3.out.then_ (Frm.of_grown (S := fun k => k = f) hgz (fun k e => (Option.some.inj e).symm)) (fun k hk hlt => by have := HFE.out.2.1; omega)))
  clear hz hgz y0 y1 y2 y3 y4 y5
  go_wp2
  refine bodyPost_ret (results_ct rfl _ _ f 24 (entArr s v k se rq (.slice B m cb)) (0, 0) _ rfl HZ.out Try.underlying24 rfl (by kernel_rfl)) rfl ?_
  exact ⟨B, cb, rfl, HOZ.out, HXZ.out.below (fun k hk _ => hk.elim) (Nat.le_refl _)⟩
set_option maxHeartbeats 8000000 in
set_option maxRecDepth 100000 in
theorem rd_matched (w0 w : World) (rb n c : Nat) (A : Option Addr) (l : List Int) (vn : Int) (hn : l.length = n) (hc : n ≤ c) (hok : bytesOk l = true) (hm : n ≤ 140737488355328) (hC : C8 w0 A n l) (hB : Below w0.heap.size w0 w) (hrb : w0.heap.size ≤ rb) (hg : w.heap[rb]? = some (.cells #[.slice A n c, .int .i64 0] 147 (0, 0))) (hr1 : readNum l 0 = (vn, (n : Int), 0)) :
    Calls Try.prog 84 #[.pointer (some ⟨rb, 0, none⟩), .int .i64 3] w fun e w' => e = .returned (.agg (recCells 3 0 0 0 0 0 none 0 0 vn 0 0 0 0 ⟨#[]⟩)) ∧ Frm w w' (fun k => k = rb) := by
  have hu28 := Try.underlying28
  have hu26 := Try.underlying26
  have hu24 := Try.underlying24
  have hu147 := Try.underlying147
  have HN := Aside0.mk hn
  have HC := Aside0.mk hC
  have HCC := Aside0.mk hc
  have HOK := Aside0.mk hok
  have HM := Aside0.mk hm
  have HG := Aside0.mk hg
  have HB := Aside0.mk hB
  have HRB := Aside0.mk hrb
  have HWW := Aside0.mk hB.size
  have HR1 := Aside0.mk hr1
  clear hn hc hok hm hC hB hg hrb hr1
  go_enter Try.func84, Try.ntmps84
  go_wp2_with fail
  obtain ⟨f, hf⟩ : ∃ f, f = w.heap.size := ⟨_, rfl⟩
  obtain ⟨g, hg⟩ : ∃ g, g = w.heap.size + 1 := ⟨_, rfl⟩
  obtain ⟨va, hva⟩ : ∃ va, va = w.alloc (.cells (recCells 0 0 0 0 0 0 none 0 0 0 0 0 0 0 ⟨#[]⟩) 28) := ⟨_, rfl⟩
  obtain ⟨v0, hv0⟩ : ∃ v0, v0 = va.alloc (.cells (recCells 3 0 0 0 0 0 none 0 0 0 0 0 0 0 ⟨#[]⟩) 28) := ⟨_, rfl⟩
  have hsz : va.heap.size = w.heap.size + 1 := by rw [hva]; simp
  rw [← hva, ← hv0, ← hg, ← hf]
  have HW1 := Aside0.mk (show Below w.heap.size w v0 by rw [hv0]; exact (below_step (w := w) (W := va) (by rw [hva]; exact below_alloc (Below.refl _ _) _) (below_alloc (Below.refl _ _) _)))
  have HF0 := Aside0.mk (show v0.heap[f]? = some (.cells (recCells 0 0 0 0 0 0 none 0 0 0 0 0 0 0 ⟨#[]⟩) 28 (0, 0)) by
    rw [hv0]
    refine (Below.heap_alloc _ _ _ (by omega)).trans ?_
    rw [hva, hf]; exact heap_alloc_new w _)
  have HT0 := Aside0.mk (show v0.heap[g]? = some (.cells (recCells 3 0 0 0 0 0 none 0 0 0 0 0 0 0 ⟨#[]⟩) 28 (0, 0)) by rw [hv0, hg, ← hsz]; exact heap_alloc_new va _)
  have HB0 := Aside0.mk (below_step HB.out HW1.out)
  have HX0 := Aside0.mk (Frm.of_below HW1.out (fun k => k = rb))
  have HG0 := Aside0.mk ((HW1.out.block rb (blk_lt HG.out)).trans HG.out)
  have HFT := Aside0.mk (show f ≠ rb ∧ g ≠ rb by have := blk_lt HG.out; omega)
  have HFG := Aside0.mk (show f ≠ g ∧ w.heap.size ≤ f ∧ w.heap.size ≤ g by omega)
  clear hf hg hva hv0 hsz HW1 HG HB
  refine (rd_number w0 v0 rb n c A l 0 vn (n : Int) HN.out HCC.out HOK.out HM.out HC.out HB0.out HG0.out HR1.out).mono ?_
  rintro e1 v1 ⟨rfl, hg1, hf1⟩
  have HG1 := Aside0.mk hg1
  have HB1 := Aside0.mk (below_frm HB0.out hf1 (N := w0.heap.size) (fun k hk => by rw [hk]; exact HRB.out) (Nat.le_refl _))
  have HX1 := Aside0.mk (HX0.out.then_ hf1 (fun k hk _ => hk))
  have HF1 := Aside0.mk (hf1.blk HF0.out (fun e => HFT.out.1 e))
  have HT1 := Aside0.mk (hf1.blk HT0.out (fun e => HFT.out.2 e))
  clear hg1 hf1 HG0 HB0 HX0 HF0 HT0
  have t7 := (blk_cell HT1.out 7).trans rfl
  have z7 := blk_frozen HT1.out 7
  go_wp2_with fail
  clear t7 z7
  obtain ⟨v2, hv2⟩ : ∃ v2, v2 = (v1.setCell ⟨g, 7, none⟩ (.int .i64 vn)) := ⟨_, rfl⟩
  rw [← hv2]
  have HT2 := Aside0.mk (show v2.heap[g]? = some (.cells (recCells 3 0 0 0 0 0 none 0 0 vn 0 0 0 0 ⟨#[]⟩) 28 (0, 0)) by
    rw [hv2]
    exact blk_put HT1.out 7 _ rfl)
  have HF2 := Aside0.mk (show v2.heap[f]? = some (.cells (recCells 0 0 0 0 0 0 none 0 0 0 0 0 0 0 ⟨#[]⟩) 28 (0, 0)) by rw [hv2]; exact (blk_far HF1.out (by simp only; exact HFG.out.1) _))
  have HG2 := Aside0.mk (show v2.heap[rb]? = some (.cells #[.slice A n c, .int .i64 (n : Int)] 147 (0, 0)) by rw [hv2]; exact (blk_far HG1.out (by simp only; exact fun e => HFT.out.2 e.symm) _))
  have HX2 := Aside0.mk (show Frm w v2 (fun k => k = rb) by rw [hv2]; exact (HX1.out.set_ (p := ⟨g, 7, none⟩) (.inr HFG.out.2.2) _))
  have HB2 := Aside0.mk (show Below w0.heap.size w0 v2 by rw [hv2]; exact (HB1.out.setCell (p := ⟨g, 7, none⟩) (by have := HFG.out.2.2; have := HWW.out; simp only; omega) _))
  clear hv2 HT1 HF1 HG1 HX1 HB1
  have r0 : v2.cell? ⟨rb, 0, none⟩ = some (.slice A n c) := blk_cell HG2.out 0
  have r1 : v2.cell? ⟨rb, 1, none⟩ = some (.int .i64 (n : Int)) := blk_cell HG2.out 1
  go_quiet (fail)
  obtain ⟨wq, hwq⟩ : ∃ wq, wq = v2.drewN nq := ⟨_, rfl⟩
  rw [← hwq]
  have hbq := (show Below v2.heap.size v2 wq from Drawn0.below ⟨⟨nq, hwq⟩⟩)
  have HTQ := Aside0.mk ((hbq.block g (blk_lt HT2.out)).trans HT2.out)
  have HFQ := Aside0.mk ((hbq.block f (blk_lt HF2.out)).trans HF2.out)
  have HXQ := Aside0.mk (HX2.out.step hbq)
  clear hbq hwq r0 r1 HT2 HF2 HX2 HG2 HB2
  have kp0 := (blk_cell HTQ.out 0).trans rfl
  have kp1 := (blk_cell HTQ.out 1).trans rfl
  have kp2 := (blk_cell HTQ.out 2).trans rfl
  have kp3 := (blk_cell HTQ.out 3).trans rfl
  have kp4 := (blk_cell HTQ.out 4).trans rfl
  have kp5 := (blk_cell HTQ.out 5).trans rfl
  have kp6 := (blk_cell HTQ.out 6).trans rfl
  have kp7 := (blk_cell HTQ.out 7).trans rfl
  have kp8 := (blk_cell HTQ.out 8).trans rfl
  have kp9 := (blk_cell HTQ.out 9).trans rfl
  have kp10 := (blk_cell HTQ.out 10).trans rfl
  have kp11 := (blk_cell HTQ.out 11).trans rfl
  have kp12 := (blk_cell HTQ.out 12).trans rfl
  go_wp2_with (with_reducible refine stop_store rfl ?_)
  refine store_blk rfl rfl 28 _ _ rfl (q := f) (i := 0) (cur' := recCells 3 0 0 0 0 0 none 0 0 vn 0 0 0 0 ⟨#[]⟩) (recCells 3 0 0 0 0 0 none 0 0 vn 0 0 0 0 ⟨#[]⟩).toList rfl rfl rfl (by kernel_rfl) (by intro u hu; simp at hu; (repeat' (rcases hu with rfl | hu)) <;> first | rfl | (subst hu; rfl)) HFQ.out (by simp) rfl ?_
  intro wz hgz hgr
  have HXZ := Aside0.mk (HXQ.out.then_ (Frm.of_grown (S := fun k => k = f) hgr (fun k e => (Option.some.inj e).symm)) (fun k hk hlt => by have := HFG.out.2.1; omega))
  clear hgr kp0 kp1 kp2 kp3 kp4 kp5 kp6 kp7 kp8 kp9 kp10 kp11 kp12
  go_wp2
  (try simp only [Exit.inBlock, Exit.then])
  refine bodyPost_ret (results_cell_row rfl _ _ f 28 (recCells 3 0 0 0 0 0 none 0 0 vn 0 0 0 0 ⟨#[]⟩) (0, 0) _ rfl hgz Try.underlying28 rfl (by kernel_rfl)) rfl ?_
  exact ⟨rfl, HXZ.out⟩
set_option maxHeartbeats 8000000 in
set_option maxRecDepth 100000 in
theorem rd_commit (w0 w : World) (rb n c : Nat) (A : Option Addr) (l : List Int) (st : Int) (hn : l.length = n) (hc : n ≤ c) (hok : bytesOk l = true) (hm : n ≤ 140737488355328) (hC : C8 w0 A n l) (hB : Below w0.heap.size w0 w) (hrb : w0.heap.size ≤ rb) (hg : w.heap[rb]? = some (.cells #[.slice A n c, .int .i64 0] 147 (0, 0))) (hr1 : readNum l 0 = (st, (n : Int), 0)) :
    Calls Try.prog 84 #[.pointer (some ⟨rb, 0, none⟩), .int .i64 6] w fun e w' => e = .returned (.agg (recCells 6 0 0 0 0 0 none 0 0 0 0 0 st 0 ⟨#[]⟩)) ∧ Frm w w' (fun k => k = rb) := by
  have hu28 := Try.underlying28
  have hu26 := Try.underlying26
  have hu24 := Try.underlying24
  have hu147 := Try.underlying147
  have HN := Aside0.mk hn
  have HC := Aside0.mk hC
  have HCC := Aside0.mk hc
  have HOK := Aside0.mk hok
  have HM := Aside0.mk hm
  have HG := Aside0.mk hg
  have HB := Aside0.mk hB
  have HRB := Aside0.mk hrb
  have HWW := Aside0.mk hB.size
  have HR1 := Aside0.mk hr1
  clear hn hc hok hm hC hB hg hrb hr1
  go_enter Try.func84, Try.ntmps84
  go_wp2_with fail
  obtain ⟨f, hf⟩ : ∃ f, f = w.heap.size := ⟨_, rfl⟩
  obtain ⟨g, hg⟩ : ∃ g, g = w.heap.size + 1 := ⟨_, rfl⟩
  obtain ⟨va, hva⟩ : ∃ va, va = w.alloc (.cells (recCells 0 0 0 0 0 0 none 0 0 0 0 0 0 0 ⟨#[]⟩) 28) := ⟨_, rfl⟩
  obtain ⟨v0, hv0⟩ : ∃ v0, v0 = va.alloc (.cells (recCells 6 0 0 0 0 0 none 0 0 0 0 0 0 0 ⟨#[]⟩) 28) := ⟨_, rfl⟩
  have hsz : va.heap.size = w.heap.size + 1 := by rw [hva]; simp
  rw [← hva, ← hv0, ← hg, ← hf]
  have HW1 := Aside0.mk (show Below w.heap.size w v0 by rw [hv0]; exact (below_step (w := w) (W := va) (by rw [hva]; exact below_alloc (Below.refl _ _) _) (below_alloc (Below.refl _ _) _)))
  have HF0 := Aside0.mk (show v0.heap[f]? = some (.cells (recCells 0 0 0 0 0 0 none 0 0 0 0 0 0 0 ⟨#[]⟩) 28 (0, 0)) by
    rw [hv0]
    refine (Below.heap_alloc _ _ _ (by omega)).trans ?_
    rw [hva, hf]; exact heap_alloc_new w _)
  have HT0 := Aside0.mk (show v0.heap[g]? = some (.cells (recCells 6 0 0 0 0 0 none 0 0 0 0 0 0 0 ⟨#[]⟩) 28 (0, 0)) by rw [hv0, hg, ← hsz]; exact heap_alloc_new va _)
  have HB0 := Aside0.mk (below_step HB.out HW1.out)
  have HX0 := Aside0.mk (Frm.of_below HW1.out (fun k => k = rb))
  have HG0 := Aside0.mk ((HW1.out.block rb (blk_lt HG.out)).trans HG.out)
  have HFT := Aside0.mk (show f ≠ rb ∧ g ≠ rb by have := blk_lt HG.out; omega)
  have HFG := Aside0.mk (show f ≠ g ∧ w.heap.size ≤ f ∧ w.heap.size ≤ g by omega)
  clear hf hg hva hv0 hsz HW1 HG HB
  refine (rd_number w0 v0 rb n c A l 0 st (n : Int) HN.out HCC.out HOK.out HM.out HC.out HB0.out HG0.out HR1.out).mono ?_
  rintro e1 v1 ⟨rfl, hg1, hf1⟩
  have HG1 := Aside0.mk hg1
  have HB1 := Aside0.mk (below_frm HB0.out hf1 (N := w0.heap.size) (fun k hk => by rw [hk]; exact HRB.out) (Nat.le_refl _))
  have HX1 := Aside0.mk (HX0.out.then_ hf1 (fun k hk _ => hk))
  have HF1 := Aside0.mk (hf1.blk HF0.out (fun e => HFT.out.1 e))
  have HT1 := Aside0.mk (hf1.blk HT0.out (fun e => HFT.out.2 e))
  clear hg1 hf1 HG0 HB0 HX0 HF0 HT0
  have t10 := (blk_cell HT1.out 10).trans rfl
  have z10 := blk_frozen HT1.out 10
  go_wp2_with fail
  clear t10 z10
  obtain ⟨v2, hv2⟩ : ∃ v2, v2 = (v1.setCell ⟨g, 10, none⟩ (.int .i64 st)) := ⟨_, rfl⟩
  rw [← hv2]
  have HT2 := Aside0.mk (show v2.heap[g]? = some (.cells (recCells 6 0 0 0 0 0 none 0 0 0 0 0 st 0 ⟨#[]⟩) 28 (0, 0)) by
    rw [hv2]
    exact blk_put HT1.out 10 _ rfl)
  have HF2 := Aside0.mk (show v2.heap[f]? = some (.cells (recCells 0 0 0 0 0 0 none 0 0 0 0 0 0 0 ⟨#[]⟩) 28 (0, 0)) by rw [hv2]; exact (blk_far HF1.out (by simp only; exact HFG.out.1) _))
  have HG2 := Aside0.mk (show v2.heap[rb]? = some (.cells #[.slice A n c, .int .i64 (n : Int)] 147 (0, 0)) by rw [hv2]; exact (blk_far HG1.out (by simp only; exact fun e => HFT.out.2 e.symm) _))
  have HX2 := Aside0.mk (show Frm w v2 (fun k => k = rb) by rw [hv2]; exact (HX1.out.set_ (p := ⟨g, 10, none⟩) (.inr HFG.out.2.2) _))
  have HB2 := Aside0.mk (show Below w0.heap.size w0 v2 by rw [hv2]; exact (HB1.out.setCell (p := ⟨g, 10, none⟩) (by have := HFG.out.2.2; have := HWW.out; simp only; omega) _))
  clear hv2 HT1 HF1 HG1 HX1 HB1
  have r0 : v2.cell? ⟨rb, 0, none⟩ = some (.slice A n c) := blk_cell HG2.out 0
  have r1 : v2.cell? ⟨rb, 1, none⟩ = some (.int .i64 (n : Int)) := blk_cell HG2.out 1
  go_quiet (fail)
  obtain ⟨wq, hwq⟩ : ∃ wq, wq = v2.drewN nq := ⟨_, rfl⟩
  rw [← hwq]
  have hbq := (show Below v2.heap.size v2 wq from Drawn0.below ⟨⟨nq, hwq⟩⟩)
  have HTQ := Aside0.mk ((hbq.block g (blk_lt HT2.out)).trans HT2.out)
  have HFQ := Aside0.mk ((hbq.block f (blk_lt HF2.out)).trans HF2.out)
  have HXQ := Aside0.mk (HX2.out.step hbq)
  clear hbq hwq r0 r1 HT2 HF2 HX2 HG2 HB2
  have kp0 := (blk_cell HTQ.out 0).trans rfl
  have kp1 := (blk_cell HTQ.out 1).trans rfl
  have kp2 := (blk_cell HTQ.out 2).trans rfl
  have kp3 := (blk_cell HTQ.out 3).trans rfl
  have kp4 := (blk_cell HTQ.out 4).trans rfl
  have kp5 := (blk_cell HTQ.out 5).trans rfl
  have kp6 := (blk_cell HTQ.out 6).trans rfl
  have kp7 := (blk_cell HTQ.out 7).trans rfl
  have kp8 := (blk_cell HTQ.out 8).trans rfl
  have kp9 := (blk_cell HTQ.out 9).trans rfl
  have kp10 := (blk_cell HTQ.out 10).trans rfl
  have kp11 := (blk_cell HTQ.out 11).trans rfl
  have kp12 := (blk_cell HTQ.out 12).trans rfl
  go_wp2_with (with_reducible refine stop_store rfl ?_)
  refine store_blk rfl rfl 28 _ _ rfl (q := f) (i := 0) (cur' := recCells 6 0 0 0 0 0 none 0 0 0 0 0 st 0 ⟨#[]⟩) (recCells 6 0 0 0 0 0 none 0 0 0 0 0 st 0 ⟨#[]⟩).toList rfl rfl rfl (by kernel_rfl) (by intro u hu; simp at hu; (repeat' (rcases hu with rfl | hu)) <;> first | rfl | (subst hu; rfl)) HFQ.out (by simp) rfl ?_
  intro wz hgz hgr
  have HXZ := Aside0.mk (HXQ.out.then_ (Frm.of_grown (S := fun k => k = f) hgr (fun k e => (Option.some.inj e).symm)) (fun k hk hlt => by have := HFG.out.2.1; omega))
  clear hgr kp0 kp1 kp2 kp3 kp4 kp5 kp6 kp7 kp8 kp9 kp10 kp11 kp12
  go_wp2
  (try simp only [Exit.inBlock, Exit.then])
  refine bodyPost_ret (results_cell_row rfl _ _ f 28 (recCells 6 0 0 0 0 0 none 0 0 0 0 0 st 0 ⟨#[]⟩) (0, 0) _ rfl hgz Try.underlying28 rfl (by kernel_rfl)) rfl ?_
  exact ⟨rfl, HXZ.out⟩
set_option maxHeartbeats 8000000 in
set_option maxRecDepth 100000 in
theorem rd_save (w0 w : World) (rb n c : Nat) (A : Option Addr) (l : List Int) (st of q1 q2 : Int) (bx : List Int) (x : ByteArray) (hn : l.length = n) (hc : n ≤ c) (hok : bytesOk l = true) (hm : n ≤ 140737488355328) (hC : C8 w0 A n l) (hB : Below w0.heap.size w0 w) (hrb : w0.heap.size ≤ rb) (hg : w.heap[rb]? = some (.cells #[.slice A n c, .int .i64 0] 147 (0, 0))) (hr1 : readNum l 0 = (st, q1, 0)) (hr2 : readNum l q1 = (of, q2, 0)) (hr3 : readText l q2 = (bx, (n : Int), 0)) (hx : strOfNums bx = x) :
    Calls Try.prog 84 #[.pointer (some ⟨rb, 0, none⟩), .int .i64 5] w fun e w' => e = .returned (.agg (recCells 5 0 0 0 0 0 none 0 0 0 0 0 st of x)) ∧ Frm w w' (fun k => k = rb) := by
  have hu28 := Try.underlying28
  have hu26 := Try.underlying26
  have hu24 := Try.underlying24
  have hu147 := Try.underlying147
  have HN := Aside0.mk hn
  have HC := Aside0.mk hC
  have HCC := Aside0.mk hc
  have HOK := Aside0.mk hok
  have HM := Aside0.mk hm
  have HG := Aside0.mk hg
  have HB := Aside0.mk hB
  have HRB := Aside0.mk hrb
  have HWW := Aside0.mk hB.size
  have HR1 := Aside0.mk hr1
  have HR2 := Aside0.mk hr2
  have HR3 := Aside0.mk hr3
  have HX := Aside0.mk hx
  clear hn hc hok hm hC hB hg hrb hr1 hr2 hr3 hx
  go_enter Try.func84, Try.ntmps84
  go_wp2_with fail
  obtain ⟨f, hf⟩ : ∃ f, f = w.heap.size := ⟨_, rfl⟩
  obtain ⟨g, hg⟩ : ∃ g, g = w.heap.size + 1 := ⟨_, rfl⟩
  obtain ⟨va, hva⟩ : ∃ va, va = w.alloc (.cells (recCells 0 0 0 0 0 0 none 0 0 0 0 0 0 0 ⟨#[]⟩) 28) := ⟨_, rfl⟩
  obtain ⟨v0, hv0⟩ : ∃ v0, v0 = va.alloc (.cells (recCells 5 0 0 0 0 0 none 0 0 0 0 0 0 0 ⟨#[]⟩) 28) := ⟨_, rfl⟩
  have hsz : va.heap.size = w.heap.size + 1 := by rw [hva]; simp
  rw [← hva, ← hv0, ← hg, ← hf]
  have HW1 := Aside0.mk (show Below w.heap.size w v0 by rw [hv0]; exact (below_step (w := w) (W := va) (by rw [hva]; exact below_alloc (Below.refl _ _) _) (below_alloc (Below.refl _ _) _)))
  have HF0 := Aside0.mk (show v0.heap[f]? = some (.cells (recCells 0 0 0 0 0 0 none 0 0 0 0 0 0 0 ⟨#[]⟩) 28 (0, 0)) by
    rw [hv0]
    refine (Below.heap_alloc _ _ _ (by omega)).trans ?_
    rw [hva, hf]; exact heap_alloc_new w _)
  have HT0 := Aside0.mk (show v0.heap[g]? = some (.cells (recCells 5 0 0 0 0 0 none 0 0 0 0 0 0 0 ⟨#[]⟩) 28 (0, 0)) by rw [hv0, hg, ← hsz]; exact heap_alloc_new va _)
  have HB0 := Aside0.mk (below_step HB.out HW1.out)
  have HX0 := Aside0.mk (Frm.of_below HW1.out (fun k => k = rb))
  have HG0 := Aside0.mk ((HW1.out.block rb (blk_lt HG.out)).trans HG.out)
  have HFT := Aside0.mk (show f ≠ rb ∧ g ≠ rb by have := blk_lt HG.out; omega)
  have HFG := Aside0.mk (show f ≠ g ∧ w.heap.size ≤ f ∧ w.heap.size ≤ g by omega)
  clear hf hg hva hv0 hsz HW1 HG HB
  refine (rd_number w0 v0 rb n c A l 0 st q1 HN.out HCC.out HOK.out HM.out HC.out HB0.out HG0.out HR1.out).mono ?_
  rintro e1 v1 ⟨rfl, hg1, hf1⟩
  have HG1 := Aside0.mk hg1
  have HB1 := Aside0.mk (below_frm HB0.out hf1 (N := w0.heap.size) (fun k hk => by rw [hk]; exact HRB.out) (Nat.le_refl _))
  have HX1 := Aside0.mk (HX0.out.then_ hf1 (fun k hk _ => hk))
  have HF1 := Aside0.mk (hf1.blk HF0.out (fun e => HFT.out.1 e))
  have HT1 := Aside0.mk (hf1.blk HT0.out (fun e => HFT.out.2 e))
  clear hg1 hf1 HG0 HB0 HX0 HF0 HT0
  go_wp2_with fail
  refine (rd_number w0 v1 rb n c A l q1 of q2 HN.out HCC.out HOK.out HM.out HC.out HB1.out HG1.out HR2.out).mono ?_
  rintro e2 v2 ⟨rfl, hg2, hf2⟩
  have HG2 := Aside0.mk hg2
  have HB2 := Aside0.mk (below_frm HB1.out hf2 (N := w0.heap.size) (fun k hk => by rw [hk]; exact HRB.out) (Nat.le_refl _))
  have HX2 := Aside0.mk (HX1.out.then_ hf2 (fun k hk _ => hk))
  have HF2 := Aside0.mk (hf2.blk HF1.out (fun e => HFT.out.1 e))
  have HT2 := Aside0.mk (hf2.blk HT1.out (fun e => HFT.out.2 e))
  clear hg2 hf2 HG1 HB1 HX1 HF1 HT1
  have t10 := (blk_cell HT2.out 10).trans rfl
  have z10 := blk_frozen HT2.out 10
  have t11 := (blk_cell HT2.out 11).trans rfl
  have z11 := blk_frozen HT2.out 11
  go_wp2_with fail
  clear t10 z10 t11 z11
  obtain ⟨v3, hv3⟩ : ∃ v3, v3 = ((v2.setCell ⟨g, 10, none⟩ (.int .i64 st)).setCell ⟨g, 11, none⟩ (.int .i64 of)) := ⟨_, rfl⟩
  rw [← hv3]
  have HT3 := Aside0.mk (show v3.heap[g]? = some (.cells (recCells 5 0 0 0 0 0 none 0 0 0 0 0 st of ⟨#[]⟩) 28 (0, 0)) by
    rw [hv3]
    refine blk_put (cs := recCells 5 0 0 0 0 0 none 0 0 0 0 0 st 0 ⟨#[]⟩) ?_ 11 _ rfl
    exact blk_put HT2.out 10 _ rfl)
  have HF3 := Aside0.mk (show v3.heap[f]? = some (.cells (recCells 0 0 0 0 0 0 none 0 0 0 0 0 0 0 ⟨#[]⟩) 28 (0, 0)) by rw [hv3]; exact (blk_far (blk_far HF2.out (by simp only; exact HFG.out.1) _) (by simp only; exact HFG.out.1) _))
  have HG3 := Aside0.mk (show v3.heap[rb]? = some (.cells #[.slice A n c, .int .i64 q2] 147 (0, 0)) by rw [hv3]; exact (blk_far (blk_far HG2.out (by simp only; exact fun e => HFT.out.2 e.symm) _) (by simp only; exact fun e => HFT.out.2 e.symm) _))
  have HX3 := Aside0.mk (show Frm w v3 (fun k => k = rb) by rw [hv3]; exact ((HX2.out.set_ (p := ⟨g, 10, none⟩) (.inr HFG.out.2.2) _).set_ (p := ⟨g, 11, none⟩) (.inr HFG.out.2.2) _))
  have HB3 := Aside0.mk (show Below w0.heap.size w0 v3 by rw [hv3]; exact ((HB2.out.setCell (p := ⟨g, 10, none⟩) (by have := HFG.out.2.2; have := HWW.out; simp only; omega) _).setCell (p := ⟨g, 11, none⟩) (by have := HFG.out.2.2; have := HWW.out; simp only; omega) _))
  clear hv3 HT2 HF2 HG2 HX2 HB2
  refine (rd_text w0 v3 rb n c A l q2 (n : Int) bx HN.out HCC.out HOK.out HM.out HC.out HB3.out HG3.out HR3.out).mono ?_
  rintro e4 v4 ⟨rfl, hg4, hf4⟩
  have HG4 := Aside0.mk hg4
  have HB4 := Aside0.mk (below_frm HB3.out hf4 (N := w0.heap.size) (fun k hk => by rw [hk]; exact HRB.out) (Nat.le_refl _))
  have HX4 := Aside0.mk (HX3.out.then_ hf4 (fun k hk _ => hk))
  have HF4 := Aside0.mk (hf4.blk HF3.out (fun e => HFT.out.1 e))
  have HT4 := Aside0.mk (hf4.blk HT3.out (fun e => HFT.out.2 e))
  clear hg4 hf4 HG3 HB3 HX3 HF3 HT3
  rw [HX.out]
  have t12 := (blk_cell HT4.out 12).trans rfl
  have z12 := blk_frozen HT4.out 12
  go_wp2_with fail
  clear t12 z12
  obtain ⟨v5, hv5⟩ : ∃ v5, v5 = (v4.setCell ⟨g, 12, none⟩ (.string x)) := ⟨_, rfl⟩
  rw [← hv5]
  have HT5 := Aside0.mk (show v5.heap[g]? = some (.cells (recCells 5 0 0 0 0 0 none 0 0 0 0 0 st of x) 28 (0, 0)) by
    rw [hv5]
    exact blk_put HT4.out 12 _ rfl)
  have HF5 := Aside0.mk (show v5.heap[f]? = some (.cells (recCells 0 0 0 0 0 0 none 0 0 0 0 0 0 0 ⟨#[]⟩) 28 (0, 0)) by rw [hv5]; exact (blk_far HF4.out (by simp only; exact HFG.out.1) _))
  have HG5 := Aside0.mk (show v5.heap[rb]? = some (.cells #[.slice A n c, .int .i64 (n : Int)] 147 (0, 0)) by rw [hv5]; exact (blk_far HG4.out (by simp only; exact fun e => HFT.out.2 e.symm) _))
  have HX5 := Aside0.mk (show Frm w v5 (fun k => k = rb) by rw [hv5]; exact (HX4.out.set_ (p := ⟨g, 12, none⟩) (.inr HFG.out.2.2) _))
  have HB5 := Aside0.mk (show Below w0.heap.size w0 v5 by rw [hv5]; exact (HB4.out.setCell (p := ⟨g, 12, none⟩) (by have := HFG.out.2.2; have := HWW.out; simp only; omega) _))
  clear hv5 HT4 HF4 HG4 HX4 HB4
  have r0 : v5.cell? ⟨rb, 0, none⟩ = some (.slice A n c) := blk_cell HG5.out 0
  have r1 : v5.cell? ⟨rb, 1, none⟩ = some (.int .i64 (n : Int)) := blk_cell HG5.out 1
  go_quiet (fail)
  obtain ⟨wq, hwq⟩ : ∃ wq, wq = v5.drewN nq := ⟨_, rfl⟩
  rw [← hwq]
  have hbq := (show Below v5.heap.size v5 wq from Drawn0.below ⟨⟨nq, hwq⟩⟩)
  have HTQ := Aside0.mk ((hbq.block g (blk_lt HT5.out)).trans HT5.out)
  have HFQ := Aside0.mk ((hbq.block f (blk_lt HF5.out)).trans HF5.out)
  have HXQ := Aside0.mk (HX5.out.step hbq)
  clear hbq hwq r0 r1 HT5 HF5 HX5 HG5 HB5
  have kp0 := (blk_cell HTQ.out 0).trans rfl
  have kp1 := (blk_cell HTQ.out 1).trans rfl
  have kp2 := (blk_cell HTQ.out 2).trans rfl
  have kp3 := (blk_cell HTQ.out 3).trans rfl
  have kp4 := (blk_cell HTQ.out 4).trans rfl
  have kp5 := (blk_cell HTQ.out 5).trans rfl
  have kp6 := (blk_cell HTQ.out 6).trans rfl
  have kp7 := (blk_cell HTQ.out 7).trans rfl
  have kp8 := (blk_cell HTQ.out 8).trans rfl
  have kp9 := (blk_cell HTQ.out 9).trans rfl
  have kp10 := (blk_cell HTQ.out 10).trans rfl
  have kp11 := (blk_cell HTQ.out 11).trans rfl
  have kp12 := (blk_cell HTQ.out 12).trans rfl
  go_wp2_with (with_reducible refine stop_store rfl ?_)
  refine store_blk rfl rfl 28 _ _ rfl (q := f) (i := 0) (cur' := recCells 5 0 0 0 0 0 none 0 0 0 0 0 st of x) (recCells 5 0 0 0 0 0 none 0 0 0 0 0 st of x).toList rfl rfl rfl (by kernel_rfl) (by intro u hu; simp at hu; (repeat' (rcases hu with rfl | hu)) <;> first | rfl | (subst hu; rfl)) HFQ.out (by simp) rfl ?_
  intro wz hgz hgr
  have HXZ := Aside0.mk (HXQ.out.then_ (Frm.of_grown (S := fun k => k = f) hgr (fun k e => (Option.some.inj e).symm)) (fun k hk hlt => by have := HFG.out.2.1; omega))
  clear hgr kp0 kp1 kp2 kp3 kp4 kp5 kp6 kp7 kp8 kp9 kp10 kp11 kp12
  go_wp2
  (try simp only [Exit.inBlock, Exit.then])
  refine bodyPost_ret (results_cell_row rfl _ _ f 28 (recCells 5 0 0 0 0 0 none 0 0 0 0 0 st of x) (0, 0) _ rfl hgz Try.underlying28 rfl (by kernel_rfl)) rfl ?_
  exact ⟨rfl, HXZ.out⟩
set_option maxHeartbeats 8000000 in
set_option maxRecDepth 100000 in
theorem rd_reset (w0 w : World) (rb n c : Nat) (A : Option Addr) (l : List Int) (vn st of q0 q1 q2 : Int) (bx : List Int) (x : ByteArray) (hn : l.length = n) (hc : n ≤ c) (hok : bytesOk l = true) (hm : n ≤ 140737488355328) (hC : C8 w0 A n l) (hB : Below w0.heap.size w0 w) (hrb : w0.heap.size ≤ rb) (hg : w.heap[rb]? = some (.cells #[.slice A n c, .int .i64 0] 147 (0, 0))) (hr0 : readNum l 0 = (vn, q0, 0)) (hr1 : readNum l q0 = (st, q1, 0)) (hr2 : readNum l q1 = (of, q2, 0)) (hr3 : readText l q2 = (bx, (n : Int), 0)) (hx : strOfNums bx = x) :
    Calls Try.prog 84 #[.pointer (some ⟨rb, 0, none⟩), .int .i64 4] w fun e w' => e = .returned (.agg (recCells 4 0 0 0 0 0 none 0 0 vn 0 0 st of x)) ∧ Frm w w' (fun k => k = rb) := by
  have hu28 := Try.underlying28
  have hu26 := Try.underlying26
  have hu24 := Try.underlying24
  have hu147 := Try.underlying147
  have HN := Aside0.mk hn
  have HC := Aside0.mk hC
  have HCC := Aside0.mk hc
  have HOK := Aside0.mk hok
  have HM := Aside0.mk hm
  have HG := Aside0.mk hg
  have HB := Aside0.mk hB
  have HRB := Aside0.mk hrb
  have HWW := Aside0.mk hB.size
  have HR0 := Aside0.mk hr0
  have HR1 := Aside0.mk hr1
  have HR2 := Aside0.mk hr2
  have HR3 := Aside0.mk hr3
  have HX := Aside0.mk hx
  clear hn hc hok hm hC hB hg hrb hr0 hr1 hr2 hr3 hx
  go_enter Try.func84, Try.ntmps84
  go_wp2_with fail
  obtain ⟨f, hf⟩ : ∃ f, f = w.heap.size := ⟨_, rfl⟩
  obtain ⟨g, hg⟩ : ∃ g, g = w.heap.size + 1 := ⟨_, rfl⟩
  obtain ⟨va, hva⟩ : ∃ va, va = w.alloc (.cells (recCells 0 0 0 0 0 0 none 0 0 0 0 0 0 0 ⟨#[]⟩) 28) := ⟨_, rfl⟩
  obtain ⟨v0, hv0⟩ : ∃ v0, v0 = va.alloc (.cells (recCells 4 0 0 0 0 0 none 0 0 0 0 0 0 0 ⟨#[]⟩) 28) := ⟨_, rfl⟩
  have hsz : va.heap.size = w.heap.size + 1 := by rw [hva]; simp
  rw [← hva, ← hv0, ← hg, ← hf]
  have HW1 := Aside0.mk (show Below w.heap.size w v0 by rw [hv0]; exact (below_step (w := w) (W := va) (by rw [hva]; exact below_alloc (Below.refl _ _) _) (below_alloc (Below.refl _ _) _)))
  have HF0 := Aside0.mk (show v0.heap[f]? = some (.cells (recCells 0 0 0 0 0 0 none 0 0 0 0 0 0 0 ⟨#[]⟩) 28 (0, 0)) by
    rw [hv0]
    refine (Below.heap_alloc _ _ _ (by omega)).trans ?_
    rw [hva, hf]; exact heap_alloc_new w _)
  have HT0 := Aside0.mk (show v0.heap[g]? = some (.cells (recCells 4 0 0 0 0 0 none 0 0 0 0 0 0 0 ⟨#[]⟩) 28 (0, 0)) by rw [hv0, hg, ← hsz]; exact heap_alloc_new va _)
  have HB0 := Aside0.mk (below_step HB.out HW1.out)
  have HX0 := Aside0.mk (Frm.of_below HW1.out (fun k => k = rb))
  have HG0 := Aside0.mk ((HW1.out.block rb (blk_lt HG.out)).trans HG.out)
  have HFT := Aside0.mk (show f ≠ rb ∧ g ≠ rb by have := blk_lt HG.out; omega)
  have HFG := Aside0.mk (show f ≠ g ∧ w.heap.size ≤ f ∧ w.heap.size ≤ g by omega)
  clear hf hg hva hv0 hsz HW1 HG HB
  refine (rd_number w0 v0 rb n c A l 0 vn q0 HN.out HCC.out HOK.out HM.out HC.out HB0.out HG0.out HR0.out).mono ?_
  rintro e1 v1 ⟨rfl, hg1, hf1⟩
  have HG1 := Aside0.mk hg1
  have HB1 := Aside0.mk (below_frm HB0.out hf1 (N := w0.heap.size) (fun k hk => by rw [hk]; exact HRB.out) (Nat.le_refl _))
  have HX1 := Aside0.mk (HX0.out.then_ hf1 (fun k hk _ => hk))
  have HF1 := Aside0.mk (hf1.blk HF0.out (fun e => HFT.out.1 e))
  have HT1 := Aside0.mk (hf1.blk HT0.out (fun e => HFT.out.2 e))
  clear hg1 hf1 HG0 HB0 HX0 HF0 HT0
  have t7 := (blk_cell HT1.out 7).trans rfl
  have z7 := blk_frozen HT1.out 7
  go_wp2_with fail
  clear t7 z7
  obtain ⟨v2, hv2⟩ : ∃ v2, v2 = (v1.setCell ⟨g, 7, none⟩ (.int .i64 vn)) := ⟨_, rfl⟩
  rw [← hv2]
  have HT2 := Aside0.mk (show v2.heap[g]? = some (.cells (recCells 4 0 0 0 0 0 none 0 0 vn 0 0 0 0 ⟨#[]⟩) 28 (0, 0)) by
    rw [hv2]
    exact blk_put HT1.out 7 _ rfl)
  have HF2 := Aside0.mk (show v2.heap[f]? = some (.cells (recCells 0 0 0 0 0 0 none 0 0 0 0 0 0 0 ⟨#[]⟩) 28 (0, 0)) by rw [hv2]; exact (blk_far HF1.out (by simp only; exact HFG.out.1) _))
  have HG2 := Aside0.mk (show v2.heap[rb]? = some (.cells #[.slice A n c, .int .i64 q0] 147 (0, 0)) by rw [hv2]; exact (blk_far HG1.out (by simp only; exact fun e => HFT.out.2 e.symm) _))
  have HX2 := Aside0.mk (show Frm w v2 (fun k => k = rb) by rw [hv2]; exact (HX1.out.set_ (p := ⟨g, 7, none⟩) (.inr HFG.out.2.2) _))
  have HB2 := Aside0.mk (show Below w0.heap.size w0 v2 by rw [hv2]; exact (HB1.out.setCell (p := ⟨g, 7, none⟩) (by have := HFG.out.2.2; have := HWW.out; simp only; omega) _))
  clear hv2 HT1 HF1 HG1 HX1 HB1
  refine (rd_number w0 v2 rb n c A l q0 st q1 HN.out HCC.out HOK.out HM.out HC.out HB2.out HG2.out HR1.out).mono ?_
  rintro e3 v3 ⟨rfl, hg3, hf3⟩
  have HG3 := Aside0.mk hg3
  have HB3 := Aside0.mk (below_frm HB2.out hf3 (N := w0.heap.size) (fun k hk => by rw [hk]; exact HRB.out) (Nat.le_refl _))
  have HX3 := Aside0.mk (HX2.out.then_ hf3 (fun k hk _ => hk))
  have HF3 := Aside0.mk (hf3.blk HF2.out (fun e => HFT.out.1 e))
  have HT3 := Aside0.mk (hf3.blk HT2.out (fun e => HFT.out.2 e))
  clear hg3 hf3 HG2 HB2 HX2 HF2 HT2
  go_wp2_with fail
  refine (rd_number w0 v3 rb n c A l q1 of q2 HN.out HCC.out HOK.out HM.out HC.out HB3.out HG3.out HR2.out).mono ?_
  rintro e4 v4 ⟨rfl, hg4, hf4⟩
  have HG4 := Aside0.mk hg4
  have HB4 := Aside0.mk (below_frm HB3.out hf4 (N := w0.heap.size) (fun k hk => by rw [hk]; exact HRB.out) (Nat.le_refl _))
  have HX4 := Aside0.mk (HX3.out.then_ hf4 (fun k hk _ => hk))
  have HF4 := Aside0.mk (hf4.blk HF3.out (fun e => HFT.out.1 e))
  have HT4 := Aside0.mk (hf4.blk HT3.out (fun e => HFT.out.2 e))
  clear hg4 hf4 HG3 HB3 HX3 HF3 HT3
  have t10 := (blk_cell HT4.out 10).trans rfl
  have z10 := blk_frozen HT4.out 10
  have t11 := (blk_cell HT4.out 11).trans rfl
  have z11 := blk_frozen HT4.out 11
  go_wp2_with fail
  clear t10 z10 t11 z11
  obtain ⟨v5, hv5⟩ : ∃ v5, v5 = ((v4.setCell ⟨g, 10, none⟩ (.int .i64 st)).setCell ⟨g, 11, none⟩ (.int .i64 of)) := ⟨_, rfl⟩
  rw [← hv5]
  have HT5 := Aside0.mk (show v5.heap[g]? = some (.cells (recCells 4 0 0 0 0 0 none 0 0 vn 0 0 st of ⟨#[]⟩) 28 (0, 0)) by
    rw [hv5]
    refine blk_put (cs := recCells 4 0 0 0 0 0 none 0 0 vn 0 0 st 0 ⟨#[]⟩) ?_ 11 _ rfl
    exact blk_put HT4.out 10 _ rfl)
  have HF5 := Aside0.mk (show v5.heap[f]? = some (.cells (recCells 0 0 0 0 0 0 none 0 0 0 0 0 0 0 ⟨#[]⟩) 28 (0, 0)) by rw [hv5]; exact (blk_far (blk_far HF4.out (by simp only; exact HFG.out.1) _) (by simp only; exact HFG.out.1) _))
  have HG5 := Aside0.mk (show v5.heap[rb]? = some (.cells #[.slice A n c, .int .i64 q2] 147 (0, 0)) by rw [hv5]; exact (blk_far (blk_far HG4.out (by simp only; exact fun e => HFT.out.2 e.symm) _) (by simp only; exact fun e => HFT.out.2 e.symm) _))
  have HX5 := Aside0.mk (show Frm w v5 (fun k => k = rb) by rw [hv5]; exact ((HX4.out.set_ (p := ⟨g, 10, none⟩) (.inr HFG.out.2.2) _).set_ (p := ⟨g, 11, none⟩) (.inr HFG.out.2.2) _))
  have HB5 := Aside0.mk (show Below w0.heap.size w0 v5 by rw [hv5]; exact ((HB4.out.setCell (p := ⟨g, 10, none⟩) (by have := HFG.out.2.2; have := HWW.out; simp only; omega) _).setCell (p := ⟨g, 11, none⟩) (by have := HFG.out.2.2; have := HWW.out; simp only; omega) _))
  clear hv5 HT4 HF4 HG4 HX4 HB4
  refine (rd_text w0 v5 rb n c A l q2 (n : Int) bx HN.out HCC.out HOK.out HM.out HC.out HB5.out HG5.out HR3.out).mono ?_
  rintro e6 v6 ⟨rfl, hg6, hf6⟩
  have HG6 := Aside0.mk hg6
  have HB6 := Aside0.mk (below_frm HB5.out hf6 (N := w0.heap.size) (fun k hk => by rw [hk]; exact HRB.out) (Nat.le_refl _))
  have HX6 := Aside0.mk (HX5.out.then_ hf6 (fun k hk _ => hk))
  have HF6 := Aside0.mk (hf6.blk HF5.out (fun e => HFT.out.1 e))
  have HT6 := Aside0.mk (hf6.blk HT5.out (fun e => HFT.out.2 e))
  clear hg6 hf6 HG5 HB5 HX5 HF5 HT5
  rw [HX.out]
  have t12 := (blk_cell HT6.out 12).trans rfl
  have z12 := blk_frozen HT6.out 12
  go_wp2_with fail
  clear t12 z12
  obtain ⟨v7, hv7⟩ : ∃ v7, v7 = (v6.setCell ⟨g, 12, none⟩ (.string x)) := ⟨_, rfl⟩
  rw [← hv7]
  have HT7 := Aside0.mk (show v7.heap[g]? = some (.cells (recCells 4 0 0 0 0 0 none 0 0 vn 0 0 st of x) 28 (0, 0)) by
    rw [hv7]
    exact blk_put HT6.out 12 _ rfl)
  have HF7 := Aside0.mk (show v7.heap[f]? = some (.cells (recCells 0 0 0 0 0 0 none 0 0 0 0 0 0 0 ⟨#[]⟩) 28 (0, 0)) by rw [hv7]; exact (blk_far HF6.out (by simp only; exact HFG.out.1) _))
  have HG7 := Aside0.mk (show v7.heap[rb]? = some (.cells #[.slice A n c, .int .i64 (n : Int)] 147 (0, 0)) by rw [hv7]; exact (blk_far HG6.out (by simp only; exact fun e => HFT.out.2 e.symm) _))
  have HX7 := Aside0.mk (show Frm w v7 (fun k => k = rb) by rw [hv7]; exact (HX6.out.set_ (p := ⟨g, 12, none⟩) (.inr HFG.out.2.2) _))
  have HB7 := Aside0.mk (show Below w0.heap.size w0 v7 by rw [hv7]; exact (HB6.out.setCell (p := ⟨g, 12, none⟩) (by have := HFG.out.2.2; have := HWW.out; simp only; omega) _))
  clear hv7 HT6 HF6 HG6 HX6 HB6
  have r0 : v7.cell? ⟨rb, 0, none⟩ = some (.slice A n c) := blk_cell HG7.out 0
  have r1 : v7.cell? ⟨rb, 1, none⟩ = some (.int .i64 (n : Int)) := blk_cell HG7.out 1
  go_quiet (fail)
  obtain ⟨wq, hwq⟩ : ∃ wq, wq = v7.drewN nq := ⟨_, rfl⟩
  rw [← hwq]
  have hbq := (show Below v7.heap.size v7 wq from Drawn0.below ⟨⟨nq, hwq⟩⟩)
  have HTQ := Aside0.mk ((hbq.block g (blk_lt HT7.out)).trans HT7.out)
  have HFQ := Aside0.mk ((hbq.block f (blk_lt HF7.out)).trans HF7.out)
  have HXQ := Aside0.mk (HX7.out.step hbq)
  clear hbq hwq r0 r1 HT7 HF7 HX7 HG7 HB7
  have kp0 := (blk_cell HTQ.out 0).trans rfl
  have kp1 := (blk_cell HTQ.out 1).trans rfl
  have kp2 := (blk_cell HTQ.out 2).trans rfl
  have kp3 := (blk_cell HTQ.out 3).trans rfl
  have kp4 := (blk_cell HTQ.out 4).trans rfl
  have kp5 := (blk_cell HTQ.out 5).trans rfl
  have kp6 := (blk_cell HTQ.out 6).trans rfl
  have kp7 := (blk_cell HTQ.out 7).trans rfl
  have kp8 := (blk_cell HTQ.out 8).trans rfl
  have kp9 := (blk_cell HTQ.out 9).trans rfl
  have kp10 := (blk_cell HTQ.out 10).trans rfl
  have kp11 := (blk_cell HTQ.out 11).trans rfl
  have kp12 := (blk_cell HTQ.out 12).trans rfl
  go_wp2_with (with_reducible refine stop_store rfl ?_)
  refine store_blk rfl rfl 28 _ _ rfl (q := f) (i := 0) (cur' := recCells 4 0 0 0 0 0 none 0 0 vn 0 0 st of x) (recCells 4 0 0 0 0 0 none 0 0 vn 0 0 st of x).toList rfl rfl rfl (by kernel_rfl) (by intro u hu; simp at hu; (repeat' (rcases hu with rfl | hu)) <;> first | rfl | (subst hu; rfl)) HFQ.out (by simp) rfl ?_
  intro wz hgz hgr
  have HXZ := Aside0.mk (HXQ.out.then_ (Frm.of_grown (S := fun k => k = f) hgr (fun k e => (Option.some.inj e).symm)) (fun k hk hlt => by have := HFG.out.2.1; omega))
  clear hgr kp0 kp1 kp2 kp3 kp4 kp5 kp6 kp7 kp8 kp9 kp10 kp11 kp12
  go_wp2
  (try simp only [Exit.inBlock, Exit.then])
  refine bodyPost_ret (results_cell_row rfl _ _ f 28 (recCells 4 0 0 0 0 0 none 0 0 vn 0 0 st of x) (0, 0) _ rfl hgz Try.underlying28 rfl (by kernel_rfl)) rfl ?_
  exact ⟨rfl, HXZ.out⟩

set_option maxHeartbeats 8000000 in
set_option maxRecDepth 100000 in
theorem rd_entry (w0 w : World) (rb n c : Nat) (A : Option Addr) (l : List Int) (s v k se rq : Int) (ops : List S40) (m : Nat) (hm2 : ops.length = m) (hm1 : m ≤ 1000000) (hn : l.length = n) (hc : n ≤ c) (hok : bytesOk l = true) (hm : n ≤ 262144) (hC : C8 w0 A n l) (hB : Below w0.heap.size w0 w) (hrb : w0.heap.size ≤ rb) (hg : w.heap[rb]? = some (.cells #[.slice A n c, .int .i64 0] 147 (0, 0))) (hr : EntAt l 0 s v k se rq ops (n : Int)) (hmay : entOk s v k se rq ops = true) :
    Calls Try.prog 84 #[.pointer (some ⟨rb, 0, none⟩), .int .i64 1] w fun e w' => ∃ B cb, e = .returned (.agg (recCells 1 s v k se rq B m cb 0 0 0 0 0 ⟨#[]⟩)) ∧ R40 w' w.heap.size (.slice B m cb) ops ∧ Frm w w' (fun k => k = rb) := by
  have hu28 := Try.underlying28
  have hu26 := Try.underlying26
  have hu24 := Try.underlying24
  have hu147 := Try.underlying147
  have HN := Aside0.mk hn
  have HC := Aside0.mk hC
  have HCC := Aside0.mk hc
  have HOK := Aside0.mk hok
  have HM := Aside0.mk hm
  have HG := Aside0.mk hg
  have HB := Aside0.mk hB
  have HRB := Aside0.mk hrb
  have HWW := Aside0.mk hB.size
  have HR := Aside0.mk hr
  have HMAY := Aside0.mk hmay
  have HM2 := Aside0.mk hm2
  have HM1 := Aside0.mk hm1
  clear hn hc hok hm hC hB hg hrb hr hmay hm2 hm1
  go_enter Try.func84, Try.ntmps84
  have rr : ((w.alloc (.cells (recCells 0 0 0 0 0 0 none 0 0 0 0 0 0 0 ⟨#[]⟩) 28)).alloc (.cells (recCells 1 0 0 0 0 0 none 0 0 0 0 0 0 0 ⟨#[]⟩) 28)).cell? ⟨rb, 0, none⟩ = some (.slice A n c) := pw_cell_below (below_alloc (below_alloc (Below.refl _ _) _) _) (blk_cell HG.out 0)
  go_wp2_with fail
  obtain ⟨f, hf⟩ : ∃ f, f = w.heap.size := ⟨_, rfl⟩
  obtain ⟨g, hg⟩ : ∃ g, g = w.heap.size + 1 := ⟨_, rfl⟩
  obtain ⟨va, hva⟩ : ∃ va, va = w.alloc (.cells (recCells 0 0 0 0 0 0 none 0 0 0 0 0 0 0 ⟨#[]⟩) 28) := ⟨_, rfl⟩
  obtain ⟨v0, hv0⟩ : ∃ v0, v0 = va.alloc (.cells (recCells 1 0 0 0 0 0 none 0 0 0 0 0 0 0 ⟨#[]⟩) 28) := ⟨_, rfl⟩
  have hsz : va.heap.size = w.heap.size + 1 := by rw [hva]; simp
  rw [← hva, ← hv0, ← hg, ← hf]
  have HW1 := Aside0.mk (show Below w.heap.size w v0 by rw [hv0]; exact (below_step (w := w) (W := va) (by rw [hva]; exact below_alloc (Below.refl _ _) _) (below_alloc (Below.refl _ _) _)))
  have HF0 := Aside0.mk (show v0.heap[f]? = some (.cells (recCells 0 0 0 0 0 0 none 0 0 0 0 0 0 0 ⟨#[]⟩) 28 (0, 0)) by
    rw [hv0]
    refine (Below.heap_alloc _ _ _ (by omega)).trans ?_
    rw [hva, hf]; exact heap_alloc_new w _)
  have HT0 := Aside0.mk (show v0.heap[g]? = some (.cells (recCells 1 0 0 0 0 0 none 0 0 0 0 0 0 0 ⟨#[]⟩) 28 (0, 0)) by rw [hv0, hg, ← hsz]; exact heap_alloc_new va _)
  have HB0 := Aside0.mk (below_step HB.out HW1.out)
  have HX0 := Aside0.mk (Frm.of_below HW1.out (fun k => k = rb))
  have HG0 := Aside0.mk ((HW1.out.block rb (blk_lt HG.out)).trans HG.out)
  have HFT := Aside0.mk (show f ≠ rb ∧ g ≠ rb by have := blk_lt HG.out; omega)
  have HFG := Aside0.mk (show f ≠ g ∧ w.heap.size ≤ f ∧ w.heap.size ≤ g by omega)
  clear hf hg hva hv0 hsz HG HB rr
  refine (dec_entry v0 n c A l s v k se rq ops m HM2.out HM1.out HN.out HCC.out HOK.out HM.out (Kd.C_below HC.out HB0.out) HR.out HMAY.out).mono ?_
  rintro e1 v1 ⟨B, cb, rfl, ho1, hb1⟩
  have HG1 := Aside0.mk ((hb1.block rb (blk_lt HG0.out)).trans HG0.out)
  have HF1 := Aside0.mk ((hb1.block f (blk_lt HF0.out)).trans HF0.out)
  have HT1 := Aside0.mk ((hb1.block g (blk_lt HT0.out)).trans HT0.out)
  have HX1 := Aside0.mk (HX0.out.step hb1)
  have HO1 := Aside0.mk (Kd.R_lower ho1 HW1.out.size)
  clear ho1 hb1 HG0 HF0 HT0 HX0 HB0 HW1
  go_wp2_with (with_reducible refine stop_store rfl ?_)
  obtain ⟨h, hh⟩ : ∃ h, h = v1.heap.size := ⟨_, rfl⟩
  obtain ⟨va, hva⟩ : ∃ va, va = v1.alloc (.cells entZero 24) := ⟨_, rfl⟩
  rw [← hva, ← hh]
  have hba : Below v1.heap.size v1 va := by rw [hva]; exact below_alloc (Below.refl _ _) _
  have HHA := Aside0.mk (show va.heap[h]? = some (.cells entZero 24 (0, 0)) by rw [hva, hh]; exact heap_alloc_new v1 _)
  refine store_blk rfl rfl 24 _ _ rfl (q := h) (i := 0) (cur' := entArr s v k se rq (.slice B m cb)) [.int .i64 s, .int .i64 v, .int .i64 k, .int .i64 se, .int .i64 rq, .slice B m cb] rfl rfl rfl (by kernel_rfl) (by intro u hu; simp at hu; rcases hu with rfl | rfl | rfl | rfl | rfl | rfl <;> rfl) HHA.out (by simp) rfl ?_
  intro v2 hz2 hgz2
  have hb2 : Below v1.heap.size v1 v2 := hba.grown hgz2 hba.size (fun k e => by cases e; omega)
  have HH2 := Aside0.mk hz2
  have HG2 := Aside0.mk ((hb2.block rb (blk_lt HG1.out)).trans HG1.out)
  have HF2 := Aside0.mk ((hb2.block f (blk_lt HF1.out)).trans HF1.out)
  have HT2 := Aside0.mk ((hb2.block g (blk_lt HT1.out)).trans HT1.out)
  have HX2 := Aside0.mk (HX1.out.step hb2)
  have HO2 := Aside0.mk (Kd.R_below HO1.out hb2)
  clear hh hva hba hz2 hgz2 hb2 HHA HG1 HF1 HT1 HX1 HO1
  have y0 := (blk_cell HH2.out 0).trans rfl
  have y1 := (blk_cell HH2.out 1).trans rfl
  have y2 := (blk_cell HH2.out 2).trans rfl
  have y3 := (blk_cell HH2.out 3).trans rfl
  have y4 := (blk_cell HH2.out 4).trans rfl
  have y5 := (blk_cell HH2.out 5).trans rfl
  go_wp2_with (with_reducible refine stop_store rfl ?_)
  refine store_blk rfl rfl 24 _ _ rfl (q := g) (i := 1) (cur' := recCells 1 s v k se rq B m cb 0 0 0 0 0 ⟨#[]⟩) [.int .i64 s, .int .i64 v, .int .i64 k, .int .i64 se, .int .i64 rq, .slice B m cb] rfl rfl rfl (by kernel_rfl) (by intro u hu; simp at hu; rcases hu with rfl | rfl | rfl | rfl | rfl | rfl <;> rfl) HT2.out (by simp) rfl ?_
  intro v3 hz hgz
  have HT3 := Aside0.mk hz
  have HF3 := Aside0.mk ((hgz.block f (blk_lt HF2.out) (fun e => HFG.out.1 (Option.some.inj e))).trans HF2.out)
  have HX3 := Aside0.mk (HX2.out.then_ (Frm.of_grown (S := fun k => k = g) hgz (fun k e => (Option.some.inj e).symm)) (fun k hk hlt => by have := HFG.out.2.2; omega))
  have HO3 := Aside0.mk (R40_frm HO2.out HT2.out (by decide) (Frm.of_grown (S := fun k => k = g) hgz (fun k e => (Option.some.inj e).symm)))
  clear hz hgz y0 y1 y2 y3 y4 y5 HT2 HF2 HX2 HO2 HH2 HG2
  have kp0 := (blk_cell HT3.out 0).trans rfl
  have kp1 := (blk_cell HT3.out 1).trans rfl
  have kp2 := (blk_cell HT3.out 2).trans rfl
  have kp3 := (blk_cell HT3.out 3).trans rfl
  have kp4 := (blk_cell HT3.out 4).trans rfl
  have kp5 := (blk_cell HT3.out 5).trans rfl
  have kp6 := (blk_cell HT3.out 6).trans rfl
  have kp7 := (blk_cell HT3.out 7).trans rfl
  have kp8 := (blk_cell HT3.out 8).trans rfl
  have kp9 := (blk_cell HT3.out 9).trans rfl
  have kp10 := (blk_cell HT3.out 10).trans rfl
  have kp11 := (blk_cell HT3.out 11).trans rfl
  have kp12 := (blk_cell HT3.out 12).trans rfl
  go_wp2_with (with_reducible refine stop_store rfl ?_)
  refine store_blk rfl rfl 28 _ _ rfl (q := f) (i := 0) (cur' := recCells 1 s v k se rq B m cb 0 0 0 0 0 ⟨#[]⟩) (recCells 1 s v k se rq B m cb 0 0 0 0 0 ⟨#[]⟩).toList rfl rfl rfl (by kernel_rfl) (by intro u hu; simp at hu; (repeat' (rcases hu with rfl | hu)) <;> first | rfl | (subst hu; rfl)) HF3.out (by simp) rfl ?_
  intro wz hgz hgr
  have HXZ := Aside0.mk (HX3.out.then_ (Frm.of_grown (S := fun k => k = f) hgr (fun k e => (Option.some.inj e).symm)) (fun k hk hlt => by have := HFG.out.2.1; omega))
  have HOZ := Aside0.mk (R40_frm HO3.out HF3.out (by decide) (Frm.of_grown (S := fun k => k = f) hgr (fun k e => (Option.some.inj e).symm)))
  clear hgr kp0 kp1 kp2 kp3 kp4 kp5 kp6 kp7 kp8 kp9 kp10 kp11 kp12
  go_wp2
  (try simp only [Exit.inBlock, Exit.then])
  refine bodyPost_ret (results_cell_row rfl _ _ f 28 (recCells 1 s v k se rq B m cb 0 0 0 0 0 ⟨#[]⟩) (0, 0) _ rfl hgz Try.underlying28 rfl (by kernel_rfl)) rfl ?_
  exact ⟨B, cb, rfl, HOZ.out, HXZ.out⟩

theorem results71_row (tmps : Array Value) (w : World) (p4 p5 p6 : Nat) (cs : Array Value) (m : Int) (b : Bool) (h4 : tmps[4]? = some (.pointer (some ⟨p4, 0, none⟩))) (h5 : tmps[5]? = some (.pointer (some ⟨p5, 0, none⟩))) (h6 : tmps[6]? = some (.pointer (some ⟨p6, 0, none⟩)))
    (hg : w.heap[p4]? = some (.cells cs 28 (0, 0))) (hs : cs.size = 13) (c5 : w.cell? ⟨p5, 0, none⟩ = some (.int .i64 m)) (c6 : w.cell? ⟨p6, 0, none⟩ = some (.bool b)) :
    (results Try.f71 tmps).run Try.prog w = .ok (.tuple #[.agg cs, .int .i64 m, .bool b]) w := by
  have hl := run_loadVar_row (P := Try.prog) w p4 28 28 cs (0, 0) _ hg Try.underlying28 rfl (by rw [hs]; kernel_rfl)
  have hl5 : (loadVar 3 ⟨p5, 0, none⟩).run Try.prog w = .ok (.int .i64 m) w := by simp [go_sem, c5]
  have hl6 : (loadVar 4 ⟨p6, 0, none⟩).run Try.prog w = .ok (.bool b) w := by simp [go_sem, c6]
  simp [results, Try.results71, h4, h5, h6, asAddr, hl, hl5, hl6, Sem.run_bind, Sem.run_pure, Result.andThen_ok]
/-- read returns. -/
theorem door71 {R : Ending → World → Prop} {a : Act} {w : World} {p q r v : Value} (hd : a.defers = [{ target := .fn (.func 82) #[p, q, r], args := #[] }]) (hres : (results Try.f71 a.tmps).run Try.prog w = .ok v w) (hR : R (.returned v) w) :
    bodyPostD Try.prog Try.f71 R Exit.ret a w := by
  show Leaves Try.prog Try.f71 a.tmps R a.defers .returning w
  rw [hd]
  refine leaves_cons (f := 82) (args := #[p, q, r]) (by simp) (by simp [go_sem]) ?_
  refine (read_idle _ _ _ _).mono ?_
  rintro e u' w'' ⟨rfl, rfl, rfl⟩
  exact ⟨v, hres, hR⟩
end Go.Proofs.Ytdbniihjkiecbaa.PW
