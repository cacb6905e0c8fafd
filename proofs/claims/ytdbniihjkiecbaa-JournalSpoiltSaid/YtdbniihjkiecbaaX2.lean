/- Words, contracts and walks of the law JournalSpoilt, in one text. -/
import Derived.Test.YtdbniihjkiecbaaX1
import Derived.Test.YtdbniihjkiecbaaX0
import Derived.Test.YtdbniihjkiecbaaPWx14
import Derived.Test.YtdbniihjkiecbaaPWx16
import Derived.Test.YtdbniihjkiecbaaK5
import Derived.RangeFuncNested
import Derived.RangeFuncBound
import Derived.RangeFuncCalls
import Derived.RangeFuncLeaves
import Derived.WalkKit
import Derived.OwnWalkIn
import Derived.TacticsInMore
import Derived.LoopNIn
import Derived.LoopIn
import Derived.Outline
namespace Go.Proofs.Ytdbniihjkiecbaa.PW
open Go.RowKit Go.Proofs.YtdbniihjkiecbaaW.PrintWords Go.Proofs.YtdbniihjkiecbaaW.PrintLast Go.Proofs.YtdbniihjkiecbaaW.PrintMore
set_option linter.unusedVariables false
set_option linter.unusedSimpArgs false

set_option maxHeartbeats 16000000 in
set_option maxRecDepth 100000 in
theorem read_other (w : World) (A : Option Addr) (n c : Nat) (l : List Int) (sq sq' : Int)
    (hn : l.length = n) (hc : n ≤ c) (hmx : n ≤ 1000000000000) (hok : bytesOk l = true) (hC : C8 w A n l)
    (h20 : 20 ≤ n) (h0 : rd l 0 = 74) (h1 : rd l 1 = 82) (h3 : rd l 3 = 0)
    (h4 : journal_four.f (l.drop 4) = some sq') (hne : (sq' == sq) = false) :
    Calls Try.prog 71 #[.slice A n c, .int .i64 sq] w fun e w' => e = .returned (.tuple #[zeroRec, .int .i64 0, .bool false]) ∧ Below w.heap.size w w' := by
  have hu28 := Try.underlying28
  have hne2 : decide (sq' = sq) = false := decide_eq_false (by simpa using hne)
  have hne3 : (sq' != sq) = true := by simpa using hne
  have hu26 := Try.underlying26
  have hu24 := Try.underlying24
  have hu147 := Try.underlying147
  have hmf : ∀ (fn : Fn) (first cap : Array Value) (w : World), (Instr.makeFunc fn first cap).run Try.prog w = .ok (.func fn first cap) w := fun _ _ _ _ => rfl
  obtain ⟨ad, rfl, hb0⟩ := Kd.at_int hC 0 (by decide) (by omega)
  obtain ⟨ad1, e1, hb1⟩ := Kd.at_int hC 1 (by decide) (by omega)
  cases e1
  obtain ⟨ad1, e1, hb3⟩ := Kd.at_int hC 3 (by decide) (by omega)
  cases e1
  rw [h0] at hb0
  rw [h1] at hb1
  rw [h3] at hb3
  obtain ⟨A4, hc4, hC4⟩ := cutf8 (A := some ad) (n := n) (c := c) (xs := l) 4 (by omega) hc
  replace hc4 : ∀ (W : World), (Instr.slice 29 (.slice (some ad) n c) (some (.int .i64 4)) none none).run Try.prog W = .ok (.slice A4 (n - 4) (c - 4)) W := hc4
  replace hb0 : w.cell? ad = some (.int .u8 74) := by rw [show ad.add (Int.toNat 0) = ad from by simp [Addr.add]] at hb0; exact hb0
  replace hb1 : w.cell? ⟨ad.block, ad.off + 1, none⟩ = some (.int .u8 82) := by rw [show ad.add (Int.toNat 1) = ⟨ad.block, ad.off + 1, none⟩ from by simp [Addr.add]] at hb1; exact hb1
  replace hb3 : w.cell? ⟨ad.block, ad.off + 3, none⟩ = some (.int .u8 0) := by rw [show ad.add (Int.toNat 3) = ⟨ad.block, ad.off + 3, none⟩ from by simp [Addr.add]] at hb3; exact hb3
  have HN := Aside0.mk hn
  have HCC := Aside0.mk hc
  have HC := Aside0.mk hC
  have HOK := Aside0.mk hok
  have HM := Aside0.mk hmx
  have H20 := Aside0.mk h20
  have HC4 := Aside0.mk (hC4 w hC)
  have H4 := Aside0.mk h4
  clear hn hc hmx hok hC h20 hC4 h4 h0 h1 h3
  have hd20 : decide ((n : Int) < 20) = false := decide_eq_false (by have := H20.out; omega)
  have hd21 : decide (n < 20) = false := decide_eq_false (by have := H20.out; omega)
  have i0 : (0 < n) = True := eq_true (by have := H20.out; omega)
  have i1 : (1 < n) = True := eq_true (by have := H20.out; omega)
  have i3 : (3 < n) = True := eq_true (by have := H20.out; omega)
  have j0 : ((0 : Int) < (n : Int)) = True := eq_true (by have := H20.out; omega)
  have j1 : ((1 : Int) < (n : Int)) = True := eq_true (by have := H20.out; omega)
  have j3 : ((3 : Int) < (n : Int)) = True := eq_true (by have := H20.out; omega)
  go_enter_defers Try.func71, Try.ntmps71
  go_wp2_with fail
  obtain ⟨p4, hp4⟩ : ∃ p4, p4 = w.heap.size := ⟨_, rfl⟩
  obtain ⟨p5, hp5⟩ : ∃ p5, p5 = w.heap.size + 1 := ⟨_, rfl⟩
  obtain ⟨p6, hp6⟩ : ∃ p6, p6 = w.heap.size + 1 + 1 := ⟨_, rfl⟩
  obtain ⟨wa, hwa⟩ : ∃ wa, wa = w.alloc (.cells #[.int .i64 0, .int .i64 0, .int .i64 0, .int .i64 0, .int .i64 0, .int .i64 0, .slice none 0 0, .int .i64 0, .int .i64 0, .int .i64 0, .int .i64 0, .int .i64 0, .string ⟨#[]⟩] 28) := ⟨_, rfl⟩
  obtain ⟨wb, hwb⟩ : ∃ wb, wb = wa.alloc (.cells #[.int .i64 0] 3) := ⟨_, rfl⟩
  obtain ⟨wc, hwc⟩ : ∃ wc, wc = wb.alloc (.cells #[.bool false] 4) := ⟨_, rfl⟩
  rw [← hwa, ← hwb, ← hwc, ← hp6, ← hp5, ← hp4]
  have hza : wa.heap.size = w.heap.size + 1 := by rw [hwa]; simp
  have hzb : wb.heap.size = w.heap.size + 1 + 1 := by rw [hwb, ← hza]; simp
  have hba : Below wa.heap.size wa wb := by rw [hwb]; exact below_alloc (Below.refl _ _) _
  have hbb : Below wb.heap.size wb wc := by rw [hwc]; exact below_alloc (Below.refl _ _) _
  have HB := Aside0.mk (show Below w.heap.size w wc from below_step (below_step (by rw [hwa]; exact below_alloc (Below.refl _ _) _) hba) hbb)
  have HP4 := Aside0.mk (show wc.heap[p4]? = some (.cells #[.int .i64 0, .int .i64 0, .int .i64 0, .int .i64 0, .int .i64 0, .int .i64 0, .slice none 0 0, .int .i64 0, .int .i64 0, .int .i64 0, .int .i64 0, .int .i64 0, .string ⟨#[]⟩] 28 (0, 0)) by
    refine (hbb.block p4 (by omega)).trans ((hba.block p4 (by omega)).trans ?_)
    rw [hwa, hp4]; exact heap_alloc_new w _)
  have HP5 := Aside0.mk (show wc.heap[p5]? = some (.cells #[.int .i64 0] 3 (0, 0)) by
    refine (hbb.block p5 (by omega)).trans ?_
    rw [hwb, hp5, ← hza]; exact heap_alloc_new wa _)
  have HP6 := Aside0.mk (show wc.heap[p6]? = some (.cells #[.bool false] 4 (0, 0)) by rw [hwc, hp6, ← hzb]; exact heap_alloc_new wb _)
  have HPW := Aside0.mk (show w.heap.size ≤ p4 ∧ p4 < p5 ∧ p5 < p6 by omega)
  clear hp4 hp5 hp6 hwa hwb hwc hza hzb hba hbb
  have HB0 := Aside0.mk (pw_cell_below (below_drew1 HB.out) hb0)
  have HB1 := Aside0.mk (pw_cell_below (below_drew1 HB.out) hb1)
  have HB3 := Aside0.mk (pw_cell_below (below_drew1 HB.out) hb3)
  clear hb0 hb1 hb3
  have c0 := HB0.out
  have c1 := HB1.out
  have c3 := HB3.out
  have HD := Aside0.mk (below_drew1 HB.out)
  refine start_ (n := 37) (S := fun w' => w'.cell? ad = some (.int .u8 74) ∧ w'.cell? ⟨ad.block, ad.off + 1, none⟩ = some (.int .u8 82) ∧ w'.cell? ⟨ad.block, ad.off + 3, none⟩ = some (.int .u8 0)) (ds := []) bq83 (by kernel_rfl) rfl rfl ⟨c0, c1, c3⟩ (fun hHeld => ?_)
  refine pure_ (i := 0) (N := some 11) (v := ?_) (a' := ?_) bq84 rfl rfl (by kernel_rfl) (hq71 (by decide)) (Or.inl ⟨by rfl, ?_⟩) ?_ ?_
  rotate_left
  · intro w'; go_simp; with_reducible rfl
  rotate_left
  · simp only [sxx]; rfl
  refine pure_ (i := 1) (N := some 12) (v := ?_) (a' := ?_) bq85 rfl rfl (by kernel_rfl) (hq71 (by decide)) (Or.inl ⟨by rfl, ?_⟩) ?_ ?_
  rotate_left
  · intro w'; go_simp; with_reducible rfl
  rotate_left
  · simp only [sxx]; rfl
  refine pure_ (i := 2) (N := some 13) (v := ?_) (a' := ?_) bq86 rfl rfl (by kernel_rfl) (hq71 (by decide)) (Or.inl ⟨by rfl, ?_⟩) ?_ ?_
  rotate_left
  · intro w'; go_simp; with_reducible rfl
  rotate_left
  · simp only [sxx]; rfl
  refine pure_ (i := 3) (N := some 14) (v := ?_) (a' := ?_) bq87 rfl rfl (by kernel_rfl) (hq71 (by decide)) (Or.inl ⟨by rfl, ?_⟩) ?_ ?_
  rotate_left
  · intro w'; go_simp; with_reducible rfl
  rotate_left
  · simp only [sxx]; rfl
  refine pure_ (i := 4) (N := some 15) (v := ?_) (a' := ?_) bq88 rfl rfl (by kernel_rfl) (hq71 (by decide)) (Or.inl ⟨by rfl, ?_⟩) ?_ ?_
  rotate_left
  · intro w'; go_simp; with_reducible rfl
  rotate_left
  · simp only [sxx]; rfl
  refine pure_ (i := 5) (N := some 16) (v := ?_) (a' := ?_) bq89 rfl rfl (by kernel_rfl) (hq71 (by decide)) (Or.inl ⟨by rfl, ?_⟩) ?_ ?_
  rotate_left
  · intro w'; go_simp; with_reducible rfl
  rotate_left
  · simp only [sxx]; rfl
  refine take_ (i := 6) (N := some 17) (v := ?_) (a' := ?_) bq90 rfl rfl (by kernel_rfl) (hq71 (by decide)) (Or.inl ⟨by rfl, ?_⟩) hHeld ?_ ?_
  rotate_left
  · rintro w' ⟨s0, s1, s2⟩
    go_simp; with_reducible rfl
  rotate_left
  · simp only [sxx]; rfl
  refine pure_ (i := 7) (N := some 18) (v := ?_) (a' := ?_) bq91 rfl rfl (by kernel_rfl) (hq71 (by decide)) (Or.inl ⟨by rfl, ?_⟩) ?_ ?_
  rotate_left
  · intro w'; go_simp; with_reducible rfl
  rotate_left
  · simp only [sxx]; rfl
  refine pure_ (i := 8) (N := some 19) (v := ?_) (a' := ?_) bq92 rfl rfl (by kernel_rfl) (hq71 (by decide)) (Or.inl ⟨by rfl, ?_⟩) ?_ ?_
  rotate_left
  · intro w'; go_simp; with_reducible rfl
  rotate_left
  · simp only [sxx]; rfl
  refine pure_ (i := 9) (N := some 20) (v := ?_) (a' := ?_) bq93 rfl rfl (by kernel_rfl) (hq71 (by decide)) (Or.inl ⟨by rfl, ?_⟩) ?_ ?_
  rotate_left
  · intro w'; go_simp; with_reducible rfl
  rotate_left
  · simp only [sxx]; rfl
  refine pure_ (i := 10) (N := some 21) (v := ?_) (a' := ?_) bq94 rfl rfl (by kernel_rfl) (hq71 (by decide)) (Or.inl ⟨by rfl, ?_⟩) ?_ ?_
  rotate_left
  · intro w'; go_simp; with_reducible rfl
  rotate_left
  · simp only [sxx]; rfl
  refine pure_ (i := 11) (N := some 22) (v := ?_) (a' := ?_) bq95 rfl rfl (by kernel_rfl) (hq71 (by decide)) (Or.inl ⟨by rfl, ?_⟩) ?_ ?_
  rotate_left
  · intro w'; go_simp; with_reducible rfl
  rotate_left
  · simp only [sxx]; rfl
  refine take_ (i := 12) (N := some 23) (v := ?_) (a' := ?_) bq96 rfl rfl (by kernel_rfl) (hq71 (by decide)) (Or.inl ⟨by rfl, ?_⟩) hHeld ?_ ?_
  rotate_left
  · rintro w' ⟨s0, s1, s2⟩
    go_simp; with_reducible rfl
  rotate_left
  · simp only [sxx]; rfl
  refine pure_ (i := 13) (N := some 24) (v := ?_) (a' := ?_) bq97 rfl rfl (by kernel_rfl) (hq71 (by decide)) (Or.inl ⟨by rfl, ?_⟩) ?_ ?_
  rotate_left
  · intro w'; go_simp; with_reducible rfl
  rotate_left
  · simp only [sxx]; rfl
  refine pure_ (i := 14) (N := some 25) (v := ?_) (a' := ?_) bq98 rfl rfl (by kernel_rfl) (hq71 (by decide)) (Or.inl ⟨by rfl, ?_⟩) ?_ ?_
  rotate_left
  · intro w'; go_simp; with_reducible rfl
  rotate_left
  · simp only [sxx]; rfl
  refine pure_ (i := 15) (N := some 26) (v := ?_) (a' := ?_) bq99 rfl rfl (by kernel_rfl) (hq71 (by decide)) (Or.inl ⟨by rfl, ?_⟩) ?_ ?_
  rotate_left
  · intro w'; go_simp; with_reducible rfl
  rotate_left
  · simp only [sxx]; rfl
  refine pure_ (i := 16) (N := some 27) (v := ?_) (a' := ?_) bq100 rfl rfl (by kernel_rfl) (hq71 (by decide)) (Or.inl ⟨by rfl, ?_⟩) ?_ ?_
  rotate_left
  · intro w'; go_simp; with_reducible rfl
  rotate_left
  · simp only [sxx]; rfl
  refine pure_ (i := 17) (N := some 28) (v := ?_) (a' := ?_) bq101 rfl rfl (by kernel_rfl) (hq71 (by decide)) (Or.inl ⟨by rfl, ?_⟩) ?_ ?_
  rotate_left
  · intro w'; go_simp; with_reducible rfl
  rotate_left
  · simp only [sxx]; rfl
  refine take_ (i := 18) (N := some 29) (v := ?_) (a' := ?_) bq102 rfl rfl (by kernel_rfl) (hq71 (by decide)) (Or.inl ⟨by rfl, ?_⟩) hHeld ?_ ?_
  rotate_left
  · rintro w' ⟨s0, s1, s2⟩
    go_simp; with_reducible rfl
  rotate_left
  · simp only [sxx]; rfl
  refine pure_ (i := 19) (N := some 30) (v := ?_) (a' := ?_) bq103 rfl rfl (by kernel_rfl) (hq71 (by decide)) (Or.inl ⟨by rfl, ?_⟩) ?_ ?_
  rotate_left
  · intro w'; go_simp; with_reducible rfl
  rotate_left
  · simp only [sxx]; rfl
  refine pure_ (i := 20) (N := some 31) (v := ?_) (a' := ?_) bq104 rfl rfl (by kernel_rfl) (hq71 (by decide)) (Or.inl ⟨by rfl, ?_⟩) ?_ ?_
  rotate_left
  · intro w'; go_simp; with_reducible rfl
  rotate_left
  · simp only [sxx]; rfl
  refine pure_ (i := 21) (N := some 32) (v := ?_) (a' := ?_) bq105 rfl rfl (by kernel_rfl) (hq71 (by decide)) (Or.inl ⟨by rfl, ?_⟩) ?_ ?_
  rotate_left
  · intro w'; go_simp; with_reducible rfl
  rotate_left
  · simp only [sxx]; rfl
  refine pure_ (i := 22) (N := some 33) (v := ?_) (a' := ?_) bq106 rfl rfl (by kernel_rfl) (hq71 (by decide)) (Or.inl ⟨by rfl, ?_⟩) ?_ ?_
  rotate_left
  · intro w'; go_simp; with_reducible rfl
  rotate_left
  · simp only [sxx]; rfl
  refine pure_ (i := 23) (N := some 34) (v := ?_) (a' := ?_) bq107 rfl rfl (by kernel_rfl) (hq71 (by decide)) (Or.inl ⟨by rfl, ?_⟩) ?_ ?_
  rotate_left
  · intro w'; go_simp; with_reducible rfl
  rotate_left
  · simp only [sxx]; rfl
  refine pure_ (i := 25) (N := some 36) (v := ?_) (a' := ?_) bq108 rfl rfl (by kernel_rfl) (hq71 (by decide)) (Or.inl ⟨by rfl, ?_⟩) ?_ ?_
  rotate_left
  · intro w'; go_simp; with_reducible rfl
  rotate_left
  · simp only [sxx]; rfl
  refine one_ (i := 24) (N := some 35) bq109 rfl rfl (by kernel_rfl) (by decide) (fun K hK => ?_)
  refine goes_ Try.func83 (by kernel_rfl) rfl #[.slice A4 (n - 4) (c - 4)] (by rfl) rfl rfl (by simp only [mxx]; rfl) ?_
  with_reducible refine (four_N A4 (n - 4) (c - 4) (l.drop 4) sq' _ (by rw [List.length_drop, HN.out]) (Nat.sub_le_sub_right HCC.out 4) (Kd.C_below HC4.out HD.out) H4.out).mono ?_
  rintro e u1 ⟨rfl, hb⟩
  refine ⟨_, rfl, ?_⟩
  have HU1 := Aside0.mk hb
  have HV1 := Aside0.mk (below_step HD.out hb)
  clear hb
  refine hK.out _ _ ⟨pw_cell_below HU1.out HB0.out, pw_cell_below HU1.out HB1.out, pw_cell_below HU1.out HB3.out⟩ (fun hHeld => ?_)
  clear hK K
  refine norm_ (a' := ?_) ?_ ?_
  rotate_left
  · show Act.put _ (some 35) _ = _
    simp only [sxx]; rfl
  refine pure_ (i := 26) (N := some 37) (v := ?_) (a' := ?_) bq110 rfl rfl (by kernel_rfl) (hq71 (by decide)) (Or.inl ⟨by rfl, ?_⟩) ?_ ?_
  rotate_left
  · intro w'; go_simp; with_reducible rfl
  rotate_left
  · simp only [sxx]; rfl
  refine pure_ (i := 27) (N := some 38) (v := ?_) (a' := ?_) bq111 rfl rfl (by kernel_rfl) (hq71 (by decide)) (Or.inl ⟨by rfl, ?_⟩) ?_ ?_
  rotate_left
  · intro w'; go_simp; with_reducible rfl
  rotate_left
  · simp only [sxx]; rfl
  refine pure_ (i := 28) (N := some 39) (v := ?_) (a' := ?_) bq112 rfl rfl (by kernel_rfl) (hq71 (by decide)) (Or.inl ⟨by rfl, ?_⟩) ?_ ?_
  rotate_left
  · intro w'; go_simp; with_reducible rfl
  rotate_left
  · simp only [sxx]; rfl
  refine pure_ (i := 29) (N := some 40) (v := undef) (a' := ?_) bq113 rfl rfl (by kernel_rfl) (hq71 (by decide)) (Or.inr ⟨by rfl, rfl⟩) ?_ ?_
  rotate_left
  · simp only [sxx]; rfl
  refine pure_ (i := 30) (N := some 41) (v := undef) (a' := ?_) bq114 rfl rfl (by kernel_rfl) (hq71 (by decide)) (Or.inr ⟨by rfl, rfl⟩) ?_ ?_
  rotate_left
  · simp only [sxx]; rfl
  refine pure_ (i := 31) (N := some 42) (v := undef) (a' := ?_) bq145 rfl rfl (by kernel_rfl) (hq71 (by decide)) (Or.inr ⟨by rfl, rfl⟩) ?_ ?_
  rotate_left
  · simp only [sxx]; rfl
  refine pure_ (i := 32) (N := some 43) (v := undef) (a' := ?_) bq146 rfl rfl (by kernel_rfl) (hq71 (by decide)) (Or.inr ⟨by rfl, rfl⟩) ?_ ?_
  rotate_left
  · simp only [sxx]; rfl
  refine pure_ (i := 33) (N := some 44) (v := undef) (a' := ?_) bq117 rfl rfl (by kernel_rfl) (hq71 (by decide)) (Or.inr ⟨by rfl, rfl⟩) ?_ ?_
  rotate_left
  · simp only [sxx]; rfl
  refine pure_ (i := 34) (N := some 45) (v := undef) (a' := ?_) bq118 rfl rfl (by kernel_rfl) (hq71 (by decide)) (Or.inr ⟨by rfl, rfl⟩) ?_ ?_
  rotate_left
  · simp only [sxx]; rfl
  refine pure_ (i := 35) (N := some 46) (v := undef) (a' := ?_) bq119 rfl rfl (by kernel_rfl) (hq71 (by decide)) (Or.inr ⟨by rfl, rfl⟩) ?_ ?_
  rotate_left
  · simp only [sxx]; rfl
  refine pure_ (i := 36) (N := some 47) (v := ?_) (a' := ?_) bq120 rfl rfl (by kernel_rfl) (hq71 (by decide)) (Or.inl ⟨by rfl, ?_⟩) ?_ ?_
  rotate_left
  · intro w'; go_simp; with_reducible rfl
  rotate_left
  · simp only [sxx]; rfl
  refine done_ (by kernel_rfl) ?_
  have HV := HV1
  have HP4 := Aside0.mk ((HU1.out.block p4 (blk_lt HP4.out)).trans HP4.out)
  have HP5 := Aside0.mk ((HU1.out.block p5 (blk_lt HP5.out)).trans HP5.out)
  have HP6 := Aside0.mk ((HU1.out.block p6 (blk_lt HP6.out)).trans HP6.out)
  clear HB hHeld HU1 c0 c1 c3 HB0 HB1 HB3 HD
  go_wp2_with (with_reducible refine stop_store rfl ?_)
  refine store_blk rfl rfl 28 _ _ rfl (q := p4) (i := 0) (cur' := zeroCells13) zeroCells13.toList rfl rfl rfl (by kernel_rfl) (by intro u hu; simp at hu; rcases hu with rfl | rfl | rfl | rfl <;> rfl) HP4.out (by simp) rfl ?_
  intro w11 hpb hgb
  have HPB := Aside0.mk hpb
  have HVB := Aside0.mk (HV.out.grown hgb HV.out.size (fun k e => by cases e; exact HPW.out.1))
  have HP5 := Aside0.mk ((hgb.block p5 (blk_lt HP5.out) (fun e => by have := HPW.out; have := Option.some.inj e; omega)).trans HP5.out)
  have HP6 := Aside0.mk ((hgb.block p6 (blk_lt HP6.out) (fun e => by have := HPW.out; have := Option.some.inj e; omega)).trans HP6.out)
  clear hpb hgb HV
  have n5 := (blk_cell HP5.out 0).trans rfl
  have f5 := blk_frozen HP5.out 0
  have n6 := (blk_cell HP6.out 0).trans rfl
  have f6 := blk_frozen HP6.out 0
  have HN56 := Aside0.mk (show p5 ≠ p6 by have := HPW.out; omega)
  have hne := HN56.out
  go_wp2_with fail
  clear hne n5 n6 f5 f6
  obtain ⟨wy, hwy⟩ : ∃ wy, wy = w11.setCell ⟨p5, 0, none⟩ (.int .i64 0) := ⟨_, rfl⟩
  obtain ⟨wz, hwz⟩ : ∃ wz, wz = wy.setCell ⟨p6, 0, none⟩ (.bool false) := ⟨_, rfl⟩
  rw [← hwy, ← hwz]
  have k4 : wz.heap[p4]? = some (.cells zeroCells13 28 (0, 0)) := by
    have := HPW.out
    rw [hwz, Below.heap_setCell wy _ _ p4 (by simp only; omega), hwy, Below.heap_setCell w11 _ _ p4 (by simp only; omega)]
    exact HPB.out
  have k6 : wy.heap[p6]? = some (.cells #[.bool false] 4 (0, 0)) := by
    have := HPW.out
    rw [hwy, Below.heap_setCell w11 _ _ p6 (by simp only; omega)]
    exact HP6.out
  have c5 : wz.cell? ⟨p5, 0, none⟩ = some (.int .i64 0) := by
    have hy : wy.cell? ⟨p5, 0, none⟩ = some (.int .i64 0) := by rw [hwy]; exact World.cell?_setCell_same' _ _ _ (by rw [blk_cell HP5.out 0]; rfl)
    have := HPW.out
    have he : wz.heap[p5]? = wy.heap[p5]? := by rw [hwz, Below.heap_setCell wy _ _ p5 (by simp only; omega)]
    simp only [World.cell?, he] at hy ⊢
    exact hy
  have c6 : wz.cell? ⟨p6, 0, none⟩ = some (.bool false) := by rw [hwz]; exact World.cell?_setCell_same' _ _ _ (by rw [blk_cell k6 0]; rfl)
  have hBZ : Below w.heap.size w wz := by
    rw [hwz, hwy]
    exact (HVB.out.setCell (p := ⟨p5, 0, none⟩) (by have := HPW.out; simp only; omega) _).setCell (p := ⟨p6, 0, none⟩) (by have := HPW.out; simp only; omega) _
  exact door71 rfl (results71_row _ _ p4 p5 p6 _ _ _ rfl rfl rfl k4 rfl c5 c6) ⟨rfl, hBZ⟩

abbrev zJ : JR := ⟨0, 0, 0, 0, 0, 0, [], 0, 0, 0, 0, 0, ⟨#[]⟩⟩
def kJ : Kd JR := Kd.iso (Kd.pair (Kd.int .i64) (Kd.pair (Kd.int .i64) (Kd.pair (Kd.int .i64) (Kd.pair (Kd.int .i64) (Kd.pair (Kd.int .i64) (Kd.pair (Kd.int .i64) (Kd.pair (Kd.slice 40 k40) (Kd.pair (Kd.int .i64) (Kd.pair (Kd.int .i64) (Kd.pair (Kd.int .i64) (Kd.pair (Kd.int .i64) (Kd.pair (Kd.int .i64) (Kd.string))))))))))))) (fun y : JR => (y.kd, y.s, y.v, y.k, y.se, y.rq, y.ops, y.vn, y.vp, y.vb, y.st, y.of, y.x))
abbrev recL (y : JR) (V : Value) : List Value := [.int .i64 y.kd, .int .i64 y.s, .int .i64 y.v, .int .i64 y.k, .int .i64 y.se, .int .i64 y.rq, V, .int .i64 y.vn, .int .i64 y.vp, .int .i64 y.vb, .int .i64 y.st, .int .i64 y.of, .string y.x]
theorem kJ_open {w : World} {y : JR} {cs : List Value} (h : kJ.K w y cs) : ∃ A c, cs = recL y (.slice A y.ops.length c) ∧ y.ops.length ≤ c ∧ Kd.C k40 w A y.ops.length y.ops := by
  obtain ⟨_, _, rfl, rfl, ⟨_, _, rfl, rfl, ⟨_, _, rfl, rfl, ⟨_, _, rfl, rfl, ⟨_, _, rfl, rfl, ⟨_, _, rfl, rfl, ⟨_, _, rfl, ⟨A, c, rfl, l5, g5⟩, ⟨_, _, rfl, rfl, ⟨_, _, rfl, rfl, ⟨_, _, rfl, rfl, ⟨_, _, rfl, rfl, ⟨_, _, rfl, rfl, rfl⟩⟩⟩⟩⟩⟩⟩⟩⟩⟩⟩⟩ := h
  exact ⟨A, c, rfl, l5, g5⟩
theorem kJ_mk (w : World) (y : JR) {A : Option Addr} {c : Nat} (l5 : y.ops.length ≤ c) (g5 : Kd.C k40 w A y.ops.length y.ops) : kJ.K w y (recL y (.slice A y.ops.length c)) := ⟨[.int .i64 y.kd], [.int .i64 y.s, .int .i64 y.v, .int .i64 y.k, .int .i64 y.se, .int .i64 y.rq, .slice A y.ops.length c, .int .i64 y.vn, .int .i64 y.vp, .int .i64 y.vb, .int .i64 y.st, .int .i64 y.of, .string y.x], rfl, rfl, ⟨[.int .i64 y.s], [.int .i64 y.v, .int .i64 y.k, .int .i64 y.se, .int .i64 y.rq, .slice A y.ops.length c, .int .i64 y.vn, .int .i64 y.vp, .int .i64 y.vb, .int .i64 y.st, .int .i64 y.of, .string y.x], rfl, rfl, ⟨[.int .i64 y.v], [.int .i64 y.k, .int .i64 y.se, .int .i64 y.rq, .slice A y.ops.length c, .int .i64 y.vn, .int .i64 y.vp, .int .i64 y.vb, .int .i64 y.st, .int .i64 y.of, .string y.x], rfl, rfl, ⟨[.int .i64 y.k], [.int .i64 y.se, .int .i64 y.rq, .slice A y.ops.length c, .int .i64 y.vn, .int .i64 y.vp, .int .i64 y.vb, .int .i64 y.st, .int .i64 y.of, .string y.x], rfl, rfl, ⟨[.int .i64 y.se], [.int .i64 y.rq, .slice A y.ops.length c, .int .i64 y.vn, .int .i64 y.vp, .int .i64 y.vb, .int .i64 y.st, .int .i64 y.of, .string y.x], rfl, rfl, ⟨[.int .i64 y.rq], [.slice A y.ops.length c, .int .i64 y.vn, .int .i64 y.vp, .int .i64 y.vb, .int .i64 y.st, .int .i64 y.of, .string y.x], rfl, rfl, ⟨[.slice A y.ops.length c], [.int .i64 y.vn, .int .i64 y.vp, .int .i64 y.vb, .int .i64 y.st, .int .i64 y.of, .string y.x], rfl, ⟨A, c, rfl, l5, g5⟩, ⟨[.int .i64 y.vn], [.int .i64 y.vp, .int .i64 y.vb, .int .i64 y.st, .int .i64 y.of, .string y.x], rfl, rfl, ⟨[.int .i64 y.vp], [.int .i64 y.vb, .int .i64 y.st, .int .i64 y.of, .string y.x], rfl, rfl, ⟨[.int .i64 y.vb], [.int .i64 y.st, .int .i64 y.of, .string y.x], rfl, rfl, ⟨[.int .i64 y.st], [.int .i64 y.of, .string y.x], rfl, rfl, ⟨[.int .i64 y.of], [.string y.x], rfl, rfl, rfl⟩⟩⟩⟩⟩⟩⟩⟩⟩⟩⟩⟩
def rd_J (xs : List JR) (i : Int) : JR := xs.getD i.toNat zJ
theorem at_J {w : World} {A : Option Addr} {n : Nat} {xs : List JR} (h : Kd.C kJ w A n xs) (i : Int) (h0 : 0 ≤ i) (h1 : i < n) : ∃ ad A1 c1, A = some ad ∧ w.cell? (ad.add (i.toNat * 13)) = some (.int .i64 (rd_J xs i).kd) ∧ w.cell? ⟨(ad.add (i.toNat * 13)).block, (ad.add (i.toNat * 13)).off + 1, none⟩ = some (.int .i64 (rd_J xs i).s) ∧ w.cell? ⟨(ad.add (i.toNat * 13)).block, (ad.add (i.toNat * 13)).off + 2, none⟩ = some (.int .i64 (rd_J xs i).v) ∧ w.cell? ⟨(ad.add (i.toNat * 13)).block, (ad.add (i.toNat * 13)).off + 3, none⟩ = some (.int .i64 (rd_J xs i).k) ∧ w.cell? ⟨(ad.add (i.toNat * 13)).block, (ad.add (i.toNat * 13)).off + 4, none⟩ = some (.int .i64 (rd_J xs i).se) ∧ w.cell? ⟨(ad.add (i.toNat * 13)).block, (ad.add (i.toNat * 13)).off + 5, none⟩ = some (.int .i64 (rd_J xs i).rq) ∧ w.cell? ⟨(ad.add (i.toNat * 13)).block, (ad.add (i.toNat * 13)).off + 6, none⟩ = some (.slice A1 (rd_J xs i).ops.length c1) ∧ w.cell? ⟨(ad.add (i.toNat * 13)).block, (ad.add (i.toNat * 13)).off + 7, none⟩ = some (.int .i64 (rd_J xs i).vn) ∧ w.cell? ⟨(ad.add (i.toNat * 13)).block, (ad.add (i.toNat * 13)).off + 8, none⟩ = some (.int .i64 (rd_J xs i).vp) ∧ w.cell? ⟨(ad.add (i.toNat * 13)).block, (ad.add (i.toNat * 13)).off + 9, none⟩ = some (.int .i64 (rd_J xs i).vb) ∧ w.cell? ⟨(ad.add (i.toNat * 13)).block, (ad.add (i.toNat * 13)).off + 10, none⟩ = some (.int .i64 (rd_J xs i).st) ∧ w.cell? ⟨(ad.add (i.toNat * 13)).block, (ad.add (i.toNat * 13)).off + 11, none⟩ = some (.int .i64 (rd_J xs i).of) ∧ w.cell? ⟨(ad.add (i.toNat * 13)).block, (ad.add (i.toNat * 13)).off + 12, none⟩ = some (.string (rd_J xs i).x) ∧ (rd_J xs i).ops.length ≤ c1 ∧ Kd.C k40 w A1 (rd_J xs i).ops.length (rd_J xs i).ops := by
  obtain ⟨ad, c, e, _, hK, hc0⟩ := Kd.C_get h zJ i h0 h1
  have hc : ∀ j u, c[j]? = some u → w.cell? (ad.add (i.toNat * 13 + j)) = some u := hc0
  obtain ⟨A1, c1, rfl, l5, g5⟩ := kJ_open hK
  exact ⟨ad, A1, c1, e, hc 0 _ rfl, by rw [← add_field _ _ 1 (by omega)]; exact hc 1 _ rfl, by rw [← add_field _ _ 2 (by omega)]; exact hc 2 _ rfl, by rw [← add_field _ _ 3 (by omega)]; exact hc 3 _ rfl, by rw [← add_field _ _ 4 (by omega)]; exact hc 4 _ rfl, by rw [← add_field _ _ 5 (by omega)]; exact hc 5 _ rfl, by rw [← add_field _ _ 6 (by omega)]; exact hc 6 _ rfl, by rw [← add_field _ _ 7 (by omega)]; exact hc 7 _ rfl, by rw [← add_field _ _ 8 (by omega)]; exact hc 8 _ rfl, by rw [← add_field _ _ 9 (by omega)]; exact hc 9 _ rfl, by rw [← add_field _ _ 10 (by omega)]; exact hc 10 _ rfl, by rw [← add_field _ _ 11 (by omega)]; exact hc 11 _ rfl, by rw [← add_field _ _ 12 (by omega)]; exact hc 12 _ rfl, l5, g5⟩
theorem u43 : Try.prog.underlying 43 = some (.slice 28) := Try.underlying43

theorem R40_any {W : World} {base : Nat} {ok ok' : Nat → Prop} {v : Value} {l : List S40} (h : Kd.R k40 40 W base ok v l) (hk : ∀ k, v.ownBlock = some k → ok' k) : Kd.R k40 40 W base ok' v l :=
  ⟨hk, h.2.imp_ (fun _ _ hp => by rw [k40_openM hp]; exact k40_mkM _ _ _ _)⟩

abbrev JR.enc (y : JR) (sq : Int) : List Int × Int := recEnc sq y.kd y.s y.v y.k y.se y.rq y.ops y.vn y.vp y.vb y.st y.of y.x
/-- What is written of records: the bytes, the places behind each, the records that were taken. -/
def wrGo : List JR → List Int × List Int × List JR → List Int × List Int × List JR
  | [], s => s
  | y :: l, (d, es, ys) => if d.length < 60000 then
      (if (y.enc ((es.length : Int) + 1)).2 = 0 then wrGo l (d ++ (y.enc ((es.length : Int) + 1)).1, es ++ [((d.length + (y.enc ((es.length : Int) + 1)).1.length : Nat) : Int)], ys ++ [y]) else wrGo l (d, es, ys))
    else (d, es, ys)
abbrev R3 (w : World) (base : Nat) (v : Value) (l : List Int) : Prop := Kd.R (Kd.int .i64) 3 w base (fun _ => True) v l
theorem info3' : (Try.prog.info? 3).map (fun i => (i.zero, i.size, i.bytes)) = some (some (.int .i64 0), 1, 8) := by kernel_rfl
theorem k3_only {t : Nat} (h : t ∈ 3 :: (Kd.int .i64).E) : t = 3 := by
  have h' : t ∈ [3] := h
  simpa using h'
theorem k8_only {t : Nat} (h : t ∈ 5 :: (Kd.int .u8).E) : t = 5 := by
  have h' : t ∈ [5] := h
  simpa using h'
theorem R3_far {W w1 : World} {base : Nat} {v u : Value} {l k : List Int} (h : R3 W base v l) (hu : R8 W base u k) (hg : W.grownBy w1 u.ownBlock) : R3 w1 base v l :=
  Kd.R_mono (Kd.R_step (Kd.R_bound h) (fun j hj hlt => hg.block j hlt (fun e => by
    obtain ⟨q, hq, hc⟩ := hj.2.2.2
    have h1 : typed W 5 j := Kd.R_typed hu j e.symm
    rw [k3_only hq] at hc
    exact absurd (typed_ne hc h1) (by decide)))) (fun _ _ => trivial)
theorem R8_far {W w1 : World} {base : Nat} {v u : Value} {l k : List Int} (h : R8 W base v l) (hu : R3 W base u k) (hg : W.grownBy w1 u.ownBlock) : R8 w1 base v l :=
  Kd.R_mono (Kd.R_step (Kd.R_bound h) (fun j hj hlt => hg.block j hlt (fun e => by
    obtain ⟨q, hq, hc⟩ := hj.2.2.2
    have h1 : typed W 3 j := Kd.R_typed hu j e.symm
    rw [k8_only hq] at hc
    exact absurd (typed_ne hc h1) (by decide)))) (fun _ _ => trivial)
theorem wr_succ {m : Nat} (h : m ≤ 3000000000000) : wrap64 ((m : Int) + 1) = (m : Int) + 1 := by unfold wrap64; omega
theorem enc_len (y : JR) (sq : Int) : (y.enc sq).1.length ≤ 4000000 := recEnc_len _ _ _ _ _ _ _ _ _ _ _ _ _ _
set_option maxHeartbeats 16000000 in
set_option maxRecDepth 100000 in
theorem written_R (w : World) (A : Option Addr) (n c : Nat) (l : List JR) (hn : l.length = n) (hc : n ≤ c) (hm : n ≤ 2513169434843) (hC : Kd.C kJ w A n l) :
    Calls Try.prog 17 #[.slice A n c] w fun e w' => ∃ V U, e = .returned (.tuple #[V, U]) ∧ R8 w' w.heap.size V (wrGo l ([], [], [])).1 ∧ R3 w' w.heap.size U (wrGo l ([], [], [])).2.1 ∧ Below w.heap.size w w' := by
  have hu28 := Try.underlying28
  have hu26 := Try.underlying26
  have hu24 := Try.underlying24
  have HN := Aside0.mk hn
  have HC := Aside0.mk hC
  have HCC := Aside0.mk hc
  obtain ⟨F, hF⟩ : ∃ F, F = wrGo l ([], [], []) := ⟨_, rfl⟩
  rw [← hF]
  have HFF := Aside0.mk hF
  clear hn hC hc hF
  go_enter Try.func17, Try.ntmps17
  go_wp2
  go_loopw [4, 5, 6] (fun v4 v5 v6 wr => ∃ i : Nat, i ≤ n ∧ v6 = .int .i64 (i : Int) ∧ ∃ (d es : List Int) (ys : List JR), Aside0 (R8 wr w.heap.size v4 d) ∧ Aside0 (R3 wr w.heap.size v5 es) ∧ Aside0 (Below w.heap.size w wr) ∧ Aside0 (wrGo (l.drop i) (d, es, ys) = F) ∧ Aside0 (d.length ≤ 4100000 ∧ es.length ≤ i)) (fun v4 v5 v6 _ => n - (intOf v6).toNat)
  case atStart => exact ⟨0, Nat.zero_le _, rfl, [], [], [], ⟨Kd.R_nil _ _ _ _ _⟩, ⟨Kd.R_nil _ _ _ _ _⟩, ⟨Below.refl _ _⟩, ⟨HFF.out.symm⟩, ⟨by simp, by simp⟩⟩
  case round =>
    obtain ⟨i, hi, rfl, d, es, ys, HO, HE, HB, HW, HL⟩ := hrel
    obtain ⟨A4, c4, rfl⟩ := Kd.R_slice HO.out
    obtain ⟨A5, c5, rfl⟩ := Kd.R_slice HE.out
    obtain ⟨m4, hm4⟩ : ∃ m4, m4 = d.length := ⟨_, rfl⟩
    obtain ⟨m5, hm5⟩ : ∃ m5, m5 = es.length := ⟨_, rfl⟩
    rw [← hm4] at HO
    rw [← hm5] at HE
    rw [← hm4, ← hm5]
    have HM4 := Aside0.mk hm4
    have HM5 := Aside0.mk hm5
    clear hm4 hm5
    by_cases hlt : i < n
    · have hd1 : decide ((i : Int) < (n : Int)) = true := decide_eq_true (by omega)
      have hd2 : decide (i < n) = true := decide_eq_true hlt
      have hil : i < l.length := by rw [HN.out]; exact hlt
      have hdr : l.drop i = l[i] :: l.drop (i + 1) := List.drop_eq_getElem_cons hil
      have HDR := Aside0.mk hdr
      by_cases h6 : m4 < 60000
      · have g1 : decide ((m4 : Int) < 60000) = true := decide_eq_true (by omega)
        have g2 : decide (m4 < 60000) = true := decide_eq_true h6
        obtain ⟨ad, A1, c1, rfl, f0, f1, f2, f3, f4, f5, f6, f7, f8, f9, f10, f11, f12, hlc, hCo⟩ := at_J HC.out (i : Int) (by omega) (by omega)
        obtain ⟨y, hy⟩ : ∃ y, rd_J l (i : Int) = y := ⟨_, rfl⟩
        rw [hy, Int.toNat_natCast] at f0 f1 f2 f3 f4 f5 f6 f7 f8 f9 f10 f11 f12
        rw [hy] at hlc hCo
        have hyi : l[i] = y := by
          rw [← hy]
          unfold rd_J
          rw [Int.toNat_natCast, List.getD_eq_getElem?_getD, List.getElem?_eq_getElem hil]
          rfl
        have HYI := Aside0.mk hyi
        obtain ⟨m6, hm6⟩ : ∃ m6, m6 = y.ops.length := ⟨_, rfl⟩
        rw [← hm6] at f6 hlc hCo
        replace f0 := pw_cell_below HB.out f0
        replace f1 := pw_cell_below HB.out f1
        replace f2 := pw_cell_below HB.out f2
        replace f3 := pw_cell_below HB.out f3
        replace f4 := pw_cell_below HB.out f4
        replace f5 := pw_cell_below HB.out f5
        replace f6 := pw_cell_below HB.out f6
        replace f7 := pw_cell_below HB.out f7
        replace f8 := pw_cell_below HB.out f8
        replace f9 := pw_cell_below HB.out f9
        replace f10 := pw_cell_below HB.out f10
        replace f11 := pw_cell_below HB.out f11
        replace f12 := pw_cell_below HB.out f12
        have HCO := Aside0.mk (Kd.C_below hCo HB.out)
        have HLC := Aside0.mk hlc
        have HM6 := Aside0.mk hm6
        have hws := wr_succ (m := m5) (by have := HL.out.2; have := HM5.out; omega)
        clear hCo hlc hm6 hy hyi hdr
        go_wp2_with fail
        obtain ⟨r, hr⟩ : ∃ r, r = y.enc ((m5 : Int) + 1) := ⟨_, rfl⟩
        refine (encode_C ((m5 : Int) + 1) y.kd y.s y.v y.k y.se y.rq A1 c1 m6 y.ops y.vn y.vp y.vb y.st y.of y.x wr HM6.out.symm HCO.out HLC.out r.1 r.2 (by rw [hr])).mono ?_
        rintro e1 w1 ⟨V, rfl, hv, hb⟩
        have HV := Aside0.mk hv
        have HO1 := Aside0.mk (Kd.R_below HO.out hb)
        have HE1 := Aside0.mk (Kd.R_below HE.out hb)
        have HB1 := Aside0.mk (below_step HB.out hb)
        have HR := Aside0.mk hr
        clear hv hb hr f0 f1 f2 f3 f4 f5 f6 f7 f8 f9 f10 f11 f12 hws HO HE HB HCO
        go_wp2_with fail
        refine (num_N r.2 w1).mono ?_
        rintro e2 w2 ⟨rfl, hd⟩
        have HV2 := Aside0.mk (Kd.R_below HV.out hd.below)
        have HO2 := Aside0.mk (Kd.R_below HO1.out hd.below)
        have HE2 := Aside0.mk (Kd.R_below HE1.out hd.below)
        have HB2 := Aside0.mk (below_step HB1.out hd.below)
        clear hd HV HO1 HE1 HB1
        have hgo : F = wrGo (l.drop (i + 1)) (if r.2 = 0 then (d ++ r.1, es ++ [((d.length + r.1.length : Nat) : Int)], ys ++ [y]) else (d, es, ys)) := by
          rw [← HW.out, HDR.out, HYI.out]
          show (if d.length < 60000 then _ else _) = _
          rw [if_pos (by rw [← HM4.out]; exact h6), ← HM5.out, ← HR.out]
          by_cases h0 : r.2 = 0
          · rw [if_pos h0, if_pos h0]
          · rw [if_neg h0, if_neg h0]
        have HGO := Aside0.mk hgo
        have HRL := Aside0.mk (show r.1.length ≤ 4000000 by rw [HR.out]; exact enc_len y _)
        clear hgo
        by_cases h0 : r.2 = 0
        · have q1 : (r.2 == 0) = true := by simpa using h0
          have q2 : decide (r.2 = 0) = true := decide_eq_true h0
          rw [if_pos h0] at HGO
          obtain ⟨A7, c7, rfl, hc7, hC7⟩ := Kd.R_reads HV2.out
          obtain ⟨m7, hm7⟩ : ∃ m7, m7 = r.1.length := ⟨_, rfl⟩
          rw [← hm7] at hC7
          have HC7 := Aside0.mk hC7
          have HM7 := Aside0.mk hm7
          rw [← hm7]
          clear hC7 hc7 hm7
          go_wp2_with (with_reducible refine stop_append rfl ?_)
          refine app8 (v := .slice A4 m4 c4) (xs := d) (ys := r.1) w w.heap.size rfl _ _ rfl rfl rfl HO2.out HC7.out HB2.out HB2.out.size (by have := HL.out.1; have := HM7.out; have := HRL.out; omega) ?_
          intro v3 w3 ho3 hb3 hg3 hat3
          obtain ⟨A8, c8, rfl⟩ := Kd.R_slice ho3
          obtain ⟨m8, hm8⟩ : ∃ m8, m8 = (d ++ r.1).length := ⟨_, rfl⟩
          rw [← hm8] at ho3 ⊢
          have HO3 := Aside0.mk ho3
          have HE3 := Aside0.mk (R3_far HE2.out HO2.out hg3)
          have HB3 := Aside0.mk hb3
          have HM8 := Aside0.mk hm8
          clear ho3 hb3 hg3 hat3 hm8
          go_wp2_with (with_reducible refine stop_append rfl ?_)
          refine Kd.R_append (Kd.int .i64) (w0 := w) w.heap.size rfl _ _ 44 3 (.int .i64 0) 8 rfl Try.underlying44 info3' rfl (by decide) (by decide) (.slice A5 m5 c5) es (m8 : Int) [.int .i64 (m8 : Int)] (fun _ => True) (fun _ => False) rfl rfl rfl (fun _ h => h.elim) (fun _ _ => trivial) HE3.out HB3.out HB3.out.size (by have := HL.out.2; omega) ?_
          intro v4 w4 ho4 hb4 hg4 hat4
          have HO4 := Aside0.mk (R8_far HO3.out HE3.out hg4)
          have HE4 := Aside0.mk ho4
          have HB4 := Aside0.mk hb4
          clear ho4 hb4 hg4 hat4 q1 q2
          go_wp2
          go_roundw
          case rel => exact ⟨i + 1, by omega, by go_num, d ++ r.1, es ++ [(m8 : Int)], ys ++ [y], ⟨HO4.out⟩, ⟨HE4.out⟩, HB4, ⟨by rw [HGO.out, HM8.out, List.length_append]⟩, ⟨by have := HM4.out; have := HRL.out; rw [List.length_append]; omega, by rw [List.length_append]; have := HL.out.2; simp; omega⟩⟩
          case measure => simp [intOf]; omega
        · have q1 : (r.2 == 0) = false := by simpa using h0
          have q2 : decide (r.2 = 0) = false := decide_eq_false h0
          rw [if_neg h0] at HGO
          go_wp2
          go_roundw
          case rel => exact ⟨i + 1, by omega, by go_num, d, es, ys, ⟨HO2.out⟩, ⟨HE2.out⟩, HB2, ⟨HGO.out.symm⟩, ⟨HL.out.1, by have := HL.out.2; omega⟩⟩
          case measure => simp [intOf]; omega
      · have g1 : decide ((m4 : Int) < 60000) = false := decide_eq_false (by omega)
        have g2 : decide (m4 < 60000) = false := decide_eq_false h6
        have hfin : (d, es, ys) = F := by
          rw [← HW.out, hdr]
          unfold wrGo
          rw [if_neg (by rw [← HM4.out]; exact h6)]
        clear hdr
        go_wp2
        go_ret2
        rw [← hfin]
        exact ⟨_, _, rfl, HO.out, HE.out, HB.out⟩
    · have hd1 : decide ((i : Int) < (n : Int)) = false := decide_eq_false (by omega)
      have hd2 : decide (i < n) = false := decide_eq_false hlt
      have hdr : l.drop i = [] := List.drop_of_length_le (by rw [HN.out]; omega)
      have hfin : (d, es, ys) = F := by
        rw [← HW.out, hdr]
        rfl
      clear hdr
      go_wp2
      go_ret2
      rw [← hfin]
      exact ⟨_, _, rfl, HO.out, HE.out, HB.out⟩

theorem readText_N (A : Option Addr) (c n : Nat) (l : List Int) (a : Int) (x : List Int) (q e : Int) (w : World) (hn : l.length = n) (hm : n ≤ 140737488355328) (hok : bytesOk l = true) (hc : n ≤ c) (hC : C8 w A n l) (hr : readText l a = (x, q, e)) :
    Calls Try.prog 102 #[.slice A n c, .int .i64 a] w fun r w' => r = .returned (.tuple #[.string (strOfNums x), .int .i64 q, .int .i64 e]) ∧ Drawn0 w w' := by
  subst hn
  refine wire_ReadText.calls A c l a (strOfNums x) q e w hC hc ?_
  unfold wire_ReadText.f
  rw [if_pos ⟨hok, hm⟩, hr]
/-- What stands at a place is read. -/
theorem readNum_drop {l t : List Int} {v : Int} {i : Nat} (h0 : 0 ≤ v) (h1 : v ≤ 2147483647) (hi : i ≤ l.length) (h : l.drop i = (numEnc v).1 ++ t) : readNum l (i : Int) = (v, ((i + (numEnc v).1.length : Nat) : Int), 0) := by
  have e : (numEnc v).1 = numBytes 4 v := by unfold numEnc; rw [if_neg (by omega)]
  rw [e] at h ⊢
  have := readNum_written (l.take i) t v h0 h1
  rw [← h, List.take_append_drop, List.length_take, Nat.min_eq_left hi] at this
  exact this
theorem readText_drop {l t : List Int} {s : ByteArray} {i : Nat} (hs : s.size ≤ 262144) (hi : i ≤ l.length) (h : l.drop i = (textEnc s).1 ++ t) : readText l (i : Int) = (bytesOf s, ((i + (textEnc s).1.length : Nat) : Int), 0) := by
  have e : (textEnc s).1 = numBytes 4 (bytesOf s).length ++ bytesOf s := by unfold textEnc; rw [if_neg (by omega), bytesOf_length]
  rw [e] at h ⊢
  have := readText_written (l.take i) t (bytesOf s) (by rw [bytesOf_length]; exact hs)
  rw [← h, List.take_append_drop, List.length_take, Nat.min_eq_left hi] at this
  exact this
theorem drop_next {l a t : List Int} {i : Nat} (h : l.drop i = a ++ t) : l.drop (i + a.length) = t := by
  rw [← List.drop_drop, h, List.drop_left]
theorem drop_le {l a t : List Int} {i n : Nat} (hn : l.length = n) (hi : i ≤ n) (h : l.drop i = a ++ t) : i + a.length ≤ n := by
  have := congrArg List.length h
  rw [List.length_drop, List.length_append] at this
  omega
set_option maxHeartbeats 8000000 in
set_option maxRecDepth 100000 in
theorem nr_number (w0 w : World) (rb n c : Nat) (A : Option Addr) (l : List Int) (at_ x q : Int) (hn : l.length = n) (hc : n ≤ c) (hok : bytesOk l = true) (hm : n ≤ 140737488355328) (hC : C8 w0 A n l) (hB : Below w0.heap.size w0 w) (hg : w.heap[rb]? = some (.cells #[.slice A n c, .int .i64 at_] 163 (0, 0))) (hr : readNum l at_ = (x, q, 0)) :
    Calls Try.prog 105 #[.pointer (some ⟨rb, 0, none⟩)] w fun e w' => e = .returned (.int .i64 x) ∧ w'.heap[rb]? = some (.cells #[.slice A n c, .int .i64 q] 163 (0, 0)) ∧ Frm w w' (fun k => k = rb) := by
  have hu163 := Try.underlying163
  have HN := Aside0.mk hn
  have HC := Aside0.mk (Kd.C_below hC hB)
  have HCC := Aside0.mk hc
  have HOK := Aside0.mk hok
  have HM := Aside0.mk hm
  have HR := Aside0.mk hr
  have HG := Aside0.mk hg
  have k0 : w.cell? ⟨rb, 0, none⟩ = some (.slice A n c) := blk_cell hg 0
  have k1 : w.cell? ⟨rb, 1, none⟩ = some (.int .i64 at_) := blk_cell hg 1
  have z1 : w.frozen? ⟨rb, 1, none⟩ = false := blk_frozen hg 1
  clear hn hc hok hm hC hB hg hr
  go_enter Try.func105, Try.ntmps105
  go_wp2_with fail
  go_quiet (first | (go_at_call 101; exact Drawn0.quiet (readNum_N A c n l at_ x q 0 _ HN.out HM.out HOK.out HCC.out (by repeat (first | exact HC.out | apply Kd.C_drewN | apply Kd.C_drew)) HR.out)))
  go_wp2; go_ret
  have hb := (show Below w.heap.size w (w.drewN nq) from Drawn0.below ⟨⟨nq, rfl⟩⟩)
  exact ⟨rfl, blk_put ((hb.block rb (blk_lt HG.out)).trans HG.out) 1 _ rfl, Frm.set_ (p := ⟨rb, 1, none⟩) (Frm.of_below hb (fun k => k = rb)) (.inl rfl) _⟩
set_option maxHeartbeats 8000000 in
set_option maxRecDepth 100000 in
theorem rd_text (w0 w : World) (rb n c : Nat) (A : Option Addr) (l : List Int) (at_ q : Int) (x : List Int) (hn : l.length = n) (hc : n ≤ c) (hok : bytesOk l = true) (hm : n ≤ 140737488355328) (hC : C8 w0 A n l) (hB : Below w0.heap.size w0 w) (hg : w.heap[rb]? = some (.cells #[.slice A n c, .int .i64 at_] 147 (0, 0))) (hr : readText l at_ = (x, q, 0)) :
    Calls Try.prog 93 #[.pointer (some ⟨rb, 0, none⟩)] w fun e w' => e = .returned (.string (strOfNums x)) ∧ w'.heap[rb]? = some (.cells #[.slice A n c, .int .i64 q] 147 (0, 0)) ∧ Frm w w' (fun k => k = rb) := by
  have hu147 := Try.underlying147
  have HN := Aside0.mk hn
  have HC := Aside0.mk (Kd.C_below hC hB)
  have HCC := Aside0.mk hc
  have HOK := Aside0.mk hok
  have HM := Aside0.mk hm
  have HR := Aside0.mk hr
  have HG := Aside0.mk hg
  have k0 : w.cell? ⟨rb, 0, none⟩ = some (.slice A n c) := blk_cell hg 0
  have k1 : w.cell? ⟨rb, 1, none⟩ = some (.int .i64 at_) := blk_cell hg 1
  have z1 : w.frozen? ⟨rb, 1, none⟩ = false := blk_frozen hg 1
  clear hn hc hok hm hC hB hg hr
  go_enter Try.func93, Try.ntmps93
  go_wp2_with fail
  go_quiet (first | (go_at_call 102; exact Drawn0.quiet (readText_N A c n l at_ x q 0 _ HN.out HM.out HOK.out HCC.out (by repeat (first | exact HC.out | apply Kd.C_drewN | apply Kd.C_drew)) HR.out)))
  go_wp2; go_ret
  have hb := (show Below w.heap.size w (w.drewN nq) from Drawn0.below ⟨⟨nq, rfl⟩⟩)
  exact ⟨rfl, blk_put ((hb.block rb (blk_lt HG.out)).trans HG.out) 1 _ rfl, Frm.set_ (p := ⟨rb, 1, none⟩) (Frm.of_below hb (fun k => k = rb)) (.inl rfl) _⟩
set_option maxHeartbeats 8000000 in
set_option maxRecDepth 100000 in
theorem nr_text (w0 w : World) (rb n c : Nat) (A : Option Addr) (l : List Int) (at_ q : Int) (x : List Int) (hn : l.length = n) (hc : n ≤ c) (hok : bytesOk l = true) (hm : n ≤ 140737488355328) (hC : C8 w0 A n l) (hB : Below w0.heap.size w0 w) (hg : w.heap[rb]? = some (.cells #[.slice A n c, .int .i64 at_] 163 (0, 0))) (hr : readText l at_ = (x, q, 0)) :
    Calls Try.prog 108 #[.pointer (some ⟨rb, 0, none⟩)] w fun e w' => e = .returned (.string (strOfNums x)) ∧ w'.heap[rb]? = some (.cells #[.slice A n c, .int .i64 q] 163 (0, 0)) ∧ Frm w w' (fun k => k = rb) := by
  have hu163 := Try.underlying163
  have HN := Aside0.mk hn
  have HC := Aside0.mk (Kd.C_below hC hB)
  have HCC := Aside0.mk hc
  have HOK := Aside0.mk hok
  have HM := Aside0.mk hm
  have HR := Aside0.mk hr
  have HG := Aside0.mk hg
  have k0 : w.cell? ⟨rb, 0, none⟩ = some (.slice A n c) := blk_cell hg 0
  have k1 : w.cell? ⟨rb, 1, none⟩ = some (.int .i64 at_) := blk_cell hg 1
  have z1 : w.frozen? ⟨rb, 1, none⟩ = false := blk_frozen hg 1
  clear hn hc hok hm hC hB hg hr
  go_enter Try.func108, Try.ntmps108
  go_wp2_with fail
  go_quiet (first | (go_at_call 102; exact Drawn0.quiet (readText_N A c n l at_ x q 0 _ HN.out HM.out HOK.out HCC.out (by repeat (first | exact HC.out | apply Kd.C_drewN | apply Kd.C_drew)) HR.out)))
  go_wp2; go_ret
  have hb := (show Below w.heap.size w (w.drewN nq) from Drawn0.below ⟨⟨nq, rfl⟩⟩)
  exact ⟨rfl, blk_put ((hb.block rb (blk_lt HG.out)).trans HG.out) 1 _ rfl, Frm.set_ (p := ⟨rb, 1, none⟩) (Frm.of_below hb (fun k => k = rb)) (.inl rfl) _⟩

/-- An op stands at place i, up to q. -/
def OpAt (l : List Int) (i : Int) (o : S40) (q : Int) : Prop :=
  ∃ q1 q2 q3 q4 b1 b2, readNum l i = (o.f0, q1, 0) ∧ readText l q1 = (b1, q2, 0) ∧ strOfNums b1 = o.f1 ∧ readText l q2 = (b2, q3, 0) ∧ strOfNums b2 = o.f2 ∧
    ((o.f3 = -1 ∧ readNum l q3 = (0, q4, 0) ∧ readNum l q4 = (o.f4, q, 0)) ∨ ∃ q5, readNum l q3 = (1, q4, 0) ∧ readNum l q4 = (o.f3, q5, 0) ∧ readNum l q5 = (o.f4, q, 0))
set_option maxHeartbeats 4000000 in
set_option maxRecDepth 100000 in
theorem nr_truth (w0 w : World) (rb n c : Nat) (A : Option Addr) (l : List Int) (at_ x q : Int) (b : Bool) (hx : x = if b then 1 else 0) (hn : l.length = n) (hc : n ≤ c) (hok : bytesOk l = true) (hm : n ≤ 140737488355328) (hC : C8 w0 A n l) (hB : Below w0.heap.size w0 w) (hg : w.heap[rb]? = some (.cells #[.slice A n c, .int .i64 at_] 163 (0, 0))) (hr : readNum l at_ = (x, q, 0)) :
    Calls Try.prog 109 #[.pointer (some ⟨rb, 0, none⟩)] w fun e w' => e = .returned (.bool b) ∧ w'.heap[rb]? = some (.cells #[.slice A n c, .int .i64 q] 163 (0, 0)) ∧ Frm w w' (fun k => k = rb) := by
  have HC := Aside0.mk hC
  have HB := Aside0.mk hB
  have HG := Aside0.mk hg
  clear hC hB hg
  go_enter Try.func109, Try.ntmps109
  go_wp2_with fail
  refine (nr_number w0 w rb n c A l at_ x q hn hc hok hm HC.out HB.out HG.out hr).mono ?_
  rintro e w1 ⟨rfl, hg1, hf1⟩
  have HG1 := Aside0.mk hg1
  have HF1 := Aside0.mk hf1
  clear hg1 hf1 hr
  cases b with
  | true =>
    simp only [if_true] at hx
    subst hx
    go_wp2; go_ret
    exact ⟨rfl, HG1.out, HF1.out⟩
  | false =>
    simp only [Bool.false_eq_true, if_false] at hx
    subst hx
    go_wp2; go_ret
    exact ⟨rfl, HG1.out, HF1.out⟩
abbrev opArr (o : S40) : Array Value := #[.int .i64 o.f0, .string o.f1, .string o.f2, .int .i64 o.f3, .int .i64 o.f4]
abbrev opZero : Array Value := #[.int .i64 0, .string ⟨#[]⟩, .string ⟨#[]⟩, .int .i64 0, .int .i64 0]
set_option maxHeartbeats 8000000 in
set_option maxRecDepth 100000 in
theorem get_op (w0 w : World) (rb n c : Nat) (A : Option Addr) (l : List Int) (at_ q : Int) (o : S40) (hn : l.length = n) (hc : n ≤ c) (hok : bytesOk l = true) (hm : n ≤ 140737488355328) (hC : C8 w0 A n l) (hB : Below w0.heap.size w0 w) (hrb : w0.heap.size ≤ rb) (hg : w.heap[rb]? = some (.cells #[.slice A n c, .int .i64 at_] 163 (0, 0))) (hr : OpAt l at_ o q) :
    Calls Try.prog 107 #[.pointer (some ⟨rb, 0, none⟩)] w fun e w' => e = .returned (.agg (opArr o)) ∧ w'.heap[rb]? = some (.cells #[.slice A n c, .int .i64 q] 163 (0, 0)) ∧ Frm w w' (fun k => k = rb) := by
  obtain ⟨q1, q2, q3, q4, b1, b2, hr1, hr2, hs1, hr3, hs2, hr4⟩ := hr
  have hu40 := Try.underlying40
  have HN := Aside0.mk hn
  have HC := Aside0.mk hC
  have HCC := Aside0.mk hc
  have HOK := Aside0.mk hok
  have HM := Aside0.mk hm
  have HR1 := Aside0.mk hr1
  have HR2 := Aside0.mk hr2
  have HR3 := Aside0.mk hr3
  have HR4 := Aside0.mk hr4
  have HS := Aside0.mk (And.intro hs1 hs2)
  have HG := Aside0.mk hg
  have HB := Aside0.mk hB
  have HRB := Aside0.mk hrb
  have HWW := Aside0.mk hB.size
  clear hn hc hok hm hC hB hg hr1 hr2 hr3 hr4 hrb hs1 hs2
  go_enter Try.func107, Try.ntmps107
  go_wp2_with fail
  obtain ⟨f, hf⟩ : ∃ f, f = w.heap.size := ⟨_, rfl⟩
  obtain ⟨v0, hv0⟩ : ∃ v0, v0 = w.alloc (.cells opZero 40) := ⟨_, rfl⟩
  rw [← hv0, ← hf]
  have HW1 := Aside0.mk (show Below w.heap.size w v0 by rw [hv0]; exact below_alloc (Below.refl _ _) _)
  have HF0 := Aside0.mk (show v0.heap[f]? = some (.cells opZero 40 (0, 0)) by rw [hv0, hf]; exact heap_alloc_new w _)
  have HB0 := Aside0.mk (below_step HB.out HW1.out)
  have HX0 := Aside0.mk (Frm.of_below HW1.out (fun k => k = rb))
  have HG0 := Aside0.mk ((HW1.out.block rb (blk_lt HG.out)).trans HG.out)
  have HFT := Aside0.mk (show f ≠ rb by have := blk_lt HG.out; omega)
  have HFW := Aside0.mk (show w.heap.size ≤ f by omega)
  clear hf hv0 HW1 HG HB
  refine (nr_number w0 v0 rb n c A l at_ o.f0 q1 HN.out HCC.out HOK.out HM.out HC.out HB0.out HG0.out HR1.out).mono ?_
  rintro e1 v1 ⟨rfl, hg1, hf1⟩
  have HG1 := Aside0.mk hg1
  have HB1 := Aside0.mk (below_frm HB0.out hf1 (N := w0.heap.size) (fun k hk => by rw [hk]; exact HRB.out) (Nat.le_refl _))
  have HX1 := Aside0.mk (HX0.out.then_ hf1 (fun k hk _ => hk))
  have HF1 := Aside0.mk (hf1.blk HF0.out (fun e => HFT.out e))
  clear hg1 hf1 HG0 HB0 HX0 HF0
  go_wp2_with fail
  refine (nr_text w0 v1 rb n c A l q1 q2 b1 HN.out HCC.out HOK.out HM.out HC.out HB1.out HG1.out HR2.out).mono ?_
  rintro e2 v2 ⟨rfl, hg2, hf2⟩
  have HG2 := Aside0.mk hg2
  have HB2 := Aside0.mk (below_frm HB1.out hf2 (N := w0.heap.size) (fun k hk => by rw [hk]; exact HRB.out) (Nat.le_refl _))
  have HX2 := Aside0.mk (HX1.out.then_ hf2 (fun k hk _ => hk))
  have HF2 := Aside0.mk (hf2.blk HF1.out (fun e => HFT.out e))
  clear hg2 hf2 HG1 HB1 HX1 HF1
  go_wp2_with fail
  refine (nr_text w0 v2 rb n c A l q2 q3 b2 HN.out HCC.out HOK.out HM.out HC.out HB2.out HG2.out HR3.out).mono ?_
  rintro e3 v3 ⟨rfl, hg3, hf3⟩
  have HG3 := Aside0.mk hg3
  have HB3 := Aside0.mk (below_frm HB2.out hf3 (N := w0.heap.size) (fun k hk => by rw [hk]; exact HRB.out) (Nat.le_refl _))
  have HX3 := Aside0.mk (HX2.out.then_ hf3 (fun k hk _ => hk))
  have HF3 := Aside0.mk (hf3.blk HF2.out (fun e => HFT.out e))
  clear hg3 hf3 HG2 HB2 HX2 HF2
  rw [HS.out.1, HS.out.2]
  go_wp2_with fail
  obtain ⟨g, hg⟩ : ∃ g, g = v3.heap.size := ⟨_, rfl⟩
  obtain ⟨v4, hv4⟩ : ∃ v4, v4 = v3.alloc (.cells #[.int .i64 o.f0, .string o.f1, .string o.f2, .int .i64 (-1), .int .i64 0] 40) := ⟨_, rfl⟩
  rw [← hv4, ← hg]
  have HW4 := Aside0.mk (show Below v3.heap.size v3 v4 by rw [hv4]; exact below_alloc (Below.refl _ _) _)
  have HT4 := Aside0.mk (show v4.heap[g]? = some (.cells #[.int .i64 o.f0, .string o.f1, .string o.f2, .int .i64 (-1), .int .i64 0] 40 (0, 0)) by rw [hv4, hg]; exact heap_alloc_new v3 _)
  have HF4 := Aside0.mk ((HW4.out.block f (blk_lt HF3.out)).trans HF3.out)
  have HG4 := Aside0.mk ((HW4.out.block rb (blk_lt HG3.out)).trans HG3.out)
  have HB4 := Aside0.mk (below_step HB3.out HW4.out)
  have HX4 := Aside0.mk (HX3.out.step HW4.out)
  have HTT := Aside0.mk (show g ≠ rb by have := blk_lt HG3.out; omega)
  have HTF := Aside0.mk (show f ≠ g ∧ w.heap.size ≤ g by have := blk_lt HF3.out; have := HX3.out.size; omega)
  clear hg hv4 HW4 HF3 HG3 HB3 HX3
  rcases HR4.out with ⟨h3, hr4, hr5⟩ | ⟨q5, hr4, hr5, hr6⟩
  · have HR5 := Aside0.mk hr5
    have H3 := Aside0.mk h3
    refine (nr_truth w0 v4 rb n c A l q3 0 q4 false rfl HN.out HCC.out HOK.out HM.out HC.out HB4.out HG4.out hr4).mono ?_
    clear hr4 hr5 h3
    rintro e5 v5 ⟨rfl, hg5, hf5⟩
    have HG5 := Aside0.mk hg5
    have HB5 := Aside0.mk (below_frm HB4.out hf5 (N := w0.heap.size) (fun k hk => by rw [hk]; exact HRB.out) (Nat.le_refl _))
    have HX5 := Aside0.mk (HX4.out.then_ hf5 (fun k hk _ => hk))
    have HF5 := Aside0.mk (hf5.blk HF4.out (fun e => HFT.out e))
    have HT5 := Aside0.mk (hf5.blk HT4.out (fun e => HTT.out e))
    clear hg5 hf5 HG4 HB4 HX4 HF4 HT4
    go_wp2_with fail
    refine (nr_number w0 v5 rb n c A l q4 o.f4 q HN.out HCC.out HOK.out HM.out HC.out HB5.out HG5.out HR5.out).mono ?_
    rintro e6 v6 ⟨rfl, hg6, hf6⟩
    have HG6 := Aside0.mk hg6
    have HB6 := Aside0.mk (below_frm HB5.out hf6 (N := w0.heap.size) (fun k hk => by rw [hk]; exact HRB.out) (Nat.le_refl _))
    have HX6 := Aside0.mk (HX5.out.then_ hf6 (fun k hk _ => hk))
    have HF6 := Aside0.mk (hf6.blk HF5.out (fun e => HFT.out e))
    have HT6 := Aside0.mk (hf6.blk HT5.out (fun e => HTT.out e))
    clear hg6 hf6 HG5 HB5 HX5 HF5 HT5
    have HT6 := Aside0.mk (show v6.heap[g]? = some (.cells #[.int .i64 o.f0, .string o.f1, .string o.f2, .int .i64 o.f3, .int .i64 0] 40 (0, 0)) by rw [H3.out]; exact HT6.out)
    have t4 := (blk_cell HT6.out 4).trans rfl
    have z4 := blk_frozen HT6.out 4
    go_wp2_with (with_reducible refine stop_dst (N := 19) rfl ?_)
    refine Stop.go ?_
    clear t4 z4
    obtain ⟨wy, hwy⟩ : ∃ wy, wy = v6.setCell ⟨g, 4, none⟩ (.int .i64 o.f4) := ⟨_, rfl⟩
    rw [← hwy]
    have HTY := Aside0.mk (show wy.heap[g]? = some (.cells (opArr o) 40 (0, 0)) by rw [hwy]; exact blk_put HT6.out 4 _ rfl)
    have HFY := Aside0.mk (show wy.heap[f]? = some (.cells opZero 40 (0, 0)) by rw [hwy]; exact blk_far HF6.out (by simp only; exact HTF.out.1) _)
    have HGY := Aside0.mk (show wy.heap[rb]? = some (.cells #[.slice A n c, .int .i64 q] 163 (0, 0)) by rw [hwy]; exact blk_far HG6.out (by simp only; exact fun e => HTT.out e.symm) _)
    have HXY := Aside0.mk (show Frm w wy (fun k => k = rb) by rw [hwy]; exact HX6.out.set_ (p := ⟨g, 4, none⟩) (.inr HTF.out.2) _)
    clear hwy HT6 HF6 HG6 HX6 HB6
    have y0 := (blk_cell HTY.out 0).trans rfl
    have y1 := (blk_cell HTY.out 1).trans rfl
    have y2 := (blk_cell HTY.out 2).trans rfl
    have y3 := (blk_cell HTY.out 3).trans rfl
    have y4 := (blk_cell HTY.out 4).trans rfl
    go_wp2_with (with_reducible refine stop_store rfl ?_)
    refine store_blk rfl rfl 40 _ _ rfl (q := f) (i := 0) (cur' := opArr o) (opArr o).toList rfl rfl rfl (by kernel_rfl) (by intro u hu; simp at hu; rcases hu with rfl | rfl | rfl | rfl | rfl <;> rfl) HFY.out (by simp) rfl ?_
    intro wz hz hgz
    have HRZ := Aside0.mk ((hgz.block rb (blk_lt HGY.out) (fun e => HFT.out (Option.some.inj e).symm)).trans HGY.out)
    have HXZ := Aside0.mk (HXY.out.then_ (Frm.of_grown (S := fun k => k = f) hgz (fun k e => (Option.some.inj e).symm)) (fun k hk hlt => by have := HFW.out; omega))
    clear hgz y0 y1 y2 y3 y4
    go_wp2
    refine bodyPost_ret (results_cell_row rfl _ _ f 40 (opArr o) (0, 0) _ rfl hz Try.underlying40 rfl (by kernel_rfl)) rfl ?_
    exact ⟨rfl, HRZ.out, HXZ.out⟩
  · have HR5 := Aside0.mk hr5
    have HR6 := Aside0.mk hr6
    refine (nr_truth w0 v4 rb n c A l q3 1 q4 true rfl HN.out HCC.out HOK.out HM.out HC.out HB4.out HG4.out hr4).mono ?_
    clear hr4 hr5 hr6
    rintro e5 v5 ⟨rfl, hg5, hf5⟩
    have HG5 := Aside0.mk hg5
    have HB5 := Aside0.mk (below_frm HB4.out hf5 (N := w0.heap.size) (fun k hk => by rw [hk]; exact HRB.out) (Nat.le_refl _))
    have HX5 := Aside0.mk (HX4.out.then_ hf5 (fun k hk _ => hk))
    have HF5 := Aside0.mk (hf5.blk HF4.out (fun e => HFT.out e))
    have HT5 := Aside0.mk (hf5.blk HT4.out (fun e => HTT.out e))
    clear hg5 hf5 HG4 HB4 HX4 HF4 HT4
    go_wp2_with fail
    refine (nr_number w0 v5 rb n c A l q4 o.f3 q5 HN.out HCC.out HOK.out HM.out HC.out HB5.out HG5.out HR5.out).mono ?_
    rintro e6 v6 ⟨rfl, hg6, hf6⟩
    have HG6 := Aside0.mk hg6
    have HB6 := Aside0.mk (below_frm HB5.out hf6 (N := w0.heap.size) (fun k hk => by rw [hk]; exact HRB.out) (Nat.le_refl _))
    have HX6 := Aside0.mk (HX5.out.then_ hf6 (fun k hk _ => hk))
    have HF6 := Aside0.mk (hf6.blk HF5.out (fun e => HFT.out e))
    have HT6 := Aside0.mk (hf6.blk HT5.out (fun e => HTT.out e))
    clear hg6 hf6 HG5 HB5 HX5 HF5 HT5
    have t3 := (blk_cell HT6.out 3).trans rfl
    have z3 := blk_frozen HT6.out 3
    go_wp2_with fail
    clear t3 z3
    obtain ⟨v7, hv7⟩ : ∃ v7, v7 = v6.setCell ⟨g, 3, none⟩ (.int .i64 o.f3) := ⟨_, rfl⟩
    rw [← hv7]
    have HT7 := Aside0.mk (show v7.heap[g]? = some (.cells #[.int .i64 o.f0, .string o.f1, .string o.f2, .int .i64 o.f3, .int .i64 0] 40 (0, 0)) by rw [hv7]; exact blk_put HT6.out 3 _ rfl)
    have HF7 := Aside0.mk (show v7.heap[f]? = some (.cells opZero 40 (0, 0)) by rw [hv7]; exact blk_far HF6.out (by simp only; exact HTF.out.1) _)
    have HG7 := Aside0.mk (show v7.heap[rb]? = some (.cells #[.slice A n c, .int .i64 q5] 163 (0, 0)) by rw [hv7]; exact blk_far HG6.out (by simp only; exact fun e => HTT.out e.symm) _)
    have HX7 := Aside0.mk (show Frm w v7 (fun k => k = rb) by rw [hv7]; exact HX6.out.set_ (p := ⟨g, 3, none⟩) (.inr HTF.out.2) _)
    have HB7 := Aside0.mk (show Below w0.heap.size w0 v7 by rw [hv7]; exact HB6.out.setCell (p := ⟨g, 3, none⟩) (by have := HTF.out.2; have := HWW.out; simp only; omega) _)
    clear hv7 HT6 HF6 HG6 HX6 HB6
    refine (nr_number w0 v7 rb n c A l q5 o.f4 q HN.out HCC.out HOK.out HM.out HC.out HB7.out HG7.out HR6.out).mono ?_
    rintro e8 v8 ⟨rfl, hg8, hf8⟩
    have HG8 := Aside0.mk hg8
    have HB8 := Aside0.mk (below_frm HB7.out hf8 (N := w0.heap.size) (fun k hk => by rw [hk]; exact HRB.out) (Nat.le_refl _))
    have HX8 := Aside0.mk (HX7.out.then_ hf8 (fun k hk _ => hk))
    have HF8 := Aside0.mk (hf8.blk HF7.out (fun e => HFT.out e))
    have HT8 := Aside0.mk (hf8.blk HT7.out (fun e => HTT.out e))
    clear hg8 hf8 HG7 HB7 HX7 HF7 HT7
    have t4 := (blk_cell HT8.out 4).trans rfl
    have z4 := blk_frozen HT8.out 4
    go_wp2_with (with_reducible refine stop_dst (N := 19) rfl ?_)
    refine Stop.go ?_
    clear t4 z4
    obtain ⟨wy, hwy⟩ : ∃ wy, wy = v8.setCell ⟨g, 4, none⟩ (.int .i64 o.f4) := ⟨_, rfl⟩
    rw [← hwy]
    have HTY := Aside0.mk (show wy.heap[g]? = some (.cells (opArr o) 40 (0, 0)) by rw [hwy]; exact blk_put HT8.out 4 _ rfl)
    have HFY := Aside0.mk (show wy.heap[f]? = some (.cells opZero 40 (0, 0)) by rw [hwy]; exact blk_far HF8.out (by simp only; exact HTF.out.1) _)
    have HGY := Aside0.mk (show wy.heap[rb]? = some (.cells #[.slice A n c, .int .i64 q] 163 (0, 0)) by rw [hwy]; exact blk_far HG8.out (by simp only; exact fun e => HTT.out e.symm) _)
    have HXY := Aside0.mk (show Frm w wy (fun k => k = rb) by rw [hwy]; exact HX8.out.set_ (p := ⟨g, 4, none⟩) (.inr HTF.out.2) _)
    clear hwy HT8 HF8 HG8 HX8 HB8
    have y0 := (blk_cell HTY.out 0).trans rfl
    have y1 := (blk_cell HTY.out 1).trans rfl
    have y2 := (blk_cell HTY.out 2).trans rfl
    have y3 := (blk_cell HTY.out 3).trans rfl
    have y4 := (blk_cell HTY.out 4).trans rfl
    go_wp2_with (with_reducible refine stop_store rfl ?_)
    refine store_blk rfl rfl 40 _ _ rfl (q := f) (i := 0) (cur' := opArr o) (opArr o).toList rfl rfl rfl (by kernel_rfl) (by intro u hu; simp at hu; rcases hu with rfl | rfl | rfl | rfl | rfl <;> rfl) HFY.out (by simp) rfl ?_
    intro wz hz hgz
    have HRZ := Aside0.mk ((hgz.block rb (blk_lt HGY.out) (fun e => HFT.out (Option.some.inj e).symm)).trans HGY.out)
    have HXZ := Aside0.mk (HXY.out.then_ (Frm.of_grown (S := fun k => k = f) hgz (fun k e => (Option.some.inj e).symm)) (fun k hk hlt => by have := HFW.out; omega))
    clear hgz y0 y1 y2 y3 y4
    go_wp2
    refine bodyPost_ret (results_cell_row rfl _ _ f 40 (opArr o) (0, 0) _ rfl hz Try.underlying40 rfl (by kernel_rfl)) rfl ?_
    exact ⟨rfl, HRZ.out, HXZ.out⟩

abbrev entZero : Array Value := #[.int .i64 0, .int .i64 0, .int .i64 0, .int .i64 0, .int .i64 0, .slice none 0 0]
/-- Ops stand at place i, up to q. -/
def OpsAt (l : List Int) : Int → List S40 → Int → Prop
  | i, [], q => q = i
  | i, o :: os, q => ∃ q', OpAt l i o q' ∧ OpsAt l q' os q
/-- An entry stands at place i, up to q. -/
def EntAt (l : List Int) (i s v k se rq : Int) (ops : List S40) (q : Int) : Prop :=
  ∃ q1 q2 q3 q4 q5 q6, readNum l i = (s, q1, 0) ∧ readNum l q1 = (v, q2, 0) ∧ readNum l q2 = (k, q3, 0) ∧ readNum l q3 = (se, q4, 0) ∧ readNum l q4 = (rq, q5, 0) ∧ readNum l q5 = ((ops.length : Int), q6, 0) ∧ OpsAt l q6 ops q
theorem R40_frm {W W1 : World} {base q ty : Nat} {v : Value} {l : List S40} {cs : Array Value} (h : R40 W base v l) (hq : W.heap[q]? = some (.cells cs ty (0, 0))) (ht : ty ≠ 40) (hf : Frm W W1 (fun k => k = q)) : R40 W1 base v l := by
  have h2 := Kd.R_types h hq (t := ty) (fun t ht2 => by rw [k40_only ht2]; exact fun e => ht e.symm)
  exact Kd.R_mono (Kd.R_step h2 (fun k hk hlt => hf.block k hlt (fun e => hk.2 e))) (fun _ _ => trivial)
set_option maxHeartbeats 8000000 in
set_option maxRecDepth 100000 in
theorem get_list (w0 w : World) (rb n c : Nat) (A : Option Addr) (l : List Int) (at_ q1 q : Int) (ops : List S40) (m : Nat) (hm2 : ops.length = m) (hm1 : m ≤ 1000000) (hn : l.length = n) (hc : n ≤ c) (hok : bytesOk l = true) (hm : n ≤ 140737488355328) (hC : C8 w0 A n l) (hB : Below w0.heap.size w0 w) (hrb : w0.heap.size ≤ rb) (hg : w.heap[rb]? = some (.cells #[.slice A n c, .int .i64 at_] 163 (0, 0)))
    (hr1 : readNum l at_ = ((m : Int), q1, 0)) (hr2 : OpsAt l q1 ops q) :
    Calls Try.prog 106 #[.pointer (some ⟨rb, 0, none⟩), .func (.func 107) #[] #[]] w fun e w' => ∃ V, e = .returned V ∧ R40 w' w.heap.size V ops ∧ w'.heap[rb]? = some (.cells #[.slice A n c, .int .i64 q] 163 (0, 0)) ∧ Frm w w' (fun k => k = rb) := by
  have HN := Aside0.mk hn
  have HC := Aside0.mk hC
  have HCC := Aside0.mk hc
  have HOK := Aside0.mk hok
  have HM := Aside0.mk hm
  have HM2 := Aside0.mk hm2
  have HR2 := Aside0.mk hr2
  have HB := Aside0.mk hB
  have HRB := Aside0.mk hrb
  have HG := Aside0.mk hg
  clear hn hc hok hm hC hB hrb hg hm2 hr2
  go_enter Try.func106, Try.ntmps106
  go_wp2_with fail
  refine (nr_number w0 w rb n c A l at_ (m : Int) q1 HN.out HCC.out HOK.out HM.out HC.out HB.out HG.out hr1).mono ?_
  rintro e1 v1 ⟨rfl, hg1, hf1⟩
  have HG1 := Aside0.mk hg1
  have HX1 := Aside0.mk hf1
  have HW := Aside0.mk (blk_lt HG.out)
  clear hg1 hf1 hr1 HG
  go_wp2
  go_loopw [5, 8] (fun v5 v8 wr => ∃ i : Nat, i ≤ m ∧ v8 = .int .i64 (i : Int) ∧ Aside0 (R40 wr w.heap.size v5 (ops.take i)) ∧ ∃ qi : Int, Aside0 (OpsAt l qi (ops.drop i) q) ∧ Aside0 (wr.heap[rb]? = some (.cells #[.slice A n c, .int .i64 qi] 163 (0, 0))) ∧ Aside0 (Frm w wr (fun k => k = rb))) (fun v5 v8 _ => m - (intOf v8).toNat)
  case atStart => exact ⟨0, Nat.zero_le _, rfl, ⟨by rw [List.take_zero]; exact Kd.R_nil _ _ _ _ _⟩, q1, ⟨by rw [List.drop_zero]; exact HR2.out⟩, HG1, HX1⟩
  case round =>
    clear HG1 HX1 HR2
    obtain ⟨i, hi, rfl, HO, qi, HQ, HGI, HXI⟩ := hrel
    by_cases hlt : i < m
    · have hd1 : decide ((i : Int) < (m : Int)) = true := decide_eq_true (by omega)
      have hd2 : decide (i < m) = true := decide_eq_true hlt
      have hil : i < ops.length := by rw [HM2.out]; exact hlt
      obtain ⟨o, ho⟩ : ∃ o, o = ops[i] := ⟨_, rfl⟩
      have hdr : ops.drop i = o :: ops.drop (i + 1) := by rw [ho]; exact List.drop_eq_getElem_cons hil
      have htk : ops.take (i + 1) = ops.take i ++ [o] := by rw [ho]; exact List.take_succ_eq_append_getElem hil
      have hq := HQ.out
      rw [hdr] at hq
      obtain ⟨q', hq1, hq2⟩ := hq
      have HQ2 := Aside0.mk hq2
      have HTK := Aside0.mk htk
      have hBI := below_frm HB.out HXI.out (N := w0.heap.size) (fun k hk => by rw [hk]; exact HRB.out) (Nat.le_refl _)
      clear hq2 htk hdr ho hil
      go_wp2_with fail
      refine (get_op w0 wr rb n c A l qi q' o HN.out HCC.out HOK.out HM.out HC.out hBI HRB.out HGI.out hq1).mono ?_
      rintro e2 v2 ⟨rfl, hg2, hf2⟩
      have HG2 := Aside0.mk hg2
      have HX2 := Aside0.mk (HXI.out.then_ hf2 (fun k hk _ => hk))
      have HO2 := Aside0.mk (R40_frm HO.out HGI.out (by decide) hf2)
      clear hg2 hf2 hq1 hBI
      go_wp2_with (with_reducible refine stop_append rfl ?_)
      refine appOp (v := u5) (xs := ops.take i) v2 w.heap.size rfl _ _ rfl o rfl rfl HO2.out (Below.refl _ _) HX2.out.size (by rw [List.length_take]; omega) ?_
      intro v3 w3 ho3 hb3 hg3 hat3
      have HO3 := Aside0.mk (show R40 w3 w.heap.size v3 (ops.take (i + 1)) by rw [HTK.out]; exact ho3)
      have HG3 := Aside0.mk ((hg3.block rb (blk_lt HG2.out) (fun e => absurd (typed_ne ⟨_, HG2.out⟩ (R40_type HO2.out rb e.symm)) (by decide))).trans HG2.out)
      have HX3 := Aside0.mk (HX2.out.then_ (Frm.of_grown (S := fun k => u5.ownBlock = some k) hg3 (fun k e => e)) (fun k hk hlt => absurd hlt (by have := Kd.R_base HO2.out k hk; omega)))
      clear ho3 hb3 hg3 hat3
      go_wp2
      go_roundw
      case rel => exact ⟨i + 1, by omega, by go_num, HO3, q', HQ2, HG3, HX3⟩
      case measure => simp [intOf]; omega
    · have hd1 : decide ((i : Int) < (m : Int)) = false := decide_eq_false (by omega)
      have hd2 : decide (i < m) = false := decide_eq_false hlt
      have hdr : ops.drop i = [] := List.drop_of_length_le (by rw [HM2.out]; omega)
      have htk : ops.take i = ops := List.take_of_length_le (by rw [HM2.out]; omega)
      have hq := HQ.out
      rw [hdr] at hq
      obtain rfl : q = qi := hq
      rw [htk] at HO
      clear hdr htk
      go_wp2; go_ret
      exact ⟨_, rfl, HO.out, HGI.out, HXI.out⟩
set_option maxHeartbeats 8000000 in
set_option maxRecDepth 100000 in
theorem nr_end (w : World) (rb n c : Nat) (A : Option Addr) (hg : w.heap[rb]? = some (.cells #[.slice A n c, .int .i64 (n : Int)] 163 (0, 0))) :
    Calls Try.prog 100 #[.pointer (some ⟨rb, 0, none⟩)] w fun e w' => (∃ v, e = .returned v) ∧ Below w.heap.size w w' := by
  have hu163 := Try.underlying163
  have k0 : w.cell? ⟨rb, 0, none⟩ = some (.slice A n c) := blk_cell hg 0
  have k1 : w.cell? ⟨rb, 1, none⟩ = some (.int .i64 (n : Int)) := blk_cell hg 1
  clear hg
  go_enter Try.func100, Try.ntmps100
  go_wp2_with fail
  go_quiet (fail)
  go_wp2
  go_end0
  exact ⟨⟨_, rfl⟩, Drawn0.below ⟨⟨nq, rfl⟩⟩⟩
set_option maxHeartbeats 8000000 in
set_option maxRecDepth 100000 in
theorem get_entry (w0 w : World) (rb n c : Nat) (A : Option Addr) (l : List Int) (at_ q s v k se rq : Int) (ops : List S40) (m : Nat) (hm2 : ops.length = m) (hm1 : m ≤ 1000000) (hn : l.length = n) (hc : n ≤ c) (hok : bytesOk l = true) (hm : n ≤ 140737488355328) (hC : C8 w0 A n l) (hB : Below w0.heap.size w0 w) (hrb : w0.heap.size ≤ rb) (hg : w.heap[rb]? = some (.cells #[.slice A n c, .int .i64 at_] 163 (0, 0))) (hr : EntAt l at_ s v k se rq ops q) :
    Calls Try.prog 99 #[.pointer (some ⟨rb, 0, none⟩)] w fun e w' => ∃ V, e = .returned (.agg #[.int .i64 s, .int .i64 v, .int .i64 k, .int .i64 se, .int .i64 rq, V]) ∧ R40 w' w.heap.size V ops ∧ w'.heap[rb]? = some (.cells #[.slice A n c, .int .i64 q] 163 (0, 0)) ∧ Frm w w' (fun k => k = rb) := by
  obtain ⟨q1, q2, q3, q4, q5, q6, hr1, hr2, hr3, hr4, hr5, hr6, hr7⟩ := hr
  rw [hm2] at hr6
  have hu24 := Try.underlying24
  have HN := Aside0.mk hn
  have HC := Aside0.mk hC
  have HCC := Aside0.mk hc
  have HOK := Aside0.mk hok
  have HM := Aside0.mk hm
  have HM2 := Aside0.mk hm2
  have HM1 := Aside0.mk hm1
  have HR1 := Aside0.mk hr1
  have HR2 := Aside0.mk hr2
  have HR3 := Aside0.mk hr3
  have HR4 := Aside0.mk hr4
  have HR5 := Aside0.mk hr5
  have HR6 := Aside0.mk hr6
  have HR7 := Aside0.mk hr7
  have HG := Aside0.mk hg
  have HB := Aside0.mk hB
  have HRB := Aside0.mk hrb
  clear hn hc hok hm hC hB hg hr1 hr2 hr3 hr4 hr5 hr6 hr7 hrb hm1 hm2
  go_enter Try.func99, Try.ntmps99
  go_wp2_with fail
  obtain ⟨f, hf⟩ : ∃ f, f = w.heap.size := ⟨_, rfl⟩
  obtain ⟨v0, hv0⟩ : ∃ v0, v0 = w.alloc (.cells entZero 24) := ⟨_, rfl⟩
  rw [← hv0, ← hf]
  have HW1 := Aside0.mk (show Below w.heap.size w v0 by rw [hv0]; exact below_alloc (Below.refl _ _) _)
  have HF0 := Aside0.mk (show v0.heap[f]? = some (.cells entZero 24 (0, 0)) by rw [hv0, hf]; exact heap_alloc_new w _)
  have HB0 := Aside0.mk (below_step HB.out HW1.out)
  have HX0 := Aside0.mk (Frm.of_below HW1.out (fun k => k = rb))
  have HG0 := Aside0.mk ((HW1.out.block rb (blk_lt HG.out)).trans HG.out)
  have HFT := Aside0.mk (show f ≠ rb by have := blk_lt HG.out; omega)
  have HFW := Aside0.mk (show w.heap.size ≤ f by omega)
  clear hf hv0 HW1 HG HB
  refine (nr_number w0 v0 rb n c A l at_ s q1 HN.out HCC.out HOK.out HM.out HC.out HB0.out HG0.out HR1.out).mono ?_
  rintro e1 v1 ⟨rfl, hg1, hf1⟩
  have HG1 := Aside0.mk hg1
  have HB1 := Aside0.mk (below_frm HB0.out hf1 (N := w0.heap.size) (fun k hk => by rw [hk]; exact HRB.out) (Nat.le_refl _))
  have HX1 := Aside0.mk (HX0.out.then_ hf1 (fun k hk _ => hk))
  have HF1 := Aside0.mk (hf1.blk HF0.out (fun e => HFT.out e))
  clear hg1 hf1 HG0 HB0 HX0 HF0
  go_wp2_with fail
  refine (nr_number w0 v1 rb n c A l q1 v q2 HN.out HCC.out HOK.out HM.out HC.out HB1.out HG1.out HR2.out).mono ?_
  rintro e2 v2 ⟨rfl, hg2, hf2⟩
  have HG2 := Aside0.mk hg2
  have HB2 := Aside0.mk (below_frm HB1.out hf2 (N := w0.heap.size) (fun k hk => by rw [hk]; exact HRB.out) (Nat.le_refl _))
  have HX2 := Aside0.mk (HX1.out.then_ hf2 (fun k hk _ => hk))
  have HF2 := Aside0.mk (hf2.blk HF1.out (fun e => HFT.out e))
  clear hg2 hf2 HG1 HB1 HX1 HF1
  go_wp2_with fail
  refine (nr_number w0 v2 rb n c A l q2 k q3 HN.out HCC.out HOK.out HM.out HC.out HB2.out HG2.out HR3.out).mono ?_
  rintro e3 v3 ⟨rfl, hg3, hf3⟩
  have HG3 := Aside0.mk hg3
  have HB3 := Aside0.mk (below_frm HB2.out hf3 (N := w0.heap.size) (fun k hk => by rw [hk]; exact HRB.out) (Nat.le_refl _))
  have HX3 := Aside0.mk (HX2.out.then_ hf3 (fun k hk _ => hk))
  have HF3 := Aside0.mk (hf3.blk HF2.out (fun e => HFT.out e))
  clear hg3 hf3 HG2 HB2 HX2 HF2
  go_wp2_with fail
  refine (nr_number w0 v3 rb n c A l q3 se q4 HN.out HCC.out HOK.out HM.out HC.out HB3.out HG3.out HR4.out).mono ?_
  rintro e4 v4 ⟨rfl, hg4, hf4⟩
  have HG4 := Aside0.mk hg4
  have HB4 := Aside0.mk (below_frm HB3.out hf4 (N := w0.heap.size) (fun k hk => by rw [hk]; exact HRB.out) (Nat.le_refl _))
  have HX4 := Aside0.mk (HX3.out.then_ hf4 (fun k hk _ => hk))
  have HF4 := Aside0.mk (hf4.blk HF3.out (fun e => HFT.out e))
  clear hg4 hf4 HG3 HB3 HX3 HF3
  go_wp2_with fail
  refine (nr_number w0 v4 rb n c A l q4 rq q5 HN.out HCC.out HOK.out HM.out HC.out HB4.out HG4.out HR5.out).mono ?_
  rintro e5 v5 ⟨rfl, hg5, hf5⟩
  have HG5 := Aside0.mk hg5
  have HB5 := Aside0.mk (below_frm HB4.out hf5 (N := w0.heap.size) (fun k hk => by rw [hk]; exact HRB.out) (Nat.le_refl _))
  have HX5 := Aside0.mk (HX4.out.then_ hf5 (fun k hk _ => hk))
  have HF5 := Aside0.mk (hf5.blk HF4.out (fun e => HFT.out e))
  clear hg5 hf5 HG4 HB4 HX4 HF4
  go_wp2_with fail
  refine (get_list w0 v5 rb n c A l q5 q6 q ops m HM2.out HM1.out HN.out HCC.out HOK.out HM.out HC.out HB5.out HRB.out HG5.out HR6.out HR7.out).mono ?_
  rintro e6 v6 ⟨V, rfl, ho6, hg6, hf6⟩
  have HG6 := Aside0.mk hg6
  have HX6 := Aside0.mk (HX5.out.then_ hf6 (fun k hk _ => hk))
  have HF6 := Aside0.mk (hf6.blk HF5.out (fun e => HFT.out e))
  have HO6 := Aside0.mk (Kd.R_lower ho6 HX5.out.size)
  clear hg6 hf6 ho6 HG5 HB5 HX5 HF5
  obtain ⟨B, mm, cb, rfl, hmm, hcb, _⟩ := R40_form HO6.out
  clear hmm hcb
  go_wp2_with (with_reducible refine stop_store rfl ?_)
  refine store_blk rfl rfl 24 _ _ rfl (q := f) (i := 0) (cur' := #[.int .i64 s, .int .i64 v, .int .i64 k, .int .i64 se, .int .i64 rq, .slice B mm cb]) [.int .i64 s, .int .i64 v, .int .i64 k, .int .i64 se, .int .i64 rq, .slice B mm cb] rfl rfl rfl (by kernel_rfl) (by intro u hu; simp at hu; rcases hu with rfl | rfl | rfl | rfl | rfl | rfl <;> rfl) HF6.out (by simp) rfl ?_
  intro wz hz hgz
  have HRZ := Aside0.mk ((hgz.block rb (blk_lt HG6.out) (fun e => HFT.out (Option.some.inj e).symm)).trans HG6.out)
  have HXZ := Aside0.mk (HX6.out.then_ (Frm.of_grown (S := fun k => k = f) hgz (fun k e => (Option.some.inj e).symm)) (fun k hk hlt => by have := HFW.out; omega))
  have HOZ := Aside0.mk (R40_frm HO6.out HF6.out (by decide) (Frm.of_grown (S := fun k => k = f) hgz (fun k e => (Option.some.inj e).symm)))
  clear hgz
  go_wp2
  refine bodyPost_ret (results_cell_row rfl _ _ f 24 #[.int .i64 s, .int .i64 v, .int .i64 k, .int .i64 se, .int .i64 rq, .slice B mm cb] (0, 0) _ rfl hz Try.underlying24 rfl (by kernel_rfl)) rfl ?_
  exact ⟨_, rfl, HOZ.out, HRZ.out, HXZ.out⟩

abbrev entArr (s v k se rq : Int) (V : Value) : Array Value := #[.int .i64 s, .int .i64 v, .int .i64 k, .int .i64 se, .int .i64 rq, V]
set_option maxHeartbeats 8000000 in
set_option maxRecDepth 100000 in
theorem dec_in (w : World) (d e n c : Nat) (A : Option Addr) (l : List Int) (s v k se rq : Int) (ops : List S40) (m : Nat) (hm2 : ops.length = m) (hm1 : m ≤ 1000000) (hn : l.length = n) (hc : n ≤ c) (hok : bytesOk l = true) (hm : n ≤ 140737488355328) (hC : C8 w A n l) (hd : w.heap[d]? = some (.cells #[.slice A n c] 29 (0, 0))) (he : w.heap[e]? = some (.cells entZero 24 (0, 0))) (hr : EntAt l 0 s v k se rq ops (n : Int)) :
    Calls Try.prog 98 #[.pointer (some ⟨d, 0, none⟩), .pointer (some ⟨e, 0, none⟩)] w fun r w' => (∃ x, r = .returned x) ∧ ∃ V, R40 w' w.heap.size V ops ∧ w'.heap[e]? = some (.cells (entArr s v k se rq V) 24 (0, 0)) ∧ Frm w w' (fun k => k = e) := by
  have hu163 := Try.underlying163
  have hu24 := Try.underlying24
  have d0 := (blk_cell hd 0).trans rfl
  have HN := Aside0.mk hn
  have HC := Aside0.mk hC
  have HCC := Aside0.mk hc
  have HOK := Aside0.mk hok
  have HM := Aside0.mk hm
  have HM2 := Aside0.mk hm2
  have HM1 := Aside0.mk hm1
  have HD := Aside0.mk hd
  have HE := Aside0.mk he
  have HR := Aside0.mk hr
  clear hn hc hok hm hC hd he hr hm1 hm2
  go_enter Try.func98, Try.ntmps98
  go_wp2_with fail
  obtain ⟨rb, hrb⟩ : ∃ rb, rb = w.heap.size := ⟨_, rfl⟩
  obtain ⟨v1, hv1⟩ : ∃ v1, v1 = w.alloc (.cells #[.slice A n c, .int .i64 0] 163) := ⟨_, rfl⟩
  rw [← hv1, ← hrb]
  have HW1 := Aside0.mk (show Below w.heap.size w v1 by rw [hv1]; exact below_alloc (Below.refl _ _) _)
  have HG1 := Aside0.mk (show v1.heap[rb]? = some (.cells #[.slice A n c, .int .i64 0] 163 (0, 0)) by rw [hv1, hrb]; exact heap_alloc_new w _)
  have HRB := Aside0.mk (show w.heap.size ≤ rb by omega)
  have HE1 := Aside0.mk ((HW1.out.block e (blk_lt HE.out)).trans HE.out)
  have HER := Aside0.mk (show e ≠ rb by have := blk_lt HE.out; omega)
  clear hrb hv1 d0
  refine (get_entry w v1 rb n c A l 0 (n : Int) s v k se rq ops m HM2.out HM1.out HN.out HCC.out HOK.out HM.out HC.out HW1.out HRB.out HG1.out HR.out).mono ?_
  rintro r2 v2 ⟨V, rfl, ho2, hg2, hf2⟩
  have HG2 := Aside0.mk hg2
  have HE2 := Aside0.mk (hf2.blk HE1.out (fun x => HER.out x))
  have HX2 := Aside0.mk ((Frm.of_below HW1.out (fun _ => False)).then_ hf2 (fun k hk hlt => by have := HRB.out; omega))
  have HO2 := Aside0.mk (Kd.R_lower ho2 HW1.out.size)
  clear ho2 hg2 hf2 HE1 HG1
  obtain ⟨B, mm, cb, rfl, hmm, hcb, _⟩ := R40_form HO2.out
  clear hmm hcb
  go_wp2_with (with_reducible refine stop_store rfl ?_)
  refine store_blk rfl rfl 24 _ _ rfl (q := e) (i := 0) (cur' := entArr s v k se rq (.slice B mm cb)) [.int .i64 s, .int .i64 v, .int .i64 k, .int .i64 se, .int .i64 rq, .slice B mm cb] rfl rfl rfl (by kernel_rfl) (by intro u hu; simp at hu; rcases hu with rfl | rfl | rfl | rfl | rfl | rfl <;> rfl) HE2.out (by simp) rfl ?_
  intro v3 hz hgz
  have HE3 := Aside0.mk hz
  have HG3 := Aside0.mk ((hgz.block rb (blk_lt HG2.out) (fun x => HER.out (Option.some.inj x).symm)).trans HG2.out)
  have HX3 := Aside0.mk ((HX2.out.mono (S1 := fun k => k = e) (fun k hk _ => hk.elim)).then_ (Frm.of_grown (S := fun k => k = e) hgz (fun k e => (Option.some.inj e).symm)) (fun k hk _ => hk))
  have HO3 := Aside0.mk (R40_frm HO2.out HE2.out (by decide) (Frm.of_grown (S := fun k => k = e) hgz (fun k e => (Option.some.inj e).symm)))
  clear hz hgz HE2 HG2 HX2 HO2
  go_wp2_with fail
  refine (nr_end v3 rb n c A HG3.out).mono ?_
  rintro r4 v4 ⟨⟨x4, rfl⟩, hb4⟩
  have HB4 := Aside0.mk hb4
  clear hb4
  go_wp2
  go_end0
  exact ⟨⟨_, rfl⟩, _, Kd.R_below HO3.out HB4.out, (HB4.out.block e (blk_lt HE3.out)).trans HE3.out, HX3.out.step HB4.out⟩
/-- The deferred closure of guarded, where nothing panics. -/
theorem guard_idle (a : Value) (w : World) :
    CallsD Try.prog 104 #[a] .returning w fun e u' w' => e = .returned (.tuple #[]) ∧ u' = .returning ∧ w' = w := by
  refine callsD_of_wpS Try.func104 rfl fun c₀ cs hu => ?_
  apply wpS_seq
  apply wpS_region
  simp [wpOpsS, go_sem, recoverD, hu, Try.ntmps104, Exit.thenS]
  apply wpS_seq
  apply wpS_region
  simp [wpOpsS, go_sem, Exit.thenS]
  refine wpS_cond (t := false) (by simp [Act.eval, Array.replicate]) ?_
  simp only [Bool.false_eq_true, if_false]
  refine wpS_of_wp (wp_skip ?_)
  cases c₀
  simp_all [bodyPostS, results, Try.results104]
theorem results97_row (tmps : Array Value) (w : World) (p : Nat) (b : Bool) (h2 : tmps[2]? = some (.pointer (some ⟨p, 0, none⟩))) (c2 : w.cell? ⟨p, 0, none⟩ = some (.bool b)) :
    (results Try.f97 tmps).run Try.prog w = .ok (.bool b) w := by
  have hl2 : (loadVar 4 ⟨p, 0, none⟩).run Try.prog w = .ok (.bool b) w := by simp [go_sem, c2]
  simp [results, Try.results97, h2, asAddr, hl2, Sem.run_bind, Sem.run_pure, Result.andThen_ok]
theorem door97 {R : Ending → World → Prop} {a : Act} {w : World} {p v : Value} (hd : a.defers = [{ target := .fn (.func 104) #[p], args := #[] }]) (hres : (results Try.f97 a.tmps).run Try.prog w = .ok v w) (hR : R (.returned v) w) :
    bodyPostD Try.prog Try.f97 R Exit.ret a w := by
  show Leaves Try.prog Try.f97 a.tmps R a.defers .returning w
  rw [hd]
  refine leaves_cons (f := 104) (args := #[p]) (by simp) (by simp [go_sem]) ?_
  refine (guard_idle _ _).mono ?_
  rintro e u' w'' ⟨rfl, rfl, rfl⟩
  exact ⟨v, hres, hR⟩
set_option maxHeartbeats 8000000 in
set_option maxRecDepth 100000 in
theorem guarded_in (w : World) (d e n c : Nat) (A : Option Addr) (l : List Int) (s v k se rq : Int) (ops : List S40) (m : Nat) (hm2 : ops.length = m) (hm1 : m ≤ 1000000) (hn : l.length = n) (hc : n ≤ c) (hok : bytesOk l = true) (hm : n ≤ 140737488355328) (hC : C8 w A n l) (hd : w.heap[d]? = some (.cells #[.slice A n c] 29 (0, 0))) (he : w.heap[e]? = some (.cells entZero 24 (0, 0))) (hr : EntAt l 0 s v k se rq ops (n : Int)) :
    Calls Try.prog 97 #[.func (.func 98) #[] #[.pointer (some ⟨d, 0, none⟩), .pointer (some ⟨e, 0, none⟩)]] w fun r w' => r = .returned (.bool true) ∧ ∃ V, R40 w' w.heap.size V ops ∧ w'.heap[e]? = some (.cells (entArr s v k se rq V) 24 (0, 0)) ∧ Frm w w' (fun k => k = e) := by
  have hmf : ∀ (fn : Fn) (first cap : Array Value) (w : World), (Instr.makeFunc fn first cap).run Try.prog w = .ok (.func fn first cap) w := fun _ _ _ _ => rfl
  have HN := Aside0.mk hn
  have HC := Aside0.mk hC
  have HCC := Aside0.mk hc
  have HOK := Aside0.mk hok
  have HM := Aside0.mk hm
  have HM2 := Aside0.mk hm2
  have HM1 := Aside0.mk hm1
  have HD := Aside0.mk hd
  have HE := Aside0.mk he
  have HR := Aside0.mk hr
  clear hn hc hok hm hC hd he hr hm1 hm2
  go_enter_defers Try.func97, Try.ntmps97
  go_wp2_with fail
  obtain ⟨p, hp⟩ : ∃ p, p = w.heap.size := ⟨_, rfl⟩
  obtain ⟨v1, hv1⟩ : ∃ v1, v1 = w.alloc (.cells #[.bool false] 4) := ⟨_, rfl⟩
  rw [← hv1, ← hp]
  have HW1 := Aside0.mk (show Below w.heap.size w v1 by rw [hv1]; exact below_alloc (Below.refl _ _) _)
  have HP1 := Aside0.mk (show v1.heap[p]? = some (.cells #[.bool false] 4 (0, 0)) by rw [hv1, hp]; exact heap_alloc_new w _)
  have HPW := Aside0.mk (show w.heap.size ≤ p by omega)
  have HPE := Aside0.mk (show p ≠ e by have := blk_lt HE.out; omega)
  clear hv1 hp
  refine (dec_in v1 d e n c A l s v k se rq ops m HM2.out HM1.out HN.out HCC.out HOK.out HM.out (Kd.C_below HC.out HW1.out) ((HW1.out.block d (blk_lt HD.out)).trans HD.out) ((HW1.out.block e (blk_lt HE.out)).trans HE.out) HR.out).mono ?_
  rintro r2 v2 ⟨⟨x2, rfl⟩, V, ho2, he2, hf2⟩
  have HE2 := Aside0.mk he2
  have HO2 := Aside0.mk (Kd.R_lower ho2 HW1.out.size)
  have HX2 := Aside0.mk ((Frm.of_below HW1.out (fun k => k = e)).then_ hf2 (fun k hk _ => hk))
  have HP2 := Aside0.mk (hf2.blk HP1.out (fun x => HPE.out x))
  clear he2 ho2 hf2
  have c2 := (blk_cell HP2.out 0).trans rfl
  have z2 := blk_frozen HP2.out 0
  go_wp2
  clear c2 z2
  obtain ⟨wz, hwz⟩ : ∃ wz, wz = v2.setCell ⟨p, 0, none⟩ (.bool true) := ⟨_, rfl⟩
  rw [← hwz]
  have k1 : wz.cell? ⟨p, 0, none⟩ = some (.bool true) := by rw [hwz]; exact World.cell?_setCell_same' _ _ _ (by rw [blk_cell HP2.out 0]; rfl)
  have k2 : wz.heap[e]? = some (.cells (entArr s v k se rq V) 24 (0, 0)) := by rw [hwz]; exact blk_far HE2.out (by simp only; exact fun x => HPE.out x.symm) _
  have k3 : R40 wz w.heap.size V ops := by rw [hwz]; exact Kd.R_set HO2.out HP2.out (fun t ht => by rw [k40_only ht]; decide) 0 _
  have k4 : Frm w wz (fun k => k = e) := by rw [hwz]; exact HX2.out.set_ (p := ⟨p, 0, none⟩) (.inr HPW.out) _
  exact door97 rfl (results97_row _ _ p _ rfl k1) ⟨rfl, V, k3, k2, k4⟩

/-- A view's record. -/
abbrev viewCells (x y z : Int) : Array Value := #[.int .i64 2, .int .i64 0, .int .i64 0, .int .i64 0, .int .i64 0, .int .i64 0, .slice none 0 0, .int .i64 x, .int .i64 y, .int .i64 z, .int .i64 0, .int .i64 0, .string ⟨#[]⟩]
abbrev zeroCells : Array Value := #[.int .i64 0, .int .i64 0, .int .i64 0, .int .i64 0, .int .i64 0, .int .i64 0, .slice none 0 0, .int .i64 0, .int .i64 0, .int .i64 0, .int .i64 0, .int .i64 0, .string ⟨#[]⟩]
set_option maxHeartbeats 8000000 in
set_option maxRecDepth 100000 in
theorem rd_view (w0 w : World) (rb n c : Nat) (A : Option Addr) (l : List Int) (x1 q1 x2 q2 x3 : Int) (hn : l.length = n) (hc : n ≤ c) (hok : bytesOk l = true) (hm : n ≤ 140737488355328) (hC : C8 w0 A n l) (hB : Below w0.heap.size w0 w) (hrb : w0.heap.size ≤ rb) (hg : w.heap[rb]? = some (.cells #[.slice A n c, .int .i64 0] 147 (0, 0)))
    (hr1 : readNum l 0 = (x1, q1, 0)) (hr2 : readNum l q1 = (x2, q2, 0)) (hr3 : readNum l q2 = (x3, (n : Int), 0)) :
    Calls Try.prog 84 #[.pointer (some ⟨rb, 0, none⟩), .int .i64 2] w fun e w' => e = .returned (.agg (viewCells x1 x2 x3)) ∧ Frm w w' (fun k => k = rb) := by
  have hu28 := Try.underlying28
  have hu26 := Try.underlying26
  have hu147 := Try.underlying147
  have HN := Aside0.mk hn
  have HC := Aside0.mk hC
  have HCC := Aside0.mk hc
  have HOK := Aside0.mk hok
  have HM := Aside0.mk hm
  have HR1 := Aside0.mk hr1
  have HR2 := Aside0.mk hr2
  have HR3 := Aside0.mk hr3
  have HG := Aside0.mk hg
  have HB := Aside0.mk hB
  have HRB := Aside0.mk hrb
  clear hn hc hok hm hC hB hg hr1 hr2 hr3 hrb
  go_enter Try.func84, Try.ntmps84
  go_wp2_with fail
  obtain ⟨f, hf⟩ : ∃ f, f = w.heap.size := ⟨_, rfl⟩
  obtain ⟨g, hg⟩ : ∃ g, g = w.heap.size + 1 := ⟨_, rfl⟩
  obtain ⟨va, hva⟩ : ∃ va, va = w.alloc (.cells zeroCells 28) := ⟨_, rfl⟩
  obtain ⟨v0, hv0⟩ : ∃ v0, v0 = va.alloc (.cells (viewCells 0 0 0) 28) := ⟨_, rfl⟩
  have hsz : va.heap.size = w.heap.size + 1 := by rw [hva]; simp
  rw [← hva, ← hv0, ← hg, ← hf]
  have HW1 := Aside0.mk (show Below w.heap.size w v0 by rw [hv0]; exact (below_step (w := w) (W := va) (by rw [hva]; exact below_alloc (Below.refl _ _) _) (below_alloc (Below.refl _ _) _)))
  have HF0 := Aside0.mk (show v0.heap[f]? = some (.cells zeroCells 28 (0, 0)) by
    rw [hv0]
    refine (Below.heap_alloc _ _ _ (by omega)).trans ?_
    rw [hva, hf]; exact heap_alloc_new w _)
  have HT0 := Aside0.mk (show v0.heap[g]? = some (.cells (viewCells 0 0 0) 28 (0, 0)) by rw [hv0, hg, ← hsz]; exact heap_alloc_new va _)
  have HB0 := Aside0.mk (below_step HB.out HW1.out)
  have HX0 := Aside0.mk (Frm.of_below HW1.out (fun k => k = rb))
  have HG0 := Aside0.mk ((HW1.out.block rb (blk_lt HG.out)).trans HG.out)
  have HFT := Aside0.mk (show f ≠ rb ∧ g ≠ rb by have := blk_lt HG.out; omega)
  have HFG := Aside0.mk (show f ≠ g ∧ w.heap.size ≤ f ∧ w.heap.size ≤ g by omega)
  clear hf hg hva hv0 hsz HW1 HG HB
  refine (rd_number w0 v0 rb n c A l 0 x1 q1 HN.out HCC.out HOK.out HM.out HC.out HB0.out HG0.out HR1.out).mono ?_
  rintro e1 v1 ⟨rfl, hg1, hf1⟩
  have HG1 := Aside0.mk hg1
  have HB1 := Aside0.mk (below_frm HB0.out hf1 (N := w0.heap.size) (fun k hk => by rw [hk]; exact HRB.out) (Nat.le_refl _))
  have HF1 := Aside0.mk (hf1.blk HF0.out (fun e => HFT.out.1 e))
  have HT1 := Aside0.mk (hf1.blk HT0.out (fun e => HFT.out.2 e))
  have HX1 := Aside0.mk (HX0.out.then_ hf1 (fun k hk _ => hk))
  clear hg1 hf1
  go_wp2_with fail
  refine (rd_number w0 v1 rb n c A l q1 x2 q2 HN.out HCC.out HOK.out HM.out HC.out HB1.out HG1.out HR2.out).mono ?_
  rintro e2 v2 ⟨rfl, hg2, hf2⟩
  have HG2 := Aside0.mk hg2
  have HB2 := Aside0.mk (below_frm HB1.out hf2 (N := w0.heap.size) (fun k hk => by rw [hk]; exact HRB.out) (Nat.le_refl _))
  have HF2 := Aside0.mk (hf2.blk HF1.out (fun e => HFT.out.1 e))
  have HT2 := Aside0.mk (hf2.blk HT1.out (fun e => HFT.out.2 e))
  have HX2 := Aside0.mk (HX1.out.then_ hf2 (fun k hk _ => hk))
  clear hg2 hf2
  go_wp2_with fail
  refine (rd_number w0 v2 rb n c A l q2 x3 (n : Int) HN.out HCC.out HOK.out HM.out HC.out HB2.out HG2.out HR3.out).mono ?_
  rintro e3 v3 ⟨rfl, hg3, hf3⟩
  have HG3 := Aside0.mk hg3
  have HB3 := Aside0.mk (below_frm HB2.out hf3 (N := w0.heap.size) (fun k hk => by rw [hk]; exact HRB.out) (Nat.le_refl _))
  have HF3 := Aside0.mk (hf3.blk HF2.out (fun e => HFT.out.1 e))
  have HT3 := Aside0.mk (hf3.blk HT2.out (fun e => HFT.out.2 e))
  have HX3 := Aside0.mk (HX2.out.then_ hf3 (fun k hk _ => hk))
  clear hg3 hf3
  clear HG0 HB0 HF0 HT0 HG1 HB1 HF1 HT1 HG2 HB2 HF2 HT2 HX0 HX1 HX2
  go_wp2_with (with_reducible refine stop_store rfl ?_)
  refine store_blk rfl rfl 26 _ _ rfl (q := g) (i := 7) (cur' := viewCells x1 x2 x3) [.int .i64 x1, .int .i64 x2, .int .i64 x3] rfl rfl rfl (by kernel_rfl) (by intro u hu; simp at hu; rcases hu with rfl | rfl | rfl <;> rfl) HT3.out (by simp) rfl ?_
  intro v4 hg4 hgr
  have hr4 := (hgr.block rb (blk_lt HG3.out) (fun e => HFT.out.2 (Option.some.inj e).symm)).trans HG3.out
  have HF4 := Aside0.mk ((hgr.block f (blk_lt HF3.out) (fun e => HFG.out.1 (Option.some.inj e))).trans HF3.out)
  have HB4 := Aside0.mk (HX3.out.then_ (Frm.of_grown (S := fun k => k = g) hgr (fun k e => (Option.some.inj e).symm)) (fun k hk hlt => by have := HFG.out.2.2; omega))
  have HT4 := Aside0.mk hg4
  have r0 : v4.cell? ⟨rb, 0, none⟩ = some (.slice A n c) := blk_cell hr4 0
  have r1 : v4.cell? ⟨rb, 1, none⟩ = some (.int .i64 (n : Int)) := blk_cell hr4 1
  clear hg4 hgr hr4 HG3 HB3 HF3 HT3
  go_wp2_with fail
  go_quiet (fail)
  obtain ⟨v5, hv5⟩ : ∃ v5, v5 = v4.drewN nq := ⟨_, rfl⟩
  rw [← hv5]
  have hb5 := (show Below v4.heap.size v4 v5 from Drawn0.below ⟨⟨nq, hv5⟩⟩)
  have ht5 : v5.heap[g]? = some (.cells (viewCells x1 x2 x3) 28 (0, 0)) := (hb5.block g (blk_lt HT4.out)).trans HT4.out
  have HF5 := Aside0.mk ((hb5.block f (blk_lt HF4.out)).trans HF4.out)
  have HB5 := Aside0.mk (HB4.out.step hb5)
  have kp0 : v5.cell? ⟨g, 0, none⟩ = some (.int .i64 2) := blk_cell ht5 0
  have kp1 : v5.cell? ⟨g, 1, none⟩ = some (.int .i64 0) := blk_cell ht5 1
  have kp2 : v5.cell? ⟨g, 2, none⟩ = some (.int .i64 0) := blk_cell ht5 2
  have kp3 : v5.cell? ⟨g, 3, none⟩ = some (.int .i64 0) := blk_cell ht5 3
  have kp4 : v5.cell? ⟨g, 4, none⟩ = some (.int .i64 0) := blk_cell ht5 4
  have kp5 : v5.cell? ⟨g, 5, none⟩ = some (.int .i64 0) := blk_cell ht5 5
  have kp6 : v5.cell? ⟨g, 6, none⟩ = some (.slice none 0 0) := blk_cell ht5 6
  have kp7 : v5.cell? ⟨g, 7, none⟩ = some (.int .i64 x1) := blk_cell ht5 7
  have kp8 : v5.cell? ⟨g, 8, none⟩ = some (.int .i64 x2) := blk_cell ht5 8
  have kp9 : v5.cell? ⟨g, 9, none⟩ = some (.int .i64 x3) := blk_cell ht5 9
  have kp10 : v5.cell? ⟨g, 10, none⟩ = some (.int .i64 0) := blk_cell ht5 10
  have kp11 : v5.cell? ⟨g, 11, none⟩ = some (.int .i64 0) := blk_cell ht5 11
  have kp12 : v5.cell? ⟨g, 12, none⟩ = some (.string ⟨#[]⟩) := blk_cell ht5 12
  clear hb5 hv5 HT4 HF4 HB4 r0 r1 ht5
  go_wp2_with (with_reducible refine stop_store rfl ?_)
  refine store_blk rfl rfl 28 _ _ rfl (q := f) (i := 0) (cur' := viewCells x1 x2 x3) (viewCells x1 x2 x3).toList rfl rfl rfl (by kernel_rfl) (by intro u hu; simp at hu; rcases hu with rfl | rfl | rfl | rfl | rfl | rfl | rfl | rfl | rfl <;> rfl) HF5.out (by simp) rfl ?_
  intro v6 hg6 hgr
  have HB6 := Aside0.mk (HB5.out.then_ (Frm.of_grown (S := fun k => k = f) hgr (fun k e => (Option.some.inj e).symm)) (fun k hk hlt => by have := HFG.out.2.1; omega))
  clear hgr HF5 HB5
  go_wp2
  (try simp only [Exit.inBlock, Exit.then])
  refine bodyPost_ret (results_cell_row rfl _ _ f 28 (viewCells x1 x2 x3) (0, 0) _ rfl hg6 Try.underlying28 rfl (by kernel_rfl)) rfl ?_
  exact ⟨rfl, HB6.out⟩

set_option maxHeartbeats 8000000 in
set_option maxRecDepth 100000 in
theorem dec_entry (w : World) (n c : Nat) (A : Option Addr) (l : List Int) (s v k se rq : Int) (ops : List S40) (m : Nat) (hm2 : ops.length = m) (hm1 : m ≤ 1000000) (hn : l.length = n) (hc : n ≤ c) (hok : bytesOk l = true) (hm : n ≤ 262144) (hC : C8 w A n l) (hr : EntAt l 0 s v k se rq ops (n : Int)) (hmay : entOk s v k se rq ops = true) :
    Calls Try.prog 91 #[.slice A n c] w fun r w' => ∃ B cb, r = .returned (.tuple #[.agg (entArr s v k se rq (.slice B m cb)), .int .i64 0]) ∧ R40 w' w.heap.size (.slice B m cb) ops ∧ Below w.heap.size w w' := by
  have hmf : ∀ (fn : Fn) (first cap : Array Value) (w : World), (Instr.makeFunc fn first cap).run Try.prog w = .ok (.func fn first cap) w := fun _ _ _ _ => rfl
  have hu24 := Try.underlying24
  have HN := Aside0.mk hn
  have HC := Aside0.mk hC
  have HCC := Aside0.mk hc
  have HOK := Aside0.mk hok
  have HM := Aside0.mk hm
  have HM2 := Aside0.mk hm2
  have HM1 := Aside0.mk hm1
  have HR := Aside0.mk hr
  have HMAY := Aside0.mk hmay
  have hd1 : decide ((262144 : Int) < (n : Int)) = false := decide_eq_false (by omega)
  have hd2 : decide (262144 < n) = false := decide_eq_false (by omega)
  clear hn hc hok hm hC hr hm1 hm2 hmay
  go_enter Try.func91, Try.ntmps91
  go_wp2_with fail
  obtain ⟨d, hd⟩ : ∃ d, d = w.heap.size := ⟨_, rfl⟩
  obtain ⟨f, hf⟩ : ∃ f, f = w.heap.size + 1 := ⟨_, rfl⟩
  obtain ⟨e, he⟩ : ∃ e, e = w.heap.size + 1 + 1 := ⟨_, rfl⟩
  obtain ⟨va, hva⟩ : ∃ va, va = w.alloc (.cells #[.slice A n c] 29) := ⟨_, rfl⟩
  obtain ⟨vb, hvb⟩ : ∃ vb, vb = va.alloc (.cells entZero 24) := ⟨_, rfl⟩
  obtain ⟨v1, hv1⟩ : ∃ v1, v1 = vb.alloc (.cells entZero 24) := ⟨_, rfl⟩
  rw [← hva, ← hvb, ← hv1, ← he, ← hf, ← hd]
  have hza : va.heap.size = w.heap.size + 1 := by rw [hva]; simp
  have hzb : vb.heap.size = w.heap.size + 1 + 1 := by rw [hvb, ← hza]; simp
  have hba : Below va.heap.size va vb := by rw [hvb]; exact below_alloc (Below.refl _ _) _
  have hbb : Below vb.heap.size vb v1 := by rw [hv1]; exact below_alloc (Below.refl _ _) _
  have HW1 := Aside0.mk (show Below w.heap.size w v1 from below_step (below_step (by rw [hva]; exact below_alloc (Below.refl _ _) _) hba) hbb)
  have HD1 := Aside0.mk (show v1.heap[d]? = some (.cells #[.slice A n c] 29 (0, 0)) by
    refine (hbb.block d (by omega)).trans ((hba.block d (by omega)).trans ?_)
    rw [hva, hd]; exact heap_alloc_new w _)
  have HF1 := Aside0.mk (show v1.heap[f]? = some (.cells entZero 24 (0, 0)) by
    refine (hbb.block f (by omega)).trans ?_
    rw [hvb, hf, ← hza]; exact heap_alloc_new va _)
  have HE1 := Aside0.mk (show v1.heap[e]? = some (.cells entZero 24 (0, 0)) by rw [hv1, he, ← hzb]; exact heap_alloc_new vb _)
  have HFE := Aside0.mk (show f ≠ e ∧ w.heap.size ≤ f ∧ w.heap.size ≤ e by omega)
  clear hd hf he hva hvb hv1 hza hzb hba hbb
  refine (guarded_in v1 d e n c A l s v k se rq ops m HM2.out HM1.out HN.out HCC.out HOK.out (by have := HM.out; omega) (Kd.C_below HC.out HW1.out) HD1.out HE1.out HR.out).mono ?_
  rintro r2 v2 ⟨rfl, V, ho2, he2, hf2⟩
  have HE2 := Aside0.mk he2
  have HO2 := Aside0.mk (Kd.R_lower ho2 HW1.out.size)
  have HX2 := Aside0.mk ((Frm.of_below HW1.out (fun _ => False)).then_ hf2 (fun k hk hlt => by have := HFE.out.2.2; omega))
  have HF2 := Aside0.mk (hf2.blk HF1.out (fun x => HFE.out.1 x))
  clear he2 ho2 hf2 HD1 HE1 HF1
  obtain ⟨B, mm, cb, rfl, hmm, hcb, hCo⟩ := R40_form HO2.out
  obtain rfl : m = mm := by rw [← HM2.out]; exact hmm
  have HCB := Aside0.mk hcb
  have HCO := Aside0.mk hCo
  clear hmm hcb hCo
  have y0 := (blk_cell HE2.out 0).trans rfl
  have y1 := (blk_cell HE2.out 1).trans rfl
  have y2 := (blk_cell HE2.out 2).trans rfl
  have y3 := (blk_cell HE2.out 3).trans rfl
  have y4 := (blk_cell HE2.out 4).trans rfl
  have y5 := (blk_cell HE2.out 5).trans rfl
  go_wp2_with fail
  refine (mayEntry_N s v k se rq B cb m ops v2 HM2.out HCO.out HCB.out).mono ?_
  rintro r3 v3 ⟨rfl, hb3⟩
  rw [HMAY.out]
  have HE3 := Aside0.mk ((hb3.block e (blk_lt HE2.out)).trans HE2.out)
  have HF3 := Aside0.mk ((hb3.block f (blk_lt HF2.out)).trans HF2.out)
  have HO3 := Aside0.mk (Kd.R_below HO2.out hb3)
  have HX3 := Aside0.mk (HX2.out.step hb3)
  clear hb3 y0 y1 y2 y3 y4 y5 HE2 HF2 HO2 HX2 HCO
  have y0 := (blk_cell HE3.out 0).trans rfl
  have y1 := (blk_cell HE3.out 1).trans rfl
  have y2 := (blk_cell HE3.out 2).trans rfl
  have y3 := (blk_cell HE3.out 3).trans rfl
  have y4 := (blk_cell HE3.out 4).trans rfl
  have y5 := (blk_cell HE3.out 5).trans rfl
  go_wp2_with (with_reducible refine stop_store rfl ?_)
  refine store_blk rfl rfl 24 _ _ rfl (q := f) (i := 0) (cur' := entArr s v k se rq (.slice B m cb)) [.int .i64 s, .int .i64 v, .int .i64 k, .int .i64 se, .int .i64 rq, .slice B m cb] rfl rfl rfl (by kernel_rfl) (by intro u hu; simp at hu; rcases hu with rfl | rfl | rfl | rfl | rfl | rfl <;> rfl) HF3.out (by simp) rfl ?_
  intro wz hz hgz
  have HZ := Aside0.mk hz
  have HOZ := Aside0.mk (R40_frm HO3.out HF3.out (by decide) (Frm.of_grown (S := fun k => k = f) hgz (fun k e => (Option.some.inj e).symm)))
  have HXZ := Aside0.mk ((HX3.out.then_ (Frm.of_grown (S := fun k => k = f) hgz (fun k e => (Option.some.inj e).symm)) (fun k hk hlt => by have := HFE.out.2.1; omega)))
  clear hz hgz y0 y1 y2 y3 y4 y5
  go_wp2
  refine bodyPost_ret (results_ct rfl _ _ f 24 (entArr s v k se rq (.slice B m cb)) (0, 0) _ rfl HZ.out Try.underlying24 rfl (by kernel_rfl)) rfl ?_
  exact ⟨B, cb, rfl, HOZ.out, HXZ.out.below (fun k hk _ => hk.elim) (Nat.le_refl _)⟩
set_option maxHeartbeats 8000000 in
set_option maxRecDepth 100000 in
theorem rd_matched (w0 w : World) (rb n c : Nat) (A : Option Addr) (l : List Int) (vn : Int) (hn : l.length = n) (hc : n ≤ c) (hok : bytesOk l = true) (hm : n ≤ 140737488355328) (hC : C8 w0 A n l) (hB : Below w0.heap.size w0 w) (hrb : w0.heap.size ≤ rb) (hg : w.heap[rb]? = some (.cells #[.slice A n c, .int .i64 0] 147 (0, 0))) (hr1 : readNum l 0 = (vn, (n : Int), 0)) :
    Calls Try.prog 84 #[.pointer (some ⟨rb, 0, none⟩), .int .i64 3] w fun e w' => e = .returned (.agg (recCells 3 0 0 0 0 0 none 0 0 vn 0 0 0 0 ⟨#[]⟩)) ∧ Frm w w' (fun k => k = rb) := by
  have hu28 := Try.underlying28
  have hu26 := Try.underlying26
  have hu24 := Try.underlying24
  have hu147 := Try.underlying147
  have HN := Aside0.mk hn
  have HC := Aside0.mk hC
  have HCC := Aside0.mk hc
  have HOK := Aside0.mk hok
  have HM := Aside0.mk hm
  have HG := Aside0.mk hg
  have HB := Aside0.mk hB
  have HRB := Aside0.mk hrb
  have HWW := Aside0.mk hB.size
  have HR1 := Aside0.mk hr1
  clear hn hc hok hm hC hB hg hrb hr1
  go_enter Try.func84, Try.ntmps84
  go_wp2_with fail
  obtain ⟨f, hf⟩ : ∃ f, f = w.heap.size := ⟨_, rfl⟩
  obtain ⟨g, hg⟩ : ∃ g, g = w.heap.size + 1 := ⟨_, rfl⟩
  obtain ⟨va, hva⟩ : ∃ va, va = w.alloc (.cells (recCells 0 0 0 0 0 0 none 0 0 0 0 0 0 0 ⟨#[]⟩) 28) := ⟨_, rfl⟩
  obtain ⟨v0, hv0⟩ : ∃ v0, v0 = va.alloc (.cells (recCells 3 0 0 0 0 0 none 0 0 0 0 0 0 0 ⟨#[]⟩) 28) := ⟨_, rfl⟩
  have hsz : va.heap.size = w.heap.size + 1 := by rw [hva]; simp
  rw [← hva, ← hv0, ← hg, ← hf]
  have HW1 := Aside0.mk (show Below w.heap.size w v0 by rw [hv0]; exact (below_step (w := w) (W := va) (by rw [hva]; exact below_alloc (Below.refl _ _) _) (below_alloc (Below.refl _ _) _)))
  have HF0 := Aside0.mk (show v0.heap[f]? = some (.cells (recCells 0 0 0 0 0 0 none 0 0 0 0 0 0 0 ⟨#[]⟩) 28 (0, 0)) by
    rw [hv0]
    refine (Below.heap_alloc _ _ _ (by omega)).trans ?_
    rw [hva, hf]; exact heap_alloc_new w _)
  have HT0 := Aside0.mk (show v0.heap[g]? = some (.cells (recCells 3 0 0 0 0 0 none 0 0 0 0 0 0 0 ⟨#[]⟩) 28 (0, 0)) by rw [hv0, hg, ← hsz]; exact heap_alloc_new va _)
  have HB0 := Aside0.mk (below_step HB.out HW1.out)
  have HX0 := Aside0.mk (Frm.of_below HW1.out (fun k => k = rb))
  have HG0 := Aside0.mk ((HW1.out.block rb (blk_lt HG.out)).trans HG.out)
  have HFT := Aside0.mk (show f ≠ rb ∧ g ≠ rb by have := blk_lt HG.out; omega)
  have HFG := Aside0.mk (show f ≠ g ∧ w.heap.size ≤ f ∧ w.heap.size ≤ g by omega)
  clear hf hg hva hv0 hsz HW1 HG HB
  refine (rd_number w0 v0 rb n c A l 0 vn (n : Int) HN.out HCC.out HOK.out HM.out HC.out HB0.out HG0.out HR1.out).mono ?_
  rintro e1 v1 ⟨rfl, hg1, hf1⟩
  have HG1 := Aside0.mk hg1
  have HB1 := Aside0.mk (below_frm HB0.out hf1 (N := w0.heap.size) (fun k hk => by rw [hk]; exact HRB.out) (Nat.le_refl _))
  have HX1 := Aside0.mk (HX0.out.then_ hf1 (fun k hk _ => hk))
  have HF1 := Aside0.mk (hf1.blk HF0.out (fun e => HFT.out.1 e))
  have HT1 := Aside0.mk (hf1.blk HT0.out (fun e => HFT.out.2 e))
  clear hg1 hf1 HG0 HB0 HX0 HF0 HT0
  have t7 := (blk_cell HT1.out 7).trans rfl
  have z7 := blk_frozen HT1.out 7
  go_wp2_with fail
  clear t7 z7
  obtain ⟨v2, hv2⟩ : ∃ v2, v2 = (v1.setCell ⟨g, 7, none⟩ (.int .i64 vn)) := ⟨_, rfl⟩
  rw [← hv2]
  have HT2 := Aside0.mk (show v2.heap[g]? = some (.cells (recCells 3 0 0 0 0 0 none 0 0 vn 0 0 0 0 ⟨#[]⟩) 28 (0, 0)) by
    rw [hv2]
    exact blk_put HT1.out 7 _ rfl)
  have HF2 := Aside0.mk (show v2.heap[f]? = some (.cells (recCells 0 0 0 0 0 0 none 0 0 0 0 0 0 0 ⟨#[]⟩) 28 (0, 0)) by rw [hv2]; exact (blk_far HF1.out (by simp only; exact HFG.out.1) _))
  have HG2 := Aside0.mk (show v2.heap[rb]? = some (.cells #[.slice A n c, .int .i64 (n : Int)] 147 (0, 0)) by rw [hv2]; exact (blk_far HG1.out (by simp only; exact fun e => HFT.out.2 e.symm) _))
  have HX2 := Aside0.mk (show Frm w v2 (fun k => k = rb) by rw [hv2]; exact (HX1.out.set_ (p := ⟨g, 7, none⟩) (.inr HFG.out.2.2) _))
  have HB2 := Aside0.mk (show Below w0.heap.size w0 v2 by rw [hv2]; exact (HB1.out.setCell (p := ⟨g, 7, none⟩) (by have := HFG.out.2.2; have := HWW.out; simp only; omega) _))
  clear hv2 HT1 HF1 HG1 HX1 HB1
  have r0 : v2.cell? ⟨rb, 0, none⟩ = some (.slice A n c) := blk_cell HG2.out 0
  have r1 : v2.cell? ⟨rb, 1, none⟩ = some (.int .i64 (n : Int)) := blk_cell HG2.out 1
  go_quiet (fail)
  obtain ⟨wq, hwq⟩ : ∃ wq, wq = v2.drewN nq := ⟨_, rfl⟩
  rw [← hwq]
  have hbq := (show Below v2.heap.size v2 wq from Drawn0.below ⟨⟨nq, hwq⟩⟩)
  have HTQ := Aside0.mk ((hbq.block g (blk_lt HT2.out)).trans HT2.out)
  have HFQ := Aside0.mk ((hbq.block f (blk_lt HF2.out)).trans HF2.out)
  have HXQ := Aside0.mk (HX2.out.step hbq)
  clear hbq hwq r0 r1 HT2 HF2 HX2 HG2 HB2
  have kp0 := (blk_cell HTQ.out 0).trans rfl
  have kp1 := (blk_cell HTQ.out 1).trans rfl
  have kp2 := (blk_cell HTQ.out 2).trans rfl
  have kp3 := (blk_cell HTQ.out 3).trans rfl
  have kp4 := (blk_cell HTQ.out 4).trans rfl
  have kp5 := (blk_cell HTQ.out 5).trans rfl
  have kp6 := (blk_cell HTQ.out 6).trans rfl
  have kp7 := (blk_cell HTQ.out 7).trans rfl
  have kp8 := (blk_cell HTQ.out 8).trans rfl
  have kp9 := (blk_cell HTQ.out 9).trans rfl
  have kp10 := (blk_cell HTQ.out 10).trans rfl
  have kp11 := (blk_cell HTQ.out 11).trans rfl
  have kp12 := (blk_cell HTQ.out 12).trans rfl
  go_wp2_with (with_reducible refine stop_store rfl ?_)
  refine store_blk rfl rfl 28 _ _ rfl (q := f) (i := 0) (cur' := recCells 3 0 0 0 0 0 none 0 0 vn 0 0 0 0 ⟨#[]⟩) (recCells 3 0 0 0 0 0 none 0 0 vn 0 0 0 0 ⟨#[]⟩).toList rfl rfl rfl (by kernel_rfl) (by intro u hu; simp at hu; (repeat' (rcases hu with rfl | hu)) <;> first | rfl | (subst hu; rfl)) HFQ.out (by simp) rfl ?_
  intro wz hgz hgr
  have HXZ := Aside0.mk (HXQ.out.then_ (Frm.of_grown (S := fun k => k = f) hgr (fun k e => (Option.some.inj e).symm)) (fun k hk hlt => by have := HFG.out.2.1; omega))
  clear hgr kp0 kp1 kp2 kp3 kp4 kp5 kp6 kp7 kp8 kp9 kp10 kp11 kp12
  go_wp2
  (try simp only [Exit.inBlock, Exit.then])
  refine bodyPost_ret (results_cell_row rfl _ _ f 28 (recCells 3 0 0 0 0 0 none 0 0 vn 0 0 0 0 ⟨#[]⟩) (0, 0) _ rfl hgz Try.underlying28 rfl (by kernel_rfl)) rfl ?_
  exact ⟨rfl, HXZ.out⟩
set_option maxHeartbeats 8000000 in
set_option maxRecDepth 100000 in
theorem rd_commit (w0 w : World) (rb n c : Nat) (A : Option Addr) (l : List Int) (st : Int) (hn : l.length = n) (hc : n ≤ c) (hok : bytesOk l = true) (hm : n ≤ 140737488355328) (hC : C8 w0 A n l) (hB : Below w0.heap.size w0 w) (hrb : w0.heap.size ≤ rb) (hg : w.heap[rb]? = some (.cells #[.slice A n c, .int .i64 0] 147 (0, 0))) (hr1 : readNum l 0 = (st, (n : Int), 0)) :
    Calls Try.prog 84 #[.pointer (some ⟨rb, 0, none⟩), .int .i64 6] w fun e w' => e = .returned (.agg (recCells 6 0 0 0 0 0 none 0 0 0 0 0 st 0 ⟨#[]⟩)) ∧ Frm w w' (fun k => k = rb) := by
  have hu28 := Try.underlying28
  have hu26 := Try.underlying26
  have hu24 := Try.underlying24
  have hu147 := Try.underlying147
  have HN := Aside0.mk hn
  have HC := Aside0.mk hC
  have HCC := Aside0.mk hc
  have HOK := Aside0.mk hok
  have HM := Aside0.mk hm
  have HG := Aside0.mk hg
  have HB := Aside0.mk hB
  have HRB := Aside0.mk hrb
  have HWW := Aside0.mk hB.size
  have HR1 := Aside0.mk hr1
  clear hn hc hok hm hC hB hg hrb hr1
  go_enter Try.func84, Try.ntmps84
  go_wp2_with fail
  obtain ⟨f, hf⟩ : ∃ f, f = w.heap.size := ⟨_, rfl⟩
  obtain ⟨g, hg⟩ : ∃ g, g = w.heap.size + 1 := ⟨_, rfl⟩
  obtain ⟨va, hva⟩ : ∃ va, va = w.alloc (.cells (recCells 0 0 0 0 0 0 none 0 0 0 0 0 0 0 ⟨#[]⟩) 28) := ⟨_, rfl⟩
  obtain ⟨v0, hv0⟩ : ∃ v0, v0 = va.alloc (.cells (recCells 6 0 0 0 0 0 none 0 0 0 0 0 0 0 ⟨#[]⟩) 28) := ⟨_, rfl⟩
  have hsz : va.heap.size = w.heap.size + 1 := by rw [hva]; simp
  rw [← hva, ← hv0, ← hg, ← hf]
  have HW1 := Aside0.mk (show Below w.heap.size w v0 by rw [hv0]; exact (below_step (w := w) (W := va) (by rw [hva]; exact below_alloc (Below.refl _ _) _) (below_alloc (Below.refl _ _) _)))
  have HF0 := Aside0.mk (show v0.heap[f]? = some (.cells (recCells 0 0 0 0 0 0 none 0 0 0 0 0 0 0 ⟨#[]⟩) 28 (0, 0)) by
    rw [hv0]
    refine (Below.heap_alloc _ _ _ (by omega)).trans ?_
    rw [hva, hf]; exact heap_alloc_new w _)
  have HT0 := Aside0.mk (show v0.heap[g]? = some (.cells (recCells 6 0 0 0 0 0 none 0 0 0 0 0 0 0 ⟨#[]⟩) 28 (0, 0)) by rw [hv0, hg, ← hsz]; exact heap_alloc_new va _)
  have HB0 := Aside0.mk (below_step HB.out HW1.out)
  have HX0 := Aside0.mk (Frm.of_below HW1.out (fun k => k = rb))
  have HG0 := Aside0.mk ((HW1.out.block rb (blk_lt HG.out)).trans HG.out)
  have HFT := Aside0.mk (show f ≠ rb ∧ g ≠ rb by have := blk_lt HG.out; omega)
  have HFG := Aside0.mk (show f ≠ g ∧ w.heap.size ≤ f ∧ w.heap.size ≤ g by omega)
  clear hf hg hva hv0 hsz HW1 HG HB
  refine (rd_number w0 v0 rb n c A l 0 st (n : Int) HN.out HCC.out HOK.out HM.out HC.out HB0.out HG0.out HR1.out).mono ?_
  rintro e1 v1 ⟨rfl, hg1, hf1⟩
  have HG1 := Aside0.mk hg1
  have HB1 := Aside0.mk (below_frm HB0.out hf1 (N := w0.heap.size) (fun k hk => by rw [hk]; exact HRB.out) (Nat.le_refl _))
  have HX1 := Aside0.mk (HX0.out.then_ hf1 (fun k hk _ => hk))
  have HF1 := Aside0.mk (hf1.blk HF0.out (fun e => HFT.out.1 e))
  have HT1 := Aside0.mk (hf1.blk HT0.out (fun e => HFT.out.2 e))
  clear hg1 hf1 HG0 HB0 HX0 HF0 HT0
  have t10 := (blk_cell HT1.out 10).trans rfl
  have z10 := blk_frozen HT1.out 10
  go_wp2_with fail
  clear t10 z10
  obtain ⟨v2, hv2⟩ : ∃ v2, v2 = (v1.setCell ⟨g, 10, none⟩ (.int .i64 st)) := ⟨_, rfl⟩
  rw [← hv2]
  have HT2 := Aside0.mk (show v2.heap[g]? = some (.cells (recCells 6 0 0 0 0 0 none 0 0 0 0 0 st 0 ⟨#[]⟩) 28 (0, 0)) by
    rw [hv2]
    exact blk_put HT1.out 10 _ rfl)
  have HF2 := Aside0.mk (show v2.heap[f]? = some (.cells (recCells 0 0 0 0 0 0 none 0 0 0 0 0 0 0 ⟨#[]⟩) 28 (0, 0)) by rw [hv2]; exact (blk_far HF1.out (by simp only; exact HFG.out.1) _))
  have HG2 := Aside0.mk (show v2.heap[rb]? = some (.cells #[.slice A n c, .int .i64 (n : Int)] 147 (0, 0)) by rw [hv2]; exact (blk_far HG1.out (by simp only; exact fun e => HFT.out.2 e.symm) _))
  have HX2 := Aside0.mk (show Frm w v2 (fun k => k = rb) by rw [hv2]; exact (HX1.out.set_ (p := ⟨g, 10, none⟩) (.inr HFG.out.2.2) _))
  have HB2 := Aside0.mk (show Below w0.heap.size w0 v2 by rw [hv2]; exact (HB1.out.setCell (p := ⟨g, 10, none⟩) (by have := HFG.out.2.2; have := HWW.out; simp only; omega) _))
  clear hv2 HT1 HF1 HG1 HX1 HB1
  have r0 : v2.cell? ⟨rb, 0, none⟩ = some (.slice A n c) := blk_cell HG2.out 0
  have r1 : v2.cell? ⟨rb, 1, none⟩ = some (.int .i64 (n : Int)) := blk_cell HG2.out 1
  go_quiet (fail)
  obtain ⟨wq, hwq⟩ : ∃ wq, wq = v2.drewN nq := ⟨_, rfl⟩
  rw [← hwq]
  have hbq := (show Below v2.heap.size v2 wq from Drawn0.below ⟨⟨nq, hwq⟩⟩)
  have HTQ := Aside0.mk ((hbq.block g (blk_lt HT2.out)).trans HT2.out)
  have HFQ := Aside0.mk ((hbq.block f (blk_lt HF2.out)).trans HF2.out)
  have HXQ := Aside0.mk (HX2.out.step hbq)
  clear hbq hwq r0 r1 HT2 HF2 HX2 HG2 HB2
  have kp0 := (blk_cell HTQ.out 0).trans rfl
  have kp1 := (blk_cell HTQ.out 1).trans rfl
  have kp2 := (blk_cell HTQ.out 2).trans rfl
  have kp3 := (blk_cell HTQ.out 3).trans rfl
  have kp4 := (blk_cell HTQ.out 4).trans rfl
  have kp5 := (blk_cell HTQ.out 5).trans rfl
  have kp6 := (blk_cell HTQ.out 6).trans rfl
  have kp7 := (blk_cell HTQ.out 7).trans rfl
  have kp8 := (blk_cell HTQ.out 8).trans rfl
  have kp9 := (blk_cell HTQ.out 9).trans rfl
  have kp10 := (blk_cell HTQ.out 10).trans rfl
  have kp11 := (blk_cell HTQ.out 11).trans rfl
  have kp12 := (blk_cell HTQ.out 12).trans rfl
  go_wp2_with (with_reducible refine stop_store rfl ?_)
  refine store_blk rfl rfl 28 _ _ rfl (q := f) (i := 0) (cur' := recCells 6 0 0 0 0 0 none 0 0 0 0 0 st 0 ⟨#[]⟩) (recCells 6 0 0 0 0 0 none 0 0 0 0 0 st 0 ⟨#[]⟩).toList rfl rfl rfl (by kernel_rfl) (by intro u hu; simp at hu; (repeat' (rcases hu with rfl | hu)) <;> first | rfl | (subst hu; rfl)) HFQ.out (by simp) rfl ?_
  intro wz hgz hgr
  have HXZ := Aside0.mk (HXQ.out.then_ (Frm.of_grown (S := fun k => k = f) hgr (fun k e => (Option.some.inj e).symm)) (fun k hk hlt => by have := HFG.out.2.1; omega))
  clear hgr kp0 kp1 kp2 kp3 kp4 kp5 kp6 kp7 kp8 kp9 kp10 kp11 kp12
  go_wp2
  (try simp only [Exit.inBlock, Exit.then])
  refine bodyPost_ret (results_cell_row rfl _ _ f 28 (recCells 6 0 0 0 0 0 none 0 0 0 0 0 st 0 ⟨#[]⟩) (0, 0) _ rfl hgz Try.underlying28 rfl (by kernel_rfl)) rfl ?_
  exact ⟨rfl, HXZ.out⟩
set_option maxHeartbeats 8000000 in
set_option maxRecDepth 100000 in
theorem rd_save (w0 w : World) (rb n c : Nat) (A : Option Addr) (l : List Int) (st of q1 q2 : Int) (bx : List Int) (x : ByteArray) (hn : l.length = n) (hc : n ≤ c) (hok : bytesOk l = true) (hm : n ≤ 140737488355328) (hC : C8 w0 A n l) (hB : Below w0.heap.size w0 w) (hrb : w0.heap.size ≤ rb) (hg : w.heap[rb]? = some (.cells #[.slice A n c, .int .i64 0] 147 (0, 0))) (hr1 : readNum l 0 = (st, q1, 0)) (hr2 : readNum l q1 = (of, q2, 0)) (hr3 : readText l q2 = (bx, (n : Int), 0)) (hx : strOfNums bx = x) :
    Calls Try.prog 84 #[.pointer (some ⟨rb, 0, none⟩), .int .i64 5] w fun e w' => e = .returned (.agg (recCells 5 0 0 0 0 0 none 0 0 0 0 0 st of x)) ∧ Frm w w' (fun k => k = rb) := by
  have hu28 := Try.underlying28
  have hu26 := Try.underlying26
  have hu24 := Try.underlying24
  have hu147 := Try.underlying147
  have HN := Aside0.mk hn
  have HC := Aside0.mk hC
  have HCC := Aside0.mk hc
  have HOK := Aside0.mk hok
  have HM := Aside0.mk hm
  have HG := Aside0.mk hg
  have HB := Aside0.mk hB
  have HRB := Aside0.mk hrb
  have HWW := Aside0.mk hB.size
  have HR1 := Aside0.mk hr1
  have HR2 := Aside0.mk hr2
  have HR3 := Aside0.mk hr3
  have HX := Aside0.mk hx
  clear hn hc hok hm hC hB hg hrb hr1 hr2 hr3 hx
  go_enter Try.func84, Try.ntmps84
  go_wp2_with fail
  obtain ⟨f, hf⟩ : ∃ f, f = w.heap.size := ⟨_, rfl⟩
  obtain ⟨g, hg⟩ : ∃ g, g = w.heap.size + 1 := ⟨_, rfl⟩
  obtain ⟨va, hva⟩ : ∃ va, va = w.alloc (.cells (recCells 0 0 0 0 0 0 none 0 0 0 0 0 0 0 ⟨#[]⟩) 28) := ⟨_, rfl⟩
  obtain ⟨v0, hv0⟩ : ∃ v0, v0 = va.alloc (.cells (recCells 5 0 0 0 0 0 none 0 0 0 0 0 0 0 ⟨#[]⟩) 28) := ⟨_, rfl⟩
  have hsz : va.heap.size = w.heap.size + 1 := by rw [hva]; simp
  rw [← hva, ← hv0, ← hg, ← hf]
  have HW1 := Aside0.mk (show Below w.heap.size w v0 by rw [hv0]; exact (below_step (w := w) (W := va) (by rw [hva]; exact below_alloc (Below.refl _ _) _) (below_alloc (Below.refl _ _) _)))
  have HF0 := Aside0.mk (show v0.heap[f]? = some (.cells (recCells 0 0 0 0 0 0 none 0 0 0 0 0 0 0 ⟨#[]⟩) 28 (0, 0)) by
    rw [hv0]
    refine (Below.heap_alloc _ _ _ (by omega)).trans ?_
    rw [hva, hf]; exact heap_alloc_new w _)
  have HT0 := Aside0.mk (show v0.heap[g]? = some (.cells (recCells 5 0 0 0 0 0 none 0 0 0 0 0 0 0 ⟨#[]⟩) 28 (0, 0)) by rw [hv0, hg, ← hsz]; exact heap_alloc_new va _)
  have HB0 := Aside0.mk (below_step HB.out HW1.out)
  have HX0 := Aside0.mk (Frm.of_below HW1.out (fun k => k = rb))
  have HG0 := Aside0.mk ((HW1.out.block rb (blk_lt HG.out)).trans HG.out)
  have HFT := Aside0.mk (show f ≠ rb ∧ g ≠ rb by have := blk_lt HG.out; omega)
  have HFG := Aside0.mk (show f ≠ g ∧ w.heap.size ≤ f ∧ w.heap.size ≤ g by omega)
  clear hf hg hva hv0 hsz HW1 HG HB
  refine (rd_number w0 v0 rb n c A l 0 st q1 HN.out HCC.out HOK.out HM.out HC.out HB0.out HG0.out HR1.out).mono ?_
  rintro e1 v1 ⟨rfl, hg1, hf1⟩
  have HG1 := Aside0.mk hg1
  have HB1 := Aside0.mk (below_frm HB0.out hf1 (N := w0.heap.size) (fun k hk => by rw [hk]; exact HRB.out) (Nat.le_refl _))
  have HX1 := Aside0.mk (HX0.out.then_ hf1 (fun k hk _ => hk))
  have HF1 := Aside0.mk (hf1.blk HF0.out (fun e => HFT.out.1 e))
  have HT1 := Aside0.mk (hf1.blk HT0.out (fun e => HFT.out.2 e))
  clear hg1 hf1 HG0 HB0 HX0 HF0 HT0
  go_wp2_with fail
  refine (rd_number w0 v1 rb n c A l q1 of q2 HN.out HCC.out HOK.out HM.out HC.out HB1.out HG1.out HR2.out).mono ?_
  rintro e2 v2 ⟨rfl, hg2, hf2⟩
  have HG2 := Aside0.mk hg2
  have HB2 := Aside0.mk (below_frm HB1.out hf2 (N := w0.heap.size) (fun k hk => by rw [hk]; exact HRB.out) (Nat.le_refl _))
  have HX2 := Aside0.mk (HX1.out.then_ hf2 (fun k hk _ => hk))
  have HF2 := Aside0.mk (hf2.blk HF1.out (fun e => HFT.out.1 e))
  have HT2 := Aside0.mk (hf2.blk HT1.out (fun e => HFT.out.2 e))
  clear hg2 hf2 HG1 HB1 HX1 HF1 HT1
  have t10 := (blk_cell HT2.out 10).trans rfl
  have z10 := blk_frozen HT2.out 10
  have t11 := (blk_cell HT2.out 11).trans rfl
  have z11 := blk_frozen HT2.out 11
  go_wp2_with fail
  clear t10 z10 t11 z11
  obtain ⟨v3, hv3⟩ : ∃ v3, v3 = ((v2.setCell ⟨g, 10, none⟩ (.int .i64 st)).setCell ⟨g, 11, none⟩ (.int .i64 of)) := ⟨_, rfl⟩
  rw [← hv3]
  have HT3 := Aside0.mk (show v3.heap[g]? = some (.cells (recCells 5 0 0 0 0 0 none 0 0 0 0 0 st of ⟨#[]⟩) 28 (0, 0)) by
    rw [hv3]
    refine blk_put (cs := recCells 5 0 0 0 0 0 none 0 0 0 0 0 st 0 ⟨#[]⟩) ?_ 11 _ rfl
    exact blk_put HT2.out 10 _ rfl)
  have HF3 := Aside0.mk (show v3.heap[f]? = some (.cells (recCells 0 0 0 0 0 0 none 0 0 0 0 0 0 0 ⟨#[]⟩) 28 (0, 0)) by rw [hv3]; exact (blk_far (blk_far HF2.out (by simp only; exact HFG.out.1) _) (by simp only; exact HFG.out.1) _))
  have HG3 := Aside0.mk (show v3.heap[rb]? = some (.cells #[.slice A n c, .int .i64 q2] 147 (0, 0)) by rw [hv3]; exact (blk_far (blk_far HG2.out (by simp only; exact fun e => HFT.out.2 e.symm) _) (by simp only; exact fun e => HFT.out.2 e.symm) _))
  have HX3 := Aside0.mk (show Frm w v3 (fun k => k = rb) by rw [hv3]; exact ((HX2.out.set_ (p := ⟨g, 10, none⟩) (.inr HFG.out.2.2) _).set_ (p := ⟨g, 11, none⟩) (.inr HFG.out.2.2) _))
  have HB3 := Aside0.mk (show Below w0.heap.size w0 v3 by rw [hv3]; exact ((HB2.out.setCell (p := ⟨g, 10, none⟩) (by have := HFG.out.2.2; have := HWW.out; simp only; omega) _).setCell (p := ⟨g, 11, none⟩) (by have := HFG.out.2.2; have := HWW.out; simp only; omega) _))
  clear hv3 HT2 HF2 HG2 HX2 HB2
  refine (rd_text w0 v3 rb n c A l q2 (n : Int) bx HN.out HCC.out HOK.out HM.out HC.out HB3.out HG3.out HR3.out).mono ?_
  rintro e4 v4 ⟨rfl, hg4, hf4⟩
  have HG4 := Aside0.mk hg4
  have HB4 := Aside0.mk (below_frm HB3.out hf4 (N := w0.heap.size) (fun k hk => by rw [hk]; exact HRB.out) (Nat.le_refl _))
  have HX4 := Aside0.mk (HX3.out.then_ hf4 (fun k hk _ => hk))
  have HF4 := Aside0.mk (hf4.blk HF3.out (fun e => HFT.out.1 e))
  have HT4 := Aside0.mk (hf4.blk HT3.out (fun e => HFT.out.2 e))
  clear hg4 hf4 HG3 HB3 HX3 HF3 HT3
  rw [HX.out]
  have t12 := (blk_cell HT4.out 12).trans rfl
  have z12 := blk_frozen HT4.out 12
  go_wp2_with fail
  clear t12 z12
  obtain ⟨v5, hv5⟩ : ∃ v5, v5 = (v4.setCell ⟨g, 12, none⟩ (.string x)) := ⟨_, rfl⟩
  rw [← hv5]
  have HT5 := Aside0.mk (show v5.heap[g]? = some (.cells (recCells 5 0 0 0 0 0 none 0 0 0 0 0 st of x) 28 (0, 0)) by
    rw [hv5]
    exact blk_put HT4.out 12 _ rfl)
  have HF5 := Aside0.mk (show v5.heap[f]? = some (.cells (recCells 0 0 0 0 0 0 none 0 0 0 0 0 0 0 ⟨#[]⟩) 28 (0, 0)) by rw [hv5]; exact (blk_far HF4.out (by simp only; exact HFG.out.1) _))
  have HG5 := Aside0.mk (show v5.heap[rb]? = some (.cells #[.slice A n c, .int .i64 (n : Int)] 147 (0, 0)) by rw [hv5]; exact (blk_far HG4.out (by simp only; exact fun e => HFT.out.2 e.symm) _))
  have HX5 := Aside0.mk (show Frm w v5 (fun k => k = rb) by rw [hv5]; exact (HX4.out.set_ (p := ⟨g, 12, none⟩) (.inr HFG.out.2.2) _))
  have HB5 := Aside0.mk (show Below w0.heap.size w0 v5 by rw [hv5]; exact (HB4.out.setCell (p := ⟨g, 12, none⟩) (by have := HFG.out.2.2; have := HWW.out; simp only; omega) _))
  clear hv5 HT4 HF4 HG4 HX4 HB4
  have r0 : v5.cell? ⟨rb, 0, none⟩ = some (.slice A n c) := blk_cell HG5.out 0
  have r1 : v5.cell? ⟨rb, 1, none⟩ = some (.int .i64 (n : Int)) := blk_cell HG5.out 1
  go_quiet (fail)
  obtain ⟨wq, hwq⟩ : ∃ wq, wq = v5.drewN nq := ⟨_, rfl⟩
  rw [← hwq]
  have hbq := (show Below v5.heap.size v5 wq from Drawn0.below ⟨⟨nq, hwq⟩⟩)
  have HTQ := Aside0.mk ((hbq.block g (blk_lt HT5.out)).trans HT5.out)
  have HFQ := Aside0.mk ((hbq.block f (blk_lt HF5.out)).trans HF5.out)
  have HXQ := Aside0.mk (HX5.out.step hbq)
  clear hbq hwq r0 r1 HT5 HF5 HX5 HG5 HB5
  have kp0 := (blk_cell HTQ.out 0).trans rfl
  have kp1 := (blk_cell HTQ.out 1).trans rfl
  have kp2 := (blk_cell HTQ.out 2).trans rfl
  have kp3 := (blk_cell HTQ.out 3).trans rfl
  have kp4 := (blk_cell HTQ.out 4).trans rfl
  have kp5 := (blk_cell HTQ.out 5).trans rfl
  have kp6 := (blk_cell HTQ.out 6).trans rfl
  have kp7 := (blk_cell HTQ.out 7).trans rfl
  have kp8 := (blk_cell HTQ.out 8).trans rfl
  have kp9 := (blk_cell HTQ.out 9).trans rfl
  have kp10 := (blk_cell HTQ.out 10).trans rfl
  have kp11 := (blk_cell HTQ.out 11).trans rfl
  have kp12 := (blk_cell HTQ.out 12).trans rfl
  go_wp2_with (with_reducible refine stop_store rfl ?_)
  refine store_blk rfl rfl 28 _ _ rfl (q := f) (i := 0) (cur' := recCells 5 0 0 0 0 0 none 0 0 0 0 0 st of x) (recCells 5 0 0 0 0 0 none 0 0 0 0 0 st of x).toList rfl rfl rfl (by kernel_rfl) (by intro u hu; simp at hu; (repeat' (rcases hu with rfl | hu)) <;> first | rfl | (subst hu; rfl)) HFQ.out (by simp) rfl ?_
  intro wz hgz hgr
  have HXZ := Aside0.mk (HXQ.out.then_ (Frm.of_grown (S := fun k => k = f) hgr (fun k e => (Option.some.inj e).symm)) (fun k hk hlt => by have := HFG.out.2.1; omega))
  clear hgr kp0 kp1 kp2 kp3 kp4 kp5 kp6 kp7 kp8 kp9 kp10 kp11 kp12
  go_wp2
  (try simp only [Exit.inBlock, Exit.then])
  refine bodyPost_ret (results_cell_row rfl _ _ f 28 (recCells 5 0 0 0 0 0 none 0 0 0 0 0 st of x) (0, 0) _ rfl hgz Try.underlying28 rfl (by kernel_rfl)) rfl ?_
  exact ⟨rfl, HXZ.out⟩
set_option maxHeartbeats 8000000 in
set_option maxRecDepth 100000 in
theorem rd_reset (w0 w : World) (rb n c : Nat) (A : Option Addr) (l : List Int) (vn st of q0 q1 q2 : Int) (bx : List Int) (x : ByteArray) (hn : l.length = n) (hc : n ≤ c) (hok : bytesOk l = true) (hm : n ≤ 140737488355328) (hC : C8 w0 A n l) (hB : Below w0.heap.size w0 w) (hrb : w0.heap.size ≤ rb) (hg : w.heap[rb]? = some (.cells #[.slice A n c, .int .i64 0] 147 (0, 0))) (hr0 : readNum l 0 = (vn, q0, 0)) (hr1 : readNum l q0 = (st, q1, 0)) (hr2 : readNum l q1 = (of, q2, 0)) (hr3 : readText l q2 = (bx, (n : Int), 0)) (hx : strOfNums bx = x) :
    Calls Try.prog 84 #[.pointer (some ⟨rb, 0, none⟩), .int .i64 4] w fun e w' => e = .returned (.agg (recCells 4 0 0 0 0 0 none 0 0 vn 0 0 st of x)) ∧ Frm w w' (fun k => k = rb) := by
  have hu28 := Try.underlying28
  have hu26 := Try.underlying26
  have hu24 := Try.underlying24
  have hu147 := Try.underlying147
  have HN := Aside0.mk hn
  have HC := Aside0.mk hC
  have HCC := Aside0.mk hc
  have HOK := Aside0.mk hok
  have HM := Aside0.mk hm
  have HG := Aside0.mk hg
  have HB := Aside0.mk hB
  have HRB := Aside0.mk hrb
  have HWW := Aside0.mk hB.size
  have HR0 := Aside0.mk hr0
  have HR1 := Aside0.mk hr1
  have HR2 := Aside0.mk hr2
  have HR3 := Aside0.mk hr3
  have HX := Aside0.mk hx
  clear hn hc hok hm hC hB hg hrb hr0 hr1 hr2 hr3 hx
  go_enter Try.func84, Try.ntmps84
  go_wp2_with fail
  obtain ⟨f, hf⟩ : ∃ f, f = w.heap.size := ⟨_, rfl⟩
  obtain ⟨g, hg⟩ : ∃ g, g = w.heap.size + 1 := ⟨_, rfl⟩
  obtain ⟨va, hva⟩ : ∃ va, va = w.alloc (.cells (recCells 0 0 0 0 0 0 none 0 0 0 0 0 0 0 ⟨#[]⟩) 28) := ⟨_, rfl⟩
  obtain ⟨v0, hv0⟩ : ∃ v0, v0 = va.alloc (.cells (recCells 4 0 0 0 0 0 none 0 0 0 0 0 0 0 ⟨#[]⟩) 28) := ⟨_, rfl⟩
  have hsz : va.heap.size = w.heap.size + 1 := by rw [hva]; simp
  rw [← hva, ← hv0, ← hg, ← hf]
  have HW1 := Aside0.mk (show Below w.heap.size w v0 by rw [hv0]; exact (below_step (w := w) (W := va) (by rw [hva]; exact below_alloc (Below.refl _ _) _) (below_alloc (Below.refl _ _) _)))
  have HF0 := Aside0.mk (show v0.heap[f]? = some (.cells (recCells 0 0 0 0 0 0 none 0 0 0 0 0 0 0 ⟨#[]⟩) 28 (0, 0)) by
    rw [hv0]
    refine (Below.heap_alloc _ _ _ (by omega)).trans ?_
    rw [hva, hf]; exact heap_alloc_new w _)
  have HT0 := Aside0.mk (show v0.heap[g]? = some (.cells (recCells 4 0 0 0 0 0 none 0 0 0 0 0 0 0 ⟨#[]⟩) 28 (0, 0)) by rw [hv0, hg, ← hsz]; exact heap_alloc_new va _)
  have HB0 := Aside0.mk (below_step HB.out HW1.out)
  have HX0 := Aside0.mk (Frm.of_below HW1.out (fun k => k = rb))
  have HG0 := Aside0.mk ((HW1.out.block rb (blk_lt HG.out)).trans HG.out)
  have HFT := Aside0.mk (show f ≠ rb ∧ g ≠ rb by have := blk_lt HG.out; omega)
  have HFG := Aside0.mk (show f ≠ g ∧ w.heap.size ≤ f ∧ w.heap.size ≤ g by omega)
  clear hf hg hva hv0 hsz HW1 HG HB
  refine (rd_number w0 v0 rb n c A l 0 vn q0 HN.out HCC.out HOK.out HM.out HC.out HB0.out HG0.out HR0.out).mono ?_
  rintro e1 v1 ⟨rfl, hg1, hf1⟩
  have HG1 := Aside0.mk hg1
  have HB1 := Aside0.mk (below_frm HB0.out hf1 (N := w0.heap.size) (fun k hk => by rw [hk]; exact HRB.out) (Nat.le_refl _))
  have HX1 := Aside0.mk (HX0.out.then_ hf1 (fun k hk _ => hk))
  have HF1 := Aside0.mk (hf1.blk HF0.out (fun e => HFT.out.1 e))
  have HT1 := Aside0.mk (hf1.blk HT0.out (fun e => HFT.out.2 e))
  clear hg1 hf1 HG0 HB0 HX0 HF0 HT0
  have t7 := (blk_cell HT1.out 7).trans rfl
  have z7 := blk_frozen HT1.out 7
  go_wp2_with fail
  clear t7 z7
  obtain ⟨v2, hv2⟩ : ∃ v2, v2 = (v1.setCell ⟨g, 7, none⟩ (.int .i64 vn)) := ⟨_, rfl⟩
  rw [← hv2]
  have HT2 := Aside0.mk (show v2.heap[g]? = some (.cells (recCells 4 0 0 0 0 0 none 0 0 vn 0 0 0 0 ⟨#[]⟩) 28 (0, 0)) by
    rw [hv2]
    exact blk_put HT1.out 7 _ rfl)
  have HF2 := Aside0.mk (show v2.heap[f]? = some (.cells (recCells 0 0 0 0 0 0 none 0 0 0 0 0 0 0 ⟨#[]⟩) 28 (0, 0)) by rw [hv2]; exact (blk_far HF1.out (by simp only; exact HFG.out.1) _))
  have HG2 := Aside0.mk (show v2.heap[rb]? = some (.cells #[.slice A n c, .int .i64 q0] 147 (0, 0)) by rw [hv2]; exact (blk_far HG1.out (by simp only; exact fun e => HFT.out.2 e.symm) _))
  have HX2 := Aside0.mk (show Frm w v2 (fun k => k = rb) by rw [hv2]; exact (HX1.out.set_ (p := ⟨g, 7, none⟩) (.inr HFG.out.2.2) _))
  have HB2 := Aside0.mk (show Below w0.heap.size w0 v2 by rw [hv2]; exact (HB1.out.setCell (p := ⟨g, 7, none⟩) (by have := HFG.out.2.2; have := HWW.out; simp only; omega) _))
  clear hv2 HT1 HF1 HG1 HX1 HB1
  refine (rd_number w0 v2 rb n c A l q0 st q1 HN.out HCC.out HOK.out HM.out HC.out HB2.out HG2.out HR1.out).mono ?_
  rintro e3 v3 ⟨rfl, hg3, hf3⟩
  have HG3 := Aside0.mk hg3
  have HB3 := Aside0.mk (below_frm HB2.out hf3 (N := w0.heap.size) (fun k hk => by rw [hk]; exact HRB.out) (Nat.le_refl _))
  have HX3 := Aside0.mk (HX2.out.then_ hf3 (fun k hk _ => hk))
  have HF3 := Aside0.mk (hf3.blk HF2.out (fun e => HFT.out.1 e))
  have HT3 := Aside0.mk (hf3.blk HT2.out (fun e => HFT.out.2 e))
  clear hg3 hf3 HG2 HB2 HX2 HF2 HT2
  go_wp2_with fail
  refine (rd_number w0 v3 rb n c A l q1 of q2 HN.out HCC.out HOK.out HM.out HC.out HB3.out HG3.out HR2.out).mono ?_
  rintro e4 v4 ⟨rfl, hg4, hf4⟩
  have HG4 := Aside0.mk hg4
  have HB4 := Aside0.mk (below_frm HB3.out hf4 (N := w0.heap.size) (fun k hk => by rw [hk]; exact HRB.out) (Nat.le_refl _))
  have HX4 := Aside0.mk (HX3.out.then_ hf4 (fun k hk _ => hk))
  have HF4 := Aside0.mk (hf4.blk HF3.out (fun e => HFT.out.1 e))
  have HT4 := Aside0.mk (hf4.blk HT3.out (fun e => HFT.out.2 e))
  clear hg4 hf4 HG3 HB3 HX3 HF3 HT3
  have t10 := (blk_cell HT4.out 10).trans rfl
  have z10 := blk_frozen HT4.out 10
  have t11 := (blk_cell HT4.out 11).trans rfl
  have z11 := blk_frozen HT4.out 11
  go_wp2_with fail
  clear t10 z10 t11 z11
  obtain ⟨v5, hv5⟩ : ∃ v5, v5 = ((v4.setCell ⟨g, 10, none⟩ (.int .i64 st)).setCell ⟨g, 11, none⟩ (.int .i64 of)) := ⟨_, rfl⟩
  rw [← hv5]
  have HT5 := Aside0.mk (show v5.heap[g]? = some (.cells (recCells 4 0 0 0 0 0 none 0 0 vn 0 0 st of ⟨#[]⟩) 28 (0, 0)) by
    rw [hv5]
    refine blk_put (cs := recCells 4 0 0 0 0 0 none 0 0 vn 0 0 st 0 ⟨#[]⟩) ?_ 11 _ rfl
    exact blk_put HT4.out 10 _ rfl)
  have HF5 := Aside0.mk (show v5.heap[f]? = some (.cells (recCells 0 0 0 0 0 0 none 0 0 0 0 0 0 0 ⟨#[]⟩) 28 (0, 0)) by rw [hv5]; exact (blk_far (blk_far HF4.out (by simp only; exact HFG.out.1) _) (by simp only; exact HFG.out.1) _))
  have HG5 := Aside0.mk (show v5.heap[rb]? = some (.cells #[.slice A n c, .int .i64 q2] 147 (0, 0)) by rw [hv5]; exact (blk_far (blk_far HG4.out (by simp only; exact fun e => HFT.out.2 e.symm) _) (by simp only; exact fun e => HFT.out.2 e.symm) _))
  have HX5 := Aside0.mk (show Frm w v5 (fun k => k = rb) by rw [hv5]; exact ((HX4.out.set_ (p := ⟨g, 10, none⟩) (.inr HFG.out.2.2) _).set_ (p := ⟨g, 11, none⟩) (.inr HFG.out.2.2) _))
  have HB5 := Aside0.mk (show Below w0.heap.size w0 v5 by rw [hv5]; exact ((HB4.out.setCell (p := ⟨g, 10, none⟩) (by have := HFG.out.2.2; have := HWW.out; simp only; omega) _).setCell (p := ⟨g, 11, none⟩) (by have := HFG.out.2.2; have := HWW.out; simp only; omega) _))
  clear hv5 HT4 HF4 HG4 HX4 HB4
  refine (rd_text w0 v5 rb n c A l q2 (n : Int) bx HN.out HCC.out HOK.out HM.out HC.out HB5.out HG5.out HR3.out).mono ?_
  rintro e6 v6 ⟨rfl, hg6, hf6⟩
  have HG6 := Aside0.mk hg6
  have HB6 := Aside0.mk (below_frm HB5.out hf6 (N := w0.heap.size) (fun k hk => by rw [hk]; exact HRB.out) (Nat.le_refl _))
  have HX6 := Aside0.mk (HX5.out.then_ hf6 (fun k hk _ => hk))
  have HF6 := Aside0.mk (hf6.blk HF5.out (fun e => HFT.out.1 e))
  have HT6 := Aside0.mk (hf6.blk HT5.out (fun e => HFT.out.2 e))
  clear hg6 hf6 HG5 HB5 HX5 HF5 HT5
  rw [HX.out]
  have t12 := (blk_cell HT6.out 12).trans rfl
  have z12 := blk_frozen HT6.out 12
  go_wp2_with fail
  clear t12 z12
  obtain ⟨v7, hv7⟩ : ∃ v7, v7 = (v6.setCell ⟨g, 12, none⟩ (.string x)) := ⟨_, rfl⟩
  rw [← hv7]
  have HT7 := Aside0.mk (show v7.heap[g]? = some (.cells (recCells 4 0 0 0 0 0 none 0 0 vn 0 0 st of x) 28 (0, 0)) by
    rw [hv7]
    exact blk_put HT6.out 12 _ rfl)
  have HF7 := Aside0.mk (show v7.heap[f]? = some (.cells (recCells 0 0 0 0 0 0 none 0 0 0 0 0 0 0 ⟨#[]⟩) 28 (0, 0)) by rw [hv7]; exact (blk_far HF6.out (by simp only; exact HFG.out.1) _))
  have HG7 := Aside0.mk (show v7.heap[rb]? = some (.cells #[.slice A n c, .int .i64 (n : Int)] 147 (0, 0)) by rw [hv7]; exact (blk_far HG6.out (by simp only; exact fun e => HFT.out.2 e.symm) _))
  have HX7 := Aside0.mk (show Frm w v7 (fun k => k = rb) by rw [hv7]; exact (HX6.out.set_ (p := ⟨g, 12, none⟩) (.inr HFG.out.2.2) _))
  have HB7 := Aside0.mk (show Below w0.heap.size w0 v7 by rw [hv7]; exact (HB6.out.setCell (p := ⟨g, 12, none⟩) (by have := HFG.out.2.2; have := HWW.out; simp only; omega) _))
  clear hv7 HT6 HF6 HG6 HX6 HB6
  have r0 : v7.cell? ⟨rb, 0, none⟩ = some (.slice A n c) := blk_cell HG7.out 0
  have r1 : v7.cell? ⟨rb, 1, none⟩ = some (.int .i64 (n : Int)) := blk_cell HG7.out 1
  go_quiet (fail)
  obtain ⟨wq, hwq⟩ : ∃ wq, wq = v7.drewN nq := ⟨_, rfl⟩
  rw [← hwq]
  have hbq := (show Below v7.heap.size v7 wq from Drawn0.below ⟨⟨nq, hwq⟩⟩)
  have HTQ := Aside0.mk ((hbq.block g (blk_lt HT7.out)).trans HT7.out)
  have HFQ := Aside0.mk ((hbq.block f (blk_lt HF7.out)).trans HF7.out)
  have HXQ := Aside0.mk (HX7.out.step hbq)
  clear hbq hwq r0 r1 HT7 HF7 HX7 HG7 HB7
  have kp0 := (blk_cell HTQ.out 0).trans rfl
  have kp1 := (blk_cell HTQ.out 1).trans rfl
  have kp2 := (blk_cell HTQ.out 2).trans rfl
  have kp3 := (blk_cell HTQ.out 3).trans rfl
  have kp4 := (blk_cell HTQ.out 4).trans rfl
  have kp5 := (blk_cell HTQ.out 5).trans rfl
  have kp6 := (blk_cell HTQ.out 6).trans rfl
  have kp7 := (blk_cell HTQ.out 7).trans rfl
  have kp8 := (blk_cell HTQ.out 8).trans rfl
  have kp9 := (blk_cell HTQ.out 9).trans rfl
  have kp10 := (blk_cell HTQ.out 10).trans rfl
  have kp11 := (blk_cell HTQ.out 11).trans rfl
  have kp12 := (blk_cell HTQ.out 12).trans rfl
  go_wp2_with (with_reducible refine stop_store rfl ?_)
  refine store_blk rfl rfl 28 _ _ rfl (q := f) (i := 0) (cur' := recCells 4 0 0 0 0 0 none 0 0 vn 0 0 st of x) (recCells 4 0 0 0 0 0 none 0 0 vn 0 0 st of x).toList rfl rfl rfl (by kernel_rfl) (by intro u hu; simp at hu; (repeat' (rcases hu with rfl | hu)) <;> first | rfl | (subst hu; rfl)) HFQ.out (by simp) rfl ?_
  intro wz hgz hgr
  have HXZ := Aside0.mk (HXQ.out.then_ (Frm.of_grown (S := fun k => k = f) hgr (fun k e => (Option.some.inj e).symm)) (fun k hk hlt => by have := HFG.out.2.1; omega))
  clear hgr kp0 kp1 kp2 kp3 kp4 kp5 kp6 kp7 kp8 kp9 kp10 kp11 kp12
  go_wp2
  (try simp only [Exit.inBlock, Exit.then])
  refine bodyPost_ret (results_cell_row rfl _ _ f 28 (recCells 4 0 0 0 0 0 none 0 0 vn 0 0 st of x) (0, 0) _ rfl hgz Try.underlying28 rfl (by kernel_rfl)) rfl ?_
  exact ⟨rfl, HXZ.out⟩

set_option maxHeartbeats 8000000 in
set_option maxRecDepth 100000 in
theorem rd_entry (w0 w : World) (rb n c : Nat) (A : Option Addr) (l : List Int) (s v k se rq : Int) (ops : List S40) (m : Nat) (hm2 : ops.length = m) (hm1 : m ≤ 1000000) (hn : l.length = n) (hc : n ≤ c) (hok : bytesOk l = true) (hm : n ≤ 262144) (hC : C8 w0 A n l) (hB : Below w0.heap.size w0 w) (hrb : w0.heap.size ≤ rb) (hg : w.heap[rb]? = some (.cells #[.slice A n c, .int .i64 0] 147 (0, 0))) (hr : EntAt l 0 s v k se rq ops (n : Int)) (hmay : entOk s v k se rq ops = true) :
    Calls Try.prog 84 #[.pointer (some ⟨rb, 0, none⟩), .int .i64 1] w fun e w' => ∃ B cb, e = .returned (.agg (recCells 1 s v k se rq B m cb 0 0 0 0 0 ⟨#[]⟩)) ∧ R40 w' w.heap.size (.slice B m cb) ops ∧ Frm w w' (fun k => k = rb) := by
  have hu28 := Try.underlying28
  have hu26 := Try.underlying26
  have hu24 := Try.underlying24
  have hu147 := Try.underlying147
  have HN := Aside0.mk hn
  have HC := Aside0.mk hC
  have HCC := Aside0.mk hc
  have HOK := Aside0.mk hok
  have HM := Aside0.mk hm
  have HG := Aside0.mk hg
  have HB := Aside0.mk hB
  have HRB := Aside0.mk hrb
  have HWW := Aside0.mk hB.size
  have HR := Aside0.mk hr
  have HMAY := Aside0.mk hmay
  have HM2 := Aside0.mk hm2
  have HM1 := Aside0.mk hm1
  clear hn hc hok hm hC hB hg hrb hr hmay hm2 hm1
  go_enter Try.func84, Try.ntmps84
  have rr : ((w.alloc (.cells (recCells 0 0 0 0 0 0 none 0 0 0 0 0 0 0 ⟨#[]⟩) 28)).alloc (.cells (recCells 1 0 0 0 0 0 none 0 0 0 0 0 0 0 ⟨#[]⟩) 28)).cell? ⟨rb, 0, none⟩ = some (.slice A n c) := pw_cell_below (below_alloc (below_alloc (Below.refl _ _) _) _) (blk_cell HG.out 0)
  go_wp2_with fail
  obtain ⟨f, hf⟩ : ∃ f, f = w.heap.size := ⟨_, rfl⟩
  obtain ⟨g, hg⟩ : ∃ g, g = w.heap.size + 1 := ⟨_, rfl⟩
  obtain ⟨va, hva⟩ : ∃ va, va = w.alloc (.cells (recCells 0 0 0 0 0 0 none 0 0 0 0 0 0 0 ⟨#[]⟩) 28) := ⟨_, rfl⟩
  obtain ⟨v0, hv0⟩ : ∃ v0, v0 = va.alloc (.cells (recCells 1 0 0 0 0 0 none 0 0 0 0 0 0 0 ⟨#[]⟩) 28) := ⟨_, rfl⟩
  have hsz : va.heap.size = w.heap.size + 1 := by rw [hva]; simp
  rw [← hva, ← hv0, ← hg, ← hf]
  have HW1 := Aside0.mk (show Below w.heap.size w v0 by rw [hv0]; exact (below_step (w := w) (W := va) (by rw [hva]; exact below_alloc (Below.refl _ _) _) (below_alloc (Below.refl _ _) _)))
  have HF0 := Aside0.mk (show v0.heap[f]? = some (.cells (recCells 0 0 0 0 0 0 none 0 0 0 0 0 0 0 ⟨#[]⟩) 28 (0, 0)) by
    rw [hv0]
    refine (Below.heap_alloc _ _ _ (by omega)).trans ?_
    rw [hva, hf]; exact heap_alloc_new w _)
  have HT0 := Aside0.mk (show v0.heap[g]? = some (.cells (recCells 1 0 0 0 0 0 none 0 0 0 0 0 0 0 ⟨#[]⟩) 28 (0, 0)) by rw [hv0, hg, ← hsz]; exact heap_alloc_new va _)
  have HB0 := Aside0.mk (below_step HB.out HW1.out)
  have HX0 := Aside0.mk (Frm.of_below HW1.out (fun k => k = rb))
  have HG0 := Aside0.mk ((HW1.out.block rb (blk_lt HG.out)).trans HG.out)
  have HFT := Aside0.mk (show f ≠ rb ∧ g ≠ rb by have := blk_lt HG.out; omega)
  have HFG := Aside0.mk (show f ≠ g ∧ w.heap.size ≤ f ∧ w.heap.size ≤ g by omega)
  clear hf hg hva hv0 hsz HG HB rr
  refine (dec_entry v0 n c A l s v k se rq ops m HM2.out HM1.out HN.out HCC.out HOK.out HM.out (Kd.C_below HC.out HB0.out) HR.out HMAY.out).mono ?_
  rintro e1 v1 ⟨B, cb, rfl, ho1, hb1⟩
  have HG1 := Aside0.mk ((hb1.block rb (blk_lt HG0.out)).trans HG0.out)
  have HF1 := Aside0.mk ((hb1.block f (blk_lt HF0.out)).trans HF0.out)
  have HT1 := Aside0.mk ((hb1.block g (blk_lt HT0.out)).trans HT0.out)
  have HX1 := Aside0.mk (HX0.out.step hb1)
  have HO1 := Aside0.mk (Kd.R_lower ho1 HW1.out.size)
  clear ho1 hb1 HG0 HF0 HT0 HX0 HB0 HW1
  go_wp2_with (with_reducible refine stop_store rfl ?_)
  obtain ⟨h, hh⟩ : ∃ h, h = v1.heap.size := ⟨_, rfl⟩
  obtain ⟨va, hva⟩ : ∃ va, va = v1.alloc (.cells entZero 24) := ⟨_, rfl⟩
  rw [← hva, ← hh]
  have hba : Below v1.heap.size v1 va := by rw [hva]; exact below_alloc (Below.refl _ _) _
  have HHA := Aside0.mk (show va.heap[h]? = some (.cells entZero 24 (0, 0)) by rw [hva, hh]; exact heap_alloc_new v1 _)
  refine store_blk rfl rfl 24 _ _ rfl (q := h) (i := 0) (cur' := entArr s v k se rq (.slice B m cb)) [.int .i64 s, .int .i64 v, .int .i64 k, .int .i64 se, .int .i64 rq, .slice B m cb] rfl rfl rfl (by kernel_rfl) (by intro u hu; simp at hu; rcases hu with rfl | rfl | rfl | rfl | rfl | rfl <;> rfl) HHA.out (by simp) rfl ?_
  intro v2 hz2 hgz2
  have hb2 : Below v1.heap.size v1 v2 := hba.grown hgz2 hba.size (fun k e => by cases e; omega)
  have HH2 := Aside0.mk hz2
  have HG2 := Aside0.mk ((hb2.block rb (blk_lt HG1.out)).trans HG1.out)
  have HF2 := Aside0.mk ((hb2.block f (blk_lt HF1.out)).trans HF1.out)
  have HT2 := Aside0.mk ((hb2.block g (blk_lt HT1.out)).trans HT1.out)
  have HX2 := Aside0.mk (HX1.out.step hb2)
  have HO2 := Aside0.mk (Kd.R_below HO1.out hb2)
  clear hh hva hba hz2 hgz2 hb2 HHA HG1 HF1 HT1 HX1 HO1
  have y0 := (blk_cell HH2.out 0).trans rfl
  have y1 := (blk_cell HH2.out 1).trans rfl
  have y2 := (blk_cell HH2.out 2).trans rfl
  have y3 := (blk_cell HH2.out 3).trans rfl
  have y4 := (blk_cell HH2.out 4).trans rfl
  have y5 := (blk_cell HH2.out 5).trans rfl
  go_wp2_with (with_reducible refine stop_store rfl ?_)
  refine store_blk rfl rfl 24 _ _ rfl (q := g) (i := 1) (cur' := recCells 1 s v k se rq B m cb 0 0 0 0 0 ⟨#[]⟩) [.int .i64 s, .int .i64 v, .int .i64 k, .int .i64 se, .int .i64 rq, .slice B m cb] rfl rfl rfl (by kernel_rfl) (by intro u hu; simp at hu; rcases hu with rfl | rfl | rfl | rfl | rfl | rfl <;> rfl) HT2.out (by simp) rfl ?_
  intro v3 hz hgz
  have HT3 := Aside0.mk hz
  have HF3 := Aside0.mk ((hgz.block f (blk_lt HF2.out) (fun e => HFG.out.1 (Option.some.inj e))).trans HF2.out)
  have HX3 := Aside0.mk (HX2.out.then_ (Frm.of_grown (S := fun k => k = g) hgz (fun k e => (Option.some.inj e).symm)) (fun k hk hlt => by have := HFG.out.2.2; omega))
  have HO3 := Aside0.mk (R40_frm HO2.out HT2.out (by decide) (Frm.of_grown (S := fun k => k = g) hgz (fun k e => (Option.some.inj e).symm)))
  clear hz hgz y0 y1 y2 y3 y4 y5 HT2 HF2 HX2 HO2 HH2 HG2
  have kp0 := (blk_cell HT3.out 0).trans rfl
  have kp1 := (blk_cell HT3.out 1).trans rfl
  have kp2 := (blk_cell HT3.out 2).trans rfl
  have kp3 := (blk_cell HT3.out 3).trans rfl
  have kp4 := (blk_cell HT3.out 4).trans rfl
  have kp5 := (blk_cell HT3.out 5).trans rfl
  have kp6 := (blk_cell HT3.out 6).trans rfl
  have kp7 := (blk_cell HT3.out 7).trans rfl
  have kp8 := (blk_cell HT3.out 8).trans rfl
  have kp9 := (blk_cell HT3.out 9).trans rfl
  have kp10 := (blk_cell HT3.out 10).trans rfl
  have kp11 := (blk_cell HT3.out 11).trans rfl
  have kp12 := (blk_cell HT3.out 12).trans rfl
  go_wp2_with (with_reducible refine stop_store rfl ?_)
  refine store_blk rfl rfl 28 _ _ rfl (q := f) (i := 0) (cur' := recCells 1 s v k se rq B m cb 0 0 0 0 0 ⟨#[]⟩) (recCells 1 s v k se rq B m cb 0 0 0 0 0 ⟨#[]⟩).toList rfl rfl rfl (by kernel_rfl) (by intro u hu; simp at hu; (repeat' (rcases hu with rfl | hu)) <;> first | rfl | (subst hu; rfl)) HF3.out (by simp) rfl ?_
  intro wz hgz hgr
  have HXZ := Aside0.mk (HX3.out.then_ (Frm.of_grown (S := fun k => k = f) hgr (fun k e => (Option.some.inj e).symm)) (fun k hk hlt => by have := HFG.out.2.1; omega))
  have HOZ := Aside0.mk (R40_frm HO3.out HF3.out (by decide) (Frm.of_grown (S := fun k => k = f) hgr (fun k e => (Option.some.inj e).symm)))
  clear hgr kp0 kp1 kp2 kp3 kp4 kp5 kp6 kp7 kp8 kp9 kp10 kp11 kp12
  go_wp2
  (try simp only [Exit.inBlock, Exit.then])
  refine bodyPost_ret (results_cell_row rfl _ _ f 28 (recCells 1 s v k se rq B m cb 0 0 0 0 0 ⟨#[]⟩) (0, 0) _ rfl hgz Try.underlying28 rfl (by kernel_rfl)) rfl ?_
  exact ⟨B, cb, rfl, HOZ.out, HXZ.out⟩

theorem wr_small {a : Int} (h0 : 0 ≤ a) (h1 : a < 256) : wrap64 a = a ∧ wrap64 (a * 16777216) = a * 16777216 ∧ wrap64 (a * 65536) = a * 65536 ∧ wrap64 (a * 256) = a * 256 := by unfold wrap64; omega
theorem four_bytes (a b c d : Int) (t : List Int) (ha : 0 ≤ a ∧ a < 256) (hb : 0 ≤ b ∧ b < 256) (hc : 0 ≤ c ∧ c < 256) (hd : 0 ≤ d ∧ d < 256) : journal_four.f (a :: b :: c :: d :: t) = some (a * 16777216 + b * 65536 + c * 256 + d) := by
  unfold journal_four.f
  rw [if_pos (by simp only [List.length_cons]; omega), if_pos (by simp only [List.length_cons]; omega), if_pos (by simp only [List.length_cons]; omega), if_pos (by simp only [List.length_cons]; omega)]
  have e0 : rd (a :: b :: c :: d :: t) 0 = a := rfl
  have e1 : rd (a :: b :: c :: d :: t) 1 = b := rfl
  have e2 : rd (a :: b :: c :: d :: t) 2 = c := rfl
  have e3 : rd (a :: b :: c :: d :: t) 3 = d := rfl
  obtain ⟨a1, a2, a3, a4⟩ := wr_small ha.1 ha.2
  obtain ⟨b1, b2, b3, b4⟩ := wr_small hb.1 hb.2
  obtain ⟨c1, c2, c3, c4⟩ := wr_small hc.1 hc.2
  obtain ⟨d1, d2, d3, d4⟩ := wr_small hd.1 hd.2
  rw [e0, e1, e2, e3, a1, b1, c1, d1, a2, b3, c4, word_join .i64 (by decide) (fun n h0 h1 => wr_i64 n h0 (by omega)) a b c d ha hb hc hd]
theorem four_val (v : Int) (h0 : 0 ≤ v) (h1 : v < 4294967296) (t : List Int) : journal_four.f (four4 v ++ t) = some v := by
  have h := four_bytes ((v / 16777216) % 256) ((v / 65536) % 256) ((v / 256) % 256) (v % 256) t (by omega) (by omega) (by omega) (by omega)
  show journal_four.f (((v / 16777216) % 256) :: ((v / 65536) % 256) :: ((v / 256) % 256) :: (v % 256) :: t) = some v
  rw [h]
  congr 1
  omega
/-- A record's bytes, by their parts. -/
theorem rec_parts (sq kd : Int) (b t : List Int) : recBytes sq kd b ++ t = (withSum (recHead sq kd b.length) ++ b) ++ (four4 (sumW (withSum (recHead sq kd b.length) ++ b)) ++ t) := by
  unfold recBytes
  rw [show withSum (withSum (recHead sq kd b.length) ++ b) = (withSum (recHead sq kd b.length) ++ b) ++ four4 (sumW (withSum (recHead sq kd b.length) ++ b)) from rfl, List.append_assoc]
theorem withHead_len (sq kd : Int) (m : Nat) : (withSum (recHead sq kd m)).length = 16 := by rw [withSum_len, recHead_len]
theorem recBytes_len (sq kd : Int) (b : List Int) : (recBytes sq kd b).length = b.length + 20 := by
  unfold recBytes
  rw [withSum_len, List.length_append, withHead_len]
  omega
set_option maxHeartbeats 4000000 in
set_option maxRecDepth 100000 in
theorem rd_body (sq kd s v k se rq : Int) (l2 : List S40) (vn vp vb st of : Int) (x : ByteArray) (b t : List Int) (hsq : 1 ≤ sq ∧ sq ≤ 2147483647) (hE : recEnc sq kd s v k se rq l2 vn vp vb st of x = (recBytes sq kd b, 0)) (hb : bytesOk b = true) (hbl : b.length ≤ 3000000) (hkd : 0 ≤ kd ∧ kd < 256) (ht : bytesOk t = true) (hmx : (recBytes sq kd b ++ t).length ≤ 1000000000)
    (hrec : ∀ (w w1 : World) (rb : Nat) (A' : Option Addr) (c' : Nat), Below w.heap.size w w1 → w.heap.size ≤ rb → b.length ≤ c' → w1.heap[rb]? = some (.cells #[.slice A' b.length c', .int .i64 0] 147 (0, 0)) → C8 w A' b.length b →
      Calls Try.prog 84 #[.pointer (some ⟨rb, 0, none⟩), .int .i64 kd] w1 fun e w' => ∃ B nb cb, e = .returned (.agg (recCells kd s v k se rq B nb cb vn vp vb st of x)) ∧ l2.length = nb ∧ R40 w' w1.heap.size (.slice B nb cb) l2 ∧ Frm w1 w' (fun k => k = rb))
    (w : World) (A : Option Addr) (n c : Nat) (hn : (recBytes sq kd b ++ t).length = n) (hc : n ≤ c) (hC : C8 w A n (recBytes sq kd b ++ t)) :
    Calls Try.prog 71 #[.slice A n c, .int .i64 sq] w fun e w' => ∃ B nb cb, e = .returned (.tuple #[.agg (recCells kd s v k se rq B nb cb vn vp vb st of x), .int .i64 ((b.length : Int) + 20), .bool true]) ∧ l2.length = nb ∧ R40 w' w.heap.size (.slice B nb cb) l2 ∧ Below w.heap.size w w' := by
  obtain ⟨m, hm⟩ : ∃ m, m = b.length := ⟨_, rfl⟩
  obtain ⟨L, hL⟩ : ∃ L, L = recBytes sq kd b ++ t := ⟨_, rfl⟩
  have hp := rec_parts sq kd b t
  rw [← hL] at hp hn hC hmx
  have hH : (withSum (recHead sq kd b.length) ++ b).length = 16 + m := by rw [List.length_append, withHead_len, hm]
  have hlen : L.length = 20 + m + t.length := by rw [hp, List.length_append, hH, List.length_append, four4_len]; omega
  have hk : kd % 256 = kd := by omega
  have hLx : L = 74 :: 82 :: (kd % 256) :: 0 :: (four4 sq ++ (four4 (b.length : Int) ++ (four4 (sumW (recHead sq kd b.length)) ++ (b ++ (four4 (sumW (withSum (recHead sq kd b.length) ++ b)) ++ t))))) := by
    rw [hp]
    simp only [withSum, recHead, List.append_assoc, List.cons_append, List.nil_append]
  have h12 : L.take 12 = recHead sq kd b.length := by
    rw [hp]
    rw [show withSum (recHead sq kd b.length) = recHead sq kd b.length ++ four4 (sumW (recHead sq kd b.length)) from rfl, List.append_assoc, List.append_assoc]
    exact List.take_left' (recHead_len ..)
  have hs1 := sumW_range (recHead sq kd b.length) (recHead_ok ..)
  have hok2 : bytesOk (withSum (recHead sq kd b.length) ++ b) = true := bytesOk_append (withSum_ok (recHead_ok ..)) hb
  have hs2 := sumW_range _ hok2
  have hLok : bytesOk L = true := by rw [hp]; exact bytesOk_append hok2 (bytesOk_append (four4_ok _) ht)
  have e0 : rd L 0 = 74 := by rw [hLx]; rfl
  have e1 : rd L 1 = 82 := by rw [hLx]; rfl
  have e2 : rd L 2 = kd := by rw [hLx]; exact hk
  have e3 : rd L 3 = 0 := by rw [hLx]; rfl
  have d4 : journal_four.f (L.drop 4) = some sq := by rw [hLx]; exact four_val sq (by omega) (by omega) _
  have d8 : journal_four.f (L.drop 8) = some (m : Int) := by rw [hLx, hm]; exact four_val (b.length : Int) (by omega) (by omega) _
  have d12 : journal_four.f (L.drop 12) = some (sumW (L.take 12)) := by rw [h12, hLx]; exact four_val _ hs1.1 hs1.2 _
  have dt : L.take (16 + m) = withSum (recHead sq kd b.length) ++ b := by rw [hp]; exact List.take_left' hH
  have dd : L.drop (16 + m) = four4 (sumW (withSum (recHead sq kd b.length) ++ b)) ++ t := by rw [hp]; exact List.drop_left' hH
  have d16 : journal_four.f (L.drop (16 + m)) = some (sumW (L.take (16 + m))) := by rw [dd, dt]; exact four_val _ hs2.1 hs2.2 _
  have db : (L.take (16 + m)).drop 16 = b := by rw [dt]; exact List.drop_left' (withHead_len _ _ _)
  rw [← hm]
  refine read_ok w A n c L sq m kd s v k se rq l2 vn vp vb st of x _ hn hc (by omega) hLok hC (by omega) e0 e1 e2 e3 d4 d8 d12 d16 hE ?_
  intro w1 rb A' c' h1 h2 h3 h4 h5
  rw [db] at h5
  rw [hm] at h3 h4 h5
  exact hrec w w1 rb A' c' h1 h2 h3 h4 h5

theorem str_bytes (s : ByteArray) : strOfNums (bytesOf s) = s := by
  unfold strOfNums bytesOf
  apply ByteArray.ext
  have e : ((fun n : Int => UInt8.ofNat n.toNat) ∘ fun b : UInt8 => (b.toNat : Int)) = id := by funext b; simp
  simp [e]
theorem empty_str {x : ByteArray} (h : x.toList = []) : x = ⟨#[]⟩ := by
  apply ByteArray.ext
  apply Array.toList_inj.1
  rw [ByteArray.toList_eq] at h
  exact h
/-- Where the next thing stands. -/
theorem step_at {l a t : List Int} {i : Nat} (hi : i ≤ l.length) (h : l.drop i = a ++ t) : i + a.length ≤ l.length ∧ l.drop (i + a.length) = t := ⟨drop_le rfl hi h, drop_next h⟩
theorem op_at {l t : List Int} {i : Nat} {o : S40} (hi : i ≤ l.length) (h : l.drop i = opEnc o ++ t) (ho : opOk o = true) : OpAt l (i : Int) o ((i + (opEnc o).length : Nat) : Int) := by
  obtain ⟨⟨a0, a1⟩, ⟨b0, b1⟩, h3, hs1, hs2⟩ := opOk_parts ho
  unfold opEnc at h ⊢
  by_cases e3 : o.f3 = -1
  · rw [if_pos e3] at h ⊢
    simp only [List.append_assoc] at h
    have r0 := readNum_drop a0 a1 hi h
    obtain ⟨hi1, h1⟩ := step_at hi h
    have r1 := readText_drop (by omega) hi1 h1
    obtain ⟨hi2, h2⟩ := step_at hi1 h1
    have r2 := readText_drop (by omega) hi2 h2
    obtain ⟨hi3, h3⟩ := step_at hi2 h2
    have r3 := readNum_drop (by omega) (by omega) hi3 h3
    obtain ⟨hi4, h4⟩ := step_at hi3 h3
    have r4 := readNum_drop b0 b1 hi4 h4
    refine ⟨_, _, _, _, _, _, r0, r1, str_bytes _, r2, str_bytes _, .inl ⟨e3, r3, ?_⟩⟩
    rw [r4]
    simp only [List.length_append]
    congr 3
    omega
  · rw [if_neg e3] at h ⊢
    have h3' : 0 ≤ o.f3 ∧ o.f3 ≤ 2147483647 := h3.resolve_left e3
    simp only [List.append_assoc] at h
    have r0 := readNum_drop a0 a1 hi h
    obtain ⟨hi1, h1⟩ := step_at hi h
    have r1 := readText_drop (by omega) hi1 h1
    obtain ⟨hi2, h2⟩ := step_at hi1 h1
    have r2 := readText_drop (by omega) hi2 h2
    obtain ⟨hi3, h3⟩ := step_at hi2 h2
    have r3 := readNum_drop (by omega) (by omega) hi3 h3
    obtain ⟨hi4, h4⟩ := step_at hi3 h3
    have r4 := readNum_drop h3'.1 h3'.2 hi4 h4
    obtain ⟨hi5, h5⟩ := step_at hi4 h4
    have r5 := readNum_drop b0 b1 hi5 h5
    refine ⟨_, _, _, _, _, _, r0, r1, str_bytes _, r2, str_bytes _, .inr ⟨_, r3, r4, ?_⟩⟩
    rw [r5]
    simp only [List.length_append]
    congr 3
    omega
theorem ops_at {l : List Int} : ∀ (ops : List S40) {t : List Int} {i : Nat}, i ≤ l.length → l.drop i = opsEncs ops ++ t → ops.all opOk = true → OpsAt l (i : Int) ops ((i + (opsEncs ops).length : Nat) : Int)
  | [], t, i, hi, h, ho => by simp [OpsAt, opsEncs]
  | o :: os, t, i, hi, h, ho => by
    rw [List.all_cons, Bool.and_eq_true] at ho
    have e : opsEncs (o :: os) = opEnc o ++ opsEncs os := by simp [opsEncs]
    rw [e, List.append_assoc] at h
    obtain ⟨hi1, h1⟩ := step_at hi h
    refine ⟨_, op_at hi h ho.1, ?_⟩
    have := ops_at os hi1 h1 ho.2
    rw [e, List.length_append, ← Nat.add_assoc]
    exact this
theorem ent_at (s v k se rq : Int) (ops : List S40) (h : entOk s v k se rq ops = true) : EntAt (entBytes s v k se rq ops) 0 s v k se rq ops ((entBytes s v k se rq ops).length : Int) := by
  obtain ⟨hx, hl, ho⟩ := entOk_parts h
  have hs := hx s (by simp)
  have hv := hx v (by simp)
  have hk := hx k (by simp)
  have he := hx se (by simp)
  have hq := hx rq (by simp)
  obtain ⟨L, hL⟩ : ∃ L, L = entBytes s v k se rq ops := ⟨_, rfl⟩
  rw [← hL]
  have h0 : L.drop 0 = (numEnc s).1 ++ ((numEnc v).1 ++ ((numEnc k).1 ++ ((numEnc se).1 ++ ((numEnc rq).1 ++ ((numEnc (ops.length : Int)).1 ++ (opsEncs ops ++ [])))))) := by
    rw [hL]
    simp [entBytes, opsEnc, List.append_assoc]
  have hi0 : 0 ≤ L.length := Nat.zero_le _
  have r0 := readNum_drop hs.1 hs.2 hi0 h0
  obtain ⟨hi1, h1⟩ := step_at hi0 h0
  have r1 := readNum_drop hv.1 hv.2 hi1 h1
  obtain ⟨hi2, h2⟩ := step_at hi1 h1
  have r2 := readNum_drop hk.1 hk.2 hi2 h2
  obtain ⟨hi3, h3⟩ := step_at hi2 h2
  have r3 := readNum_drop he.1 he.2 hi3 h3
  obtain ⟨hi4, h4⟩ := step_at hi3 h3
  have r4 := readNum_drop hq.1 hq.2 hi4 h4
  obtain ⟨hi5, h5⟩ := step_at hi4 h4
  have r5 := readNum_drop (by omega) (by omega) hi5 h5
  obtain ⟨hi6, h6⟩ := step_at hi5 h5
  have r6 := ops_at ops hi6 h6 ho
  refine ⟨_, _, _, _, _, _, r0, r1, r2, r3, r4, r5, ?_⟩
  have hlen := congrArg List.length h0
  simp only [List.drop_zero, List.length_append, List.length_nil] at hlen
  rw [show (L.length : Int) = ((0 + (numEnc s).1.length + (numEnc v).1.length + (numEnc k).1.length + (numEnc se).1.length + (numEnc rq).1.length + (numEnc (ops.length : Int)).1.length + (opsEncs ops).length : Nat) : Int) from by congr 1; omega]
  exact r6
theorem opEnc_small {o : S40} (h : opOk o = true) : (opEnc o).length ≤ 550 := by
  obtain ⟨_, _, _, hs1, hs2⟩ := opOk_parts h
  have t1 : (textEnc o.f1).1.length ≤ 5 + 256 := by
    unfold textEnc
    rw [if_neg (by omega), List.length_append, bytesOf_length]
    have := numBytes_len 4 (o.f1.size : Int)
    omega
  have t2 : (textEnc o.f2).1.length ≤ 5 + 256 := by
    unfold textEnc
    rw [if_neg (by omega), List.length_append, bytesOf_length]
    have := numBytes_len 4 (o.f2.size : Int)
    omega
  have n0 := numEnc_len o.f0
  have n4 := numEnc_len o.f4
  have n3 := numEnc_len o.f3
  have z0 := numEnc_len 0
  have z1 := numEnc_len 1
  unfold opEnc
  simp only [List.length_append]
  split
  · omega
  · rw [List.length_append]; omega
theorem opsEncs_small : ∀ (ops : List S40), ops.all opOk = true → (opsEncs ops).length ≤ 550 * ops.length
  | [], _ => by simp [opsEncs]
  | o :: os, h => by
    rw [List.all_cons, Bool.and_eq_true] at h
    have h1 := opEnc_small h.1
    have h2 := opsEncs_small os h.2
    have e : opsEncs (o :: os) = opEnc o ++ opsEncs os := by simp [opsEncs]
    rw [e, List.length_append, List.length_cons]
    omega
theorem entBytes_small {s v k se rq : Int} {ops : List S40} (h : entOk s v k se rq ops = true) : (entBytes s v k se rq ops).length ≤ 3000 := by
  obtain ⟨hx, hl, ho⟩ := entOk_parts h
  have h1 := numEnc_len s
  have h2 := numEnc_len v
  have h3 := numEnc_len k
  have h4 := numEnc_len se
  have h5 := numEnc_len rq
  have h6 := numEnc_len (ops.length : Int)
  have h7 := opsEncs_small ops ho
  unfold entBytes opsEnc
  simp only [List.length_append, List.length_nil]
  omega

def Num (v : Int) : Prop := 0 ≤ v ∧ v ≤ 2147483647
theorem nums1 {a : Int} (ha : Num a) : readNum (numsEnc [a]) 0 = (a, ((numsEnc [a]).length : Int), 0) := by
  obtain ⟨L, hL⟩ : ∃ L, L = numsEnc [a] := ⟨_, rfl⟩
  rw [← hL]
  have h0 : L.drop 0 = (numEnc a).1 ++ [] := by rw [hL]; simp [numsEnc]
  have hi0 : 0 ≤ L.length := Nat.zero_le _
  have r0 := readNum_drop ha.1 ha.2 hi0 h0
  have hlen := congrArg List.length h0
  simp only [List.drop_zero, List.length_append, List.length_nil] at hlen
  rw [show (L.length : Int) = ((0 + (numEnc a).1.length : Nat) : Int) from by congr 1; omega]
  exact r0
theorem nums3 {a b c : Int} (ha : Num a) (hb : Num b) (hc : Num c) : ∃ q1 q2, readNum (numsEnc [a, b, c]) 0 = (a, q1, 0) ∧ readNum (numsEnc [a, b, c]) q1 = (b, q2, 0) ∧ readNum (numsEnc [a, b, c]) q2 = (c, ((numsEnc [a, b, c]).length : Int), 0) := by
  obtain ⟨L, hL⟩ : ∃ L, L = numsEnc [a, b, c] := ⟨_, rfl⟩
  rw [← hL]
  have h0 : L.drop 0 = (numEnc a).1 ++ ((numEnc b).1 ++ ((numEnc c).1 ++ [])) := by rw [hL]; simp [numsEnc]
  have hi0 : 0 ≤ L.length := Nat.zero_le _
  have r0 := readNum_drop ha.1 ha.2 hi0 h0
  obtain ⟨hi1, h1⟩ := step_at hi0 h0
  have r1 := readNum_drop hb.1 hb.2 hi1 h1
  obtain ⟨hi2, h2⟩ := step_at hi1 h1
  have r2 := readNum_drop hc.1 hc.2 hi2 h2
  refine ⟨_, _, r0, r1, ?_⟩
  have hlen := congrArg List.length h0
  simp only [List.drop_zero, List.length_append, List.length_nil] at hlen
  rw [show (L.length : Int) = ((0 + (numEnc a).1.length + (numEnc b).1.length + (numEnc c).1.length : Nat) : Int) from by congr 1; omega]
  exact r2
theorem nums2t {a b : Int} {x : ByteArray} (ha : Num a) (hb : Num b) (hx : x.size ≤ 262144) : ∃ q1 q2, readNum (numsEnc [a, b] ++ (textEnc x).1) 0 = (a, q1, 0) ∧ readNum (numsEnc [a, b] ++ (textEnc x).1) q1 = (b, q2, 0) ∧ readText (numsEnc [a, b] ++ (textEnc x).1) q2 = (bytesOf x, ((numsEnc [a, b] ++ (textEnc x).1).length : Int), 0) := by
  obtain ⟨L, hL⟩ : ∃ L, L = numsEnc [a, b] ++ (textEnc x).1 := ⟨_, rfl⟩
  rw [← hL]
  have h0 : L.drop 0 = (numEnc a).1 ++ ((numEnc b).1 ++ ((textEnc x).1 ++ [])) := by rw [hL]; simp [numsEnc]
  have hi0 : 0 ≤ L.length := Nat.zero_le _
  have r0 := readNum_drop ha.1 ha.2 hi0 h0
  obtain ⟨hi1, h1⟩ := step_at hi0 h0
  have r1 := readNum_drop hb.1 hb.2 hi1 h1
  obtain ⟨hi2, h2⟩ := step_at hi1 h1
  have r2 := readText_drop hx hi2 h2
  refine ⟨_, _, r0, r1, ?_⟩
  have hlen := congrArg List.length h0
  simp only [List.drop_zero, List.length_append, List.length_nil] at hlen
  rw [show (L.length : Int) = ((0 + (numEnc a).1.length + (numEnc b).1.length + (textEnc x).1.length : Nat) : Int) from by congr 1; omega]
  exact r2
theorem nums3t {a b c : Int} {x : ByteArray} (ha : Num a) (hb : Num b) (hc : Num c) (hx : x.size ≤ 262144) : ∃ q0 q1 q2, readNum (numsEnc [a, b, c] ++ (textEnc x).1) 0 = (a, q0, 0) ∧ readNum (numsEnc [a, b, c] ++ (textEnc x).1) q0 = (b, q1, 0) ∧ readNum (numsEnc [a, b, c] ++ (textEnc x).1) q1 = (c, q2, 0) ∧ readText (numsEnc [a, b, c] ++ (textEnc x).1) q2 = (bytesOf x, ((numsEnc [a, b, c] ++ (textEnc x).1).length : Int), 0) := by
  obtain ⟨L, hL⟩ : ∃ L, L = numsEnc [a, b, c] ++ (textEnc x).1 := ⟨_, rfl⟩
  rw [← hL]
  have h0 : L.drop 0 = (numEnc a).1 ++ ((numEnc b).1 ++ ((numEnc c).1 ++ ((textEnc x).1 ++ []))) := by rw [hL]; simp [numsEnc]
  have hi0 : 0 ≤ L.length := Nat.zero_le _
  have r0 := readNum_drop ha.1 ha.2 hi0 h0
  obtain ⟨hi1, h1⟩ := step_at hi0 h0
  have r1 := readNum_drop hb.1 hb.2 hi1 h1
  obtain ⟨hi2, h2⟩ := step_at hi1 h1
  have r2 := readNum_drop hc.1 hc.2 hi2 h2
  obtain ⟨hi3, h3⟩ := step_at hi2 h2
  have r3 := readText_drop hx hi3 h3
  refine ⟨_, _, _, r0, r1, r2, ?_⟩
  have hlen := congrArg List.length h0
  simp only [List.drop_zero, List.length_append, List.length_nil] at hlen
  rw [show (L.length : Int) = ((0 + (numEnc a).1.length + (numEnc b).1.length + (numEnc c).1.length + (textEnc x).1.length : Nat) : Int) from by congr 1; omega]
  exact r3
theorem blankE_parts {s v k se rq : Int} {l : List S40} (h : blankE s v k se rq l = true) : s = 0 ∧ v = 0 ∧ k = 0 ∧ se = 0 ∧ rq = 0 ∧ l = [] := by
  unfold blankE at h
  simp only [Bool.and_eq_true, beq_iff_eq, decide_eq_true_eq, List.length_eq_zero_iff] at h
  exact h
theorem noState_parts {of : Int} {x : ByteArray} (h : noState of x = true) : x = ⟨#[]⟩ ∧ of = 0 := by
  unfold noState at h
  simp only [Bool.and_eq_true, beq_iff_eq, decide_eq_true_eq] at h
  exact ⟨empty_str h.1, h.2⟩
theorem noView_parts {a b c : Int} (h : noView a b c = true) : a = 0 ∧ b = 0 ∧ c = 0 := by
  unfold noView at h
  simpa only [Bool.and_eq_true, beq_iff_eq] using h
theorem vMay_parts {a b c : Int} (h : vMay a b c = true) : Num a ∧ Num b ∧ Num c ∧ 1 ≤ a := by
  unfold vMay at h
  simp only [Bool.and_eq_true, decide_eq_true_eq] at h
  unfold Num
  omega
theorem nMay_parts {a b c : Int} (h : nMay a b c = true) : Num a ∧ b = 0 ∧ c = 0 ∧ 1 ≤ a := by
  unfold nMay at h
  simp only [Bool.and_eq_true, decide_eq_true_eq, beq_iff_eq] at h
  unfold Num
  omega
/-- What Encode writes, by the kind. -/
theorem recEnc_parts {sq kd s v k se rq : Int} {l : List S40} {vn vp vb st of : Int} {x : ByteArray} {r1 : List Int} (h : recEnc sq kd s v k se rq l vn vp vb st of x = (r1, 0)) :
    r1 = recBytes sq kd (recBody kd s v k se rq l vn vp vb st of x).1 ∧ (recBody kd s v k se rq l vn vp vb st of x).2 = true ∧ (1 ≤ sq ∧ sq ≤ 2147483647) ∧ x.size ≤ 200000 := by
  unfold recEnc at h
  by_cases hx : (x.size : Int) > 200000
  · rw [if_pos hx] at h; cases h
  · rw [if_neg hx] at h
    by_cases hb : ((recBody kd s v k se rq l vn vp vb st of x).2 && seqOk sq) = true
    · rw [if_pos hb] at h
      rw [Bool.and_eq_true] at hb
      have hs := hb.2
      unfold seqOk at hs
      simp only [Bool.and_eq_true, decide_eq_true_eq] at hs
      exact ⟨(Prod.mk.inj h).1.symm, hb.1, hs, by omega⟩
    · rw [if_neg hb] at h; cases h
set_option maxRecDepth 100000 in
theorem rd_valid (sq : Int) (y : JR) (r1 : List Int) (hE : recEnc sq y.kd y.s y.v y.k y.se y.rq y.ops y.vn y.vp y.vb y.st y.of y.x = (r1, 0)) (t : List Int) (ht : bytesOk t = true) (hmx : (r1 ++ t).length ≤ 1000000000) : RdSpec (r1 ++ t) sq (some (y, r1.length)) := by
  obtain ⟨kd, s, v, k, se, rq, ops, vn, vp, vb, st, of, x⟩ := y
  simp only at hE
  obtain ⟨h1, h2, hsq, hx⟩ := recEnc_parts hE
  subst h1
  have hbok := recBody_ok kd s v k se rq ops vn vp vb st of x
  have hbl := recBody_len kd s v k se rq ops vn vp vb st of x
  have key := rd_body sq kd s v k se rq ops vn vp vb st of x _ t hsq hE hbok hbl
  have fin : (0 ≤ kd ∧ kd < 256) → (∀ (w w1 : World) (rb : Nat) (A' : Option Addr) (c' : Nat), Below w.heap.size w w1 → w.heap.size ≤ rb → (recBody kd s v k se rq ops vn vp vb st of x).1.length ≤ c' → w1.heap[rb]? = some (.cells #[.slice A' (recBody kd s v k se rq ops vn vp vb st of x).1.length c', .int .i64 0] 147 (0, 0)) → C8 w A' (recBody kd s v k se rq ops vn vp vb st of x).1.length (recBody kd s v k se rq ops vn vp vb st of x).1 →
      Calls Try.prog 84 #[.pointer (some ⟨rb, 0, none⟩), .int .i64 kd] w1 fun e w' => ∃ B nb cb, e = .returned (.agg (recCells kd s v k se rq B nb cb vn vp vb st of x)) ∧ ops.length = nb ∧ R40 w' w1.heap.size (.slice B nb cb) ops ∧ Frm w1 w' (fun k => k = rb)) → RdSpec (recBytes sq kd (recBody kd s v k se rq ops vn vp vb st of x).1 ++ t) sq (some (⟨kd, s, v, k, se, rq, ops, vn, vp, vb, st, of, x⟩, (recBytes sq kd (recBody kd s v k se rq ops vn vp vb st of x).1).length)) := by
    intro hkd hrec w A n c hn hc hC
    refine (key hkd ht hmx hrec w A n c hn hc hC).mono ?_
    rintro e w' ⟨B, nb, cb, rfl, rfl, hr, hb⟩
    exact ⟨B, cb, by rw [recBytes_len]; rfl, hr, hb⟩
  clear key
  by_cases k1 : kd = 1
  · subst k1
    have e1 : (recBody 1 s v k se rq ops vn vp vb st of x).2 = (entOk s v k se rq ops && (noView vn vp vb && ((st == 0) && noState of x))) := rfl
    rw [e1] at h2
    simp only [Bool.and_eq_true, beq_iff_eq] at h2
    obtain ⟨hok, hv, rfl, hs⟩ := h2
    obtain ⟨rfl, rfl, rfl⟩ := noView_parts hv
    obtain ⟨rfl, rfl⟩ := noState_parts hs
    refine fin (by omega) ?_
    have eb : (recBody 1 s v k se rq ops 0 0 0 0 0 ⟨#[]⟩).1 = entBytes s v k se rq ops := by
      show (if entOk s v k se rq ops = true then entBytes s v k se rq ops else []) = _
      rw [if_pos hok]
    rw [eb] at hbok ⊢
    have hsm := entBytes_small hok
    have hl := (entOk_parts hok).2.1
    intro w w1 rb A' c' hB hrb hc' hg hC
    refine (rd_entry w w1 rb _ c' A' (entBytes s v k se rq ops) s v k se rq ops ops.length rfl (by omega) rfl hc' hbok (by omega) hC hB hrb hg (ent_at s v k se rq ops hok) hok).mono ?_
    rintro e w' ⟨B, cb, rfl, hr, hf⟩
    exact ⟨B, _, cb, rfl, rfl, hr, hf⟩
  by_cases k2 : kd = 2
  · subst k2
    have e1 : (recBody 2 s v k se rq ops vn vp vb st of x).2 = (vMay vn vp vb && (blankE s v k se rq ops && ((st == 0) && noState of x))) := rfl
    rw [e1] at h2
    simp only [Bool.and_eq_true, beq_iff_eq] at h2
    obtain ⟨hv, hbk, rfl, hs⟩ := h2
    obtain ⟨rfl, rfl, rfl, rfl, rfl, rfl⟩ := blankE_parts hbk
    obtain ⟨rfl, rfl⟩ := noState_parts hs
    obtain ⟨p1, p2, p3, _⟩ := vMay_parts hv
    refine fin (by omega) ?_
    have eb : (recBody 2 0 0 0 0 0 [] vn vp vb 0 0 ⟨#[]⟩).1 = numsEnc [vn, vp, vb] := rfl
    rw [eb] at hbok hbl ⊢
    obtain ⟨q1, q2, r0, r1, r2⟩ := nums3 p1 p2 p3
    intro w w1 rb A' c' hB hrb hc' hg hC
    refine (rd_view w w1 rb _ c' A' (numsEnc [vn, vp, vb]) vn q1 vp q2 vb rfl hc' hbok (by omega) hC hB hrb hg r0 r1 r2).mono ?_
    rintro e w' ⟨rfl, hf⟩
    exact ⟨none, 0, 0, rfl, rfl, Kd.R_nil _ _ _ _ _, hf⟩
  by_cases k3 : kd = 3
  · subst k3
    have e1 : (recBody 3 s v k se rq ops vn vp vb st of x).2 = (nMay vn vp vb && (blankE s v k se rq ops && ((st == 0) && noState of x))) := rfl
    rw [e1] at h2
    simp only [Bool.and_eq_true, beq_iff_eq] at h2
    obtain ⟨hv, hbk, rfl, hs⟩ := h2
    obtain ⟨rfl, rfl, rfl, rfl, rfl, rfl⟩ := blankE_parts hbk
    obtain ⟨rfl, rfl⟩ := noState_parts hs
    obtain ⟨p1, rfl, rfl, _⟩ := nMay_parts hv
    refine fin (by omega) ?_
    have eb : (recBody 3 0 0 0 0 0 [] vn 0 0 0 0 ⟨#[]⟩).1 = numsEnc [vn] := rfl
    rw [eb] at hbok hbl ⊢
    intro w w1 rb A' c' hB hrb hc' hg hC
    refine (rd_matched w w1 rb _ c' A' (numsEnc [vn]) vn rfl hc' hbok (by omega) hC hB hrb hg (nums1 p1)).mono ?_
    rintro e w' ⟨rfl, hf⟩
    exact ⟨none, 0, 0, rfl, rfl, Kd.R_nil _ _ _ _ _, hf⟩
  by_cases k4 : kd = 4
  · subst k4
    have e1 : (recBody 4 s v k se rq ops vn vp vb st of x).2 = (nMay vn vp vb && (blankE s v k se rq ops && (numOk st && numOk of))) := rfl
    rw [e1] at h2
    simp only [Bool.and_eq_true, beq_iff_eq] at h2
    obtain ⟨hv, hbk, hst, hof⟩ := h2
    obtain ⟨rfl, rfl, rfl, rfl, rfl, rfl⟩ := blankE_parts hbk
    obtain ⟨p1, rfl, rfl, _⟩ := nMay_parts hv
    refine fin (by omega) ?_
    have eb : (recBody 4 0 0 0 0 0 [] vn 0 0 st of x).1 = numsEnc [vn, st, of] ++ (textEnc x).1 := rfl
    rw [eb] at hbok hbl ⊢
    obtain ⟨q0, q1, q2, r0, r1, r2, r3⟩ := nums3t p1 (numOk_iff hst) (numOk_iff hof) (show x.size ≤ 262144 by omega)
    intro w w1 rb A' c' hB hrb hc' hg hC
    refine (rd_reset w w1 rb _ c' A' (numsEnc [vn, st, of] ++ (textEnc x).1) vn st of q0 q1 q2 (bytesOf x) x rfl hc' hbok (by omega) hC hB hrb hg r0 r1 r2 r3 (str_bytes x)).mono ?_
    rintro e w' ⟨rfl, hf⟩
    exact ⟨none, 0, 0, rfl, rfl, Kd.R_nil _ _ _ _ _, hf⟩
  by_cases k5 : kd = 5
  · subst k5
    have e1 : (recBody 5 s v k se rq ops vn vp vb st of x).2 = (noView vn vp vb && (blankE s v k se rq ops && (numOk st && numOk of))) := rfl
    rw [e1] at h2
    simp only [Bool.and_eq_true, beq_iff_eq] at h2
    obtain ⟨hv, hbk, hst, hof⟩ := h2
    obtain ⟨rfl, rfl, rfl, rfl, rfl, rfl⟩ := blankE_parts hbk
    obtain ⟨rfl, rfl, rfl⟩ := noView_parts hv
    refine fin (by omega) ?_
    have eb : (recBody 5 0 0 0 0 0 [] 0 0 0 st of x).1 = numsEnc [st, of] ++ (textEnc x).1 := rfl
    rw [eb] at hbok hbl ⊢
    obtain ⟨q1, q2, r0, r1, r2⟩ := nums2t (numOk_iff hst) (numOk_iff hof) (show x.size ≤ 262144 by omega)
    intro w w1 rb A' c' hB hrb hc' hg hC
    refine (rd_save w w1 rb _ c' A' (numsEnc [st, of] ++ (textEnc x).1) st of q1 q2 (bytesOf x) x rfl hc' hbok (by omega) hC hB hrb hg r0 r1 r2 (str_bytes x)).mono ?_
    rintro e w' ⟨rfl, hf⟩
    exact ⟨none, 0, 0, rfl, rfl, Kd.R_nil _ _ _ _ _, hf⟩
  by_cases k6 : kd = 6
  · subst k6
    have e1 : (recBody 6 s v k se rq ops vn vp vb st of x).2 = (numOk st && (blankE s v k se rq ops && (noState of x && noView vn vp vb))) := rfl
    rw [e1] at h2
    simp only [Bool.and_eq_true, beq_iff_eq] at h2
    obtain ⟨hst, hbk, hs, hv⟩ := h2
    obtain ⟨rfl, rfl, rfl, rfl, rfl, rfl⟩ := blankE_parts hbk
    obtain ⟨rfl, rfl, rfl⟩ := noView_parts hv
    obtain ⟨rfl, rfl⟩ := noState_parts hs
    refine fin (by omega) ?_
    have eb : (recBody 6 0 0 0 0 0 [] 0 0 0 st 0 ⟨#[]⟩).1 = numsEnc [st] := rfl
    rw [eb] at hbok hbl ⊢
    intro w w1 rb A' c' hB hrb hc' hg hC
    refine (rd_commit w w1 rb _ c' A' (numsEnc [st]) st rfl hc' hbok (by omega) hC hB hrb hg (nums1 (numOk_iff hst))).mono ?_
    rintro e w' ⟨rfl, hf⟩
    exact ⟨none, 0, 0, rfl, rfl, Kd.R_nil _ _ _ _ _, hf⟩
  · exfalso
    unfold recBody at h2
    rw [if_neg k1, if_neg k2, if_neg k3, if_neg k4, if_neg k5, if_neg k6] at h2
    cases h2

/-- d is what Encode writes of the records ys, numbered from k + 1 on. -/
def Enc : Nat → List JR → List Int → Prop
  | _, [], d => d = []
  | k, y :: ys, d => ∃ r1 d', y.enc ((k : Int) + 1) = (r1, 0) ∧ d = r1 ++ d' ∧ Enc (k + 1) ys d'
/-- ys are those of xs, in order, that Encode takes as number k + 1 and on, as far as it went. -/
def Pick : Nat → List JR → List JR → Prop
  | _, _, [] => True
  | _, [], _ :: _ => False
  | k, x :: xs, y :: ys => if (x.enc ((k : Int) + 1)).2 = 0 then x = y ∧ Pick (k + 1) xs ys else Pick k xs (y :: ys)
theorem enc_ok {y : JR} {sq : Int} {r1 : List Int} (h : y.enc sq = (r1, 0)) : bytesOk r1 = true ∧ 20 ≤ r1.length := by
  obtain ⟨h1, _⟩ := recEnc_parts h
  rw [h1, recBytes_len]
  refine ⟨?_, by omega⟩
  unfold recBytes
  exact withSum_ok (bytesOk_append (withSum_ok (recHead_ok ..)) (recBody_ok ..))
theorem Enc_snoc : ∀ (ys : List JR) (k : Nat) (d r1 : List Int) (y : JR), Enc k ys d → y.enc (((k + ys.length : Nat) : Int) + 1) = (r1, 0) → Enc k (ys ++ [y]) (d ++ r1)
  | [], k, d, r1, y, h, hr => by
    obtain rfl : d = [] := h
    exact ⟨r1, [], by simpa using hr, by simp, rfl⟩
  | z :: ys, k, d, r1, y, h, hr => by
    obtain ⟨r2, d', h1, rfl, h3⟩ := h
    refine ⟨r2, d' ++ r1, h1, by rw [List.append_assoc], Enc_snoc ys (k + 1) d' r1 y h3 ?_⟩
    rw [show k + 1 + ys.length = k + (z :: ys).length by rw [List.length_cons]; omega]
    exact hr
theorem Enc_ok : ∀ (ys : List JR) (k : Nat) (d : List Int), Enc k ys d → bytesOk d = true ∧ 20 * ys.length ≤ d.length
  | [], k, d, h => by
    obtain rfl : d = [] := h
    exact ⟨rfl, by simp⟩
  | z :: ys, k, d, h => by
    obtain ⟨r2, d', h1, rfl, h3⟩ := h
    obtain ⟨h4, h5⟩ := Enc_ok ys (k + 1) d' h3
    obtain ⟨h6, h7⟩ := enc_ok h1
    exact ⟨bytesOk_append h6 h4, by rw [List.length_append, List.length_cons]; omega⟩
theorem wrGo_pick : ∀ (l : List JR) (d es : List Int) (ys : List JR), es.length = ys.length → Enc 0 ys d → ∃ zs, (wrGo l (d, es, ys)).2.2 = ys ++ zs ∧ Pick ys.length l zs ∧ Enc 0 (ys ++ zs) (wrGo l (d, es, ys)).1 ∧ (wrGo l (d, es, ys)).2.1.length = (ys ++ zs).length
  | [], d, es, ys, he, hE => ⟨[], by simp [wrGo], trivial, by simpa [wrGo] using hE, by simpa [wrGo] using he⟩
  | y :: l, d, es, ys, he, hE => by
    unfold wrGo
    by_cases h6 : d.length < 60000
    · rw [if_pos h6]
      by_cases h0 : (y.enc ((es.length : Int) + 1)).2 = 0
      · rw [if_pos h0]
        have hE2 : Enc 0 (ys ++ [y]) (d ++ (y.enc ((es.length : Int) + 1)).1) := Enc_snoc ys 0 d _ y hE (by rw [Nat.zero_add, ← he]; exact Prod.ext rfl h0)
        obtain ⟨zs, h1, h2, h3, h4⟩ := wrGo_pick l (d ++ (y.enc ((es.length : Int) + 1)).1) (es ++ [((d.length + (y.enc ((es.length : Int) + 1)).1.length : Nat) : Int)]) (ys ++ [y]) (by simp [he]) hE2
        refine ⟨y :: zs, by rw [h1]; simp, ?_, by rw [show ys ++ y :: zs = ys ++ [y] ++ zs by simp]; exact h3, by rw [h4]; simp⟩
        show (if (y.enc ((ys.length : Int) + 1)).2 = 0 then _ else _)
        rw [← he, if_pos h0]
        rw [List.length_append] at h2
        rw [he]
        exact ⟨rfl, h2⟩
      · rw [if_neg h0]
        obtain ⟨zs, h1, h2, h3, h4⟩ := wrGo_pick l d es ys he hE
        refine ⟨zs, h1, ?_, h3, h4⟩
        cases zs with
        | nil => trivial
        | cons z zs =>
          show (if (y.enc ((ys.length : Int) + 1)).2 = 0 then _ else _)
          rw [← he, if_neg h0, he]
          exact h2
    · rw [if_neg h6]
      exact ⟨[], by simp, trivial, by simpa using hE, by simpa using he⟩
theorem wrGo_len : ∀ (l : List JR) (d es : List Int) (ys : List JR), d.length ≤ 4100000 → (wrGo l (d, es, ys)).1.length ≤ 4100000
  | [], d, es, ys, h => h
  | y :: l, d, es, ys, h => by
    unfold wrGo
    by_cases h6 : d.length < 60000
    · rw [if_pos h6]
      by_cases h0 : (y.enc ((es.length : Int) + 1)).2 = 0
      · rw [if_pos h0]
        have := enc_len y ((es.length : Int) + 1)
        exact wrGo_len l _ _ _ (by rw [List.length_append]; omega)
      · rw [if_neg h0]
        exact wrGo_len l _ _ _ h
    · rw [if_neg h6]
      exact h

theorem four_word (l : List Int) (hok : bytesOk l = true) (h4 : 4 ≤ l.length) : journal_four.f l = some (wordAt l 0) := by
  have h0 := bytesOk_rd hok 0 (by omega)
  have h1 := bytesOk_rd hok 1 (by omega)
  have h2 := bytesOk_rd hok 2 (by omega)
  have h3 := bytesOk_rd hok 3 (by omega)
  match l, h4 with
  | a :: b :: c :: d :: t, _ => exact four_bytes a b c d t h0 h1 h2 h3
  | [], h => simp at h
  | [_], h => simp at h
  | [_, _], h => simp at h
  | [_, _, _], h => simp at h
theorem four_at (l : List Int) (hok : bytesOk l = true) (p : Nat) (h4 : p + 4 ≤ l.length) : journal_four.f (l.drop p) = some (wordAt l p) := by
  rw [four_word _ (bytesOk_drop hok p) (by rw [List.length_drop]; omega), wordAt_drop]
theorem four_same {l : List Int} (hok : bytesOk l = true) {p : Nat} {r : Int} (h4 : p + 4 ≤ l.length) (h : journal_four.f (l.drop p) = some r) : wordAt l p = r := by
  rw [four_at l hok p h4] at h
  exact Option.some.inj h
theorem spoilt_body (sq kd : Int) (b t : List Int) (i : Nat) (v : Int) (hi : i < (recBytes sq kd b).length) (hv : 0 ≤ v ∧ v < 256) (hne : v ≠ rd (recBytes sq kd b ++ t) i) (hsq : 1 ≤ sq ∧ sq ≤ 2147483647) (hb : bytesOk b = true) (hbl : b.length ≤ 3000000) (hkd : 0 ≤ kd ∧ kd < 256) (ht : bytesOk t = true) (hmx : (recBytes sq kd b ++ t).length ≤ 1000000000) :
    RdSpec ((recBytes sq kd b ++ t).set i v) sq none := by
  rw [recBytes_len] at hi
  obtain ⟨m, hm⟩ : ∃ m, m = b.length := ⟨_, rfl⟩
  obtain ⟨L, hL⟩ : ∃ L, L = recBytes sq kd b ++ t := ⟨_, rfl⟩
  have hp := rec_parts sq kd b t
  rw [← hL] at hp hmx hne ⊢
  have hH : (withSum (recHead sq kd b.length) ++ b).length = 16 + m := by rw [List.length_append, withHead_len, hm]
  have hlen : L.length = 20 + m + t.length := by rw [hp, List.length_append, hH, List.length_append, four4_len]; omega
  have hLx : L = 74 :: 82 :: (kd % 256) :: 0 :: (four4 sq ++ (four4 (b.length : Int) ++ (four4 (sumW (recHead sq kd b.length)) ++ (b ++ (four4 (sumW (withSum (recHead sq kd b.length) ++ b)) ++ t))))) := by
    rw [hp]
    simp only [withSum, recHead, List.append_assoc, List.cons_append, List.nil_append]
  have h12 : L.take 12 = recHead sq kd b.length := by
    rw [hp]
    rw [show withSum (recHead sq kd b.length) = recHead sq kd b.length ++ four4 (sumW (recHead sq kd b.length)) from rfl, List.append_assoc, List.append_assoc]
    exact List.take_left' (recHead_len ..)
  have hs1 := sumW_range (recHead sq kd b.length) (recHead_ok ..)
  have hok2 : bytesOk (withSum (recHead sq kd b.length) ++ b) = true := bytesOk_append (withSum_ok (recHead_ok ..)) hb
  have hs2 := sumW_range _ hok2
  have hLok : bytesOk L = true := by rw [hp]; exact bytesOk_append hok2 (bytesOk_append (four4_ok _) ht)
  have e0 : rd L 0 = 74 := by rw [hLx]; rfl
  have e1 : rd L 1 = 82 := by rw [hLx]; rfl
  have e3 : rd L 3 = 0 := by rw [hLx]; rfl
  have d4 : journal_four.f (L.drop 4) = some sq := by rw [hLx]; exact four_val sq (by omega) (by omega) _
  have d8 : journal_four.f (L.drop 8) = some (m : Int) := by rw [hLx, hm]; exact four_val (b.length : Int) (by omega) (by omega) _
  have d12 : journal_four.f (L.drop 12) = some (sumW (L.take 12)) := by rw [h12, hLx]; exact four_val _ hs1.1 hs1.2 _
  have dt : L.take (16 + m) = withSum (recHead sq kd b.length) ++ b := by rw [hp]; exact List.take_left' hH
  have dd : L.drop (16 + m) = four4 (sumW (withSum (recHead sq kd b.length) ++ b)) ++ t := by rw [hp]; exact List.drop_left' hH
  have d16 : journal_four.f (L.drop (16 + m)) = some (sumW (L.take (16 + m))) := by rw [dd, dt]; exact four_val _ hs2.1 hs2.2 _
  rw [← hm] at hi
  clear hp hH hLx h12 hs1 hok2 hs2 dt dd hL
  have w4 := four_same hLok (by omega) d4
  have w8 := four_same hLok (by omega) d8
  have w12 := four_same hLok (by omega) d12
  have w16 := four_same hLok (by omega) d16
  clear d4 d8 d12 d16
  obtain ⟨M, hM⟩ : ∃ M, M = L.set i v := ⟨_, rfl⟩
  have hMok : bytesOk M = true := by rw [hM]; exact bytesOk_set' L i v hLok hv.1 hv.2
  have hMl : M.length = L.length := by rw [hM, List.length_set]
  have hrd : ∀ j : Nat, rd M (j : Int) = if i = j then v else rd L (j : Int) := fun j => by rw [hM]; exact rd_set L i j v (by omega)
  have hfar : ∀ p : Nat, (p + 3 < i ∨ i < p) → wordAt M p = wordAt L p := fun p h => by rw [hM]; exact word_set_far L i v p (by omega) h
  have hnear : ∀ p : Nat, p ≤ i ∧ i < p + 4 → wordAt M p ≠ wordAt L p := fun p h he => hne (by
    rw [hM] at he hMok
    exact word_set_near L i v p hLok hMok (by omega) h he)
  have htake : ∀ n : Nat, n ≤ i → M.take n = L.take n := fun n h => by rw [hM]; exact take_set_ge L i n v h
  have hsum : ∀ n : Nat, i < n → n ≤ L.length → sumW (M.take n) ≠ sumW (L.take n) := fun n h1 h2 => by rw [hM]; exact sum_set L i n v hLok hv h1 h2 hne
  rw [← hM]
  clear hM
  intro w A n c hn hc hC
  have m0 := hrd 0
  have m1 := hrd 1
  have m3 := hrd 3
  have f4 : journal_four.f (M.drop 4) = some (wordAt M 4) := four_at M hMok 4 (by omega)
  have f8 : journal_four.f (M.drop 8) = some (wordAt M 8) := four_at M hMok 8 (by omega)
  have f12 : journal_four.f (M.drop 12) = some (wordAt M 12) := four_at M hMok 12 (by omega)
  have f16 : journal_four.f (M.drop (16 + m)) = some (wordAt M (16 + m)) := four_at M hMok (16 + m) (by omega)
  by_cases i0 : i = 0
  · subst i0
    exact read_mark0 w A n c M sq v hn hc (by omega) hMok hC (by omega) (m0.trans (if_pos rfl)) (fun e => hne (e.trans e0.symm))
  have g0 : rd M 0 = 74 := (m0.trans (if_neg i0)).trans e0
  by_cases i1 : i = 1
  · subst i1
    exact read_mark1 w A n c M sq v hn hc (by omega) hMok hC (by omega) g0 (m1.trans (if_pos rfl)) (fun e => hne (e.trans e1.symm))
  have g1 : rd M 1 = 82 := (m1.trans (if_neg i1)).trans e1
  by_cases i3 : i = 3
  · subst i3
    exact read_mark3 w A n c M sq v hn hc (by omega) hMok hC (by omega) g0 g1 (m3.trans (if_pos rfl)) (fun e => hne (e.trans e3.symm))
  have g3 : rd M 3 = 0 := (m3.trans (if_neg i3)).trans e3
  by_cases i4 : 4 ≤ i ∧ i < 8
  · exact read_other w A n c M sq (wordAt M 4) hn hc (by omega) hMok hC (by omega) g0 g1 g3 f4 (by
      have := hnear 4 i4
      rw [w4] at this
      simpa using this)
  have g4 : wordAt M 4 = sq := (hfar 4 (by omega)).trans w4
  rw [g4] at f4
  by_cases i12 : i < 12
  · exact read_head w A n c M sq (wordAt M 12) hn hc (by omega) hMok hC (by omega) g0 g1 g3 f4 f12 (by
      rw [hfar 12 (by omega), w12]
      exact fun e => hsum 12 i12 (by omega) e.symm)
  by_cases i16 : i < 16
  · exact read_head w A n c M sq (wordAt M 12) hn hc (by omega) hMok hC (by omega) g0 g1 g3 f4 f12 (by
      rw [htake 12 (by omega), ← w12]
      exact hnear 12 (by omega))
  have g8 : wordAt M 8 = (m : Int) := (hfar 8 (by omega)).trans w8
  have g12 : wordAt M 12 = sumW (M.take 12) := by rw [hfar 12 (by omega), w12, htake 12 (by omega)]
  rw [g8] at f8
  rw [g12] at f12
  refine read_tail w A n c M sq m (wordAt M (16 + m)) hn hc (by omega) hMok hC (by omega) g0 g1 g3 f4 f8 f12 f16 ?_
  by_cases im : i < 16 + m
  · rw [hfar (16 + m) (by omega), w16]
    exact fun e => hsum (16 + m) im (by omega) e.symm
  · rw [htake (16 + m) (by omega), ← w16]
    exact hnear (16 + m) (by omega)

/-- I speaks of cells, none of them in T, and abides new blocks and the turn of a block from B on that is no cells; what is new, and what it spoke not of, may be barred from then on. -/
def TOwn {σ : Type} (B : Nat) (I : (Nat → Prop) → σ → World → Prop) : Prop :=
  ∀ T s W W' row T', I T s W → W.grownBy W' row → (∀ r, row = some r → B ≤ r ∧ ∃ o : Obj, W.heap[r]? = some o ∧ o.isCells = false) → (∀ k, T' k → T k ∨ (W.heap.size ≤ k ∧ k < W'.heap.size)) → I T' s W'
section
variable {σ : Type} {B B' : Nat} {I : (Nat → Prop) → σ → World → Prop} {T T' : Nat → Prop} {s : σ} {W : World}
theorem TOwn.weak (h : TOwn B I) (hB : B ≤ B') : TOwn B' I := fun T s W W' row T' hs hg hr hT => h T s W W' row T' hs hg (fun r e => ⟨Nat.le_trans hB (hr r e).1, (hr r e).2⟩) hT
theorem TOwn.alloc (h : TOwn B I) (o : Obj) (hs : I T s W) (hT : ∀ k, T' k → T k ∨ k = W.heap.size) : I T' s (W.alloc o) := h T s W _ none T' hs (World.grownBy_alloc W o none) (fun r e => by cases e) (fun k hk => (hT k hk).imp_right (fun e => by rw [World.size_alloc]; omega))
theorem TOwn.drew (h : TOwn B I) (hs : I T s W) : I T s W.drew := h T s W W.drew none T hs ⟨rfl, rfl, rfl, Nat.le_refl _, fun _ _ _ => rfl⟩ (fun r e => by cases e) (fun k hk => .inl hk)
theorem TOwn.less (h : TOwn B I) (hs : I T s W) (hT : ∀ k, T' k → T k) : I T' s W := h T s W W none T' hs ⟨rfl, rfl, rfl, Nat.le_refl _, fun _ _ _ => rfl⟩ (fun r e => by cases e) (fun k hk => .inl (hT k hk))
theorem TOwn.putObj (h : TOwn B I) {l : Nat} {o : Obj} (o' : Obj) (hs : I T s W) (hB : B ≤ l) (hl : W.heap[l]? = some o) (ho : o.isCells = false) : I T s (W.putObj l o') :=
  h T s W _ (some l) T hs (grownBy_putObj' W l o') (fun r e => by cases e; exact ⟨hB, o, hl, ho⟩) (fun k hk => .inl hk)
end
/-- How the body of a round may be left. -/
def strPost (T : Nat → Prop) (good : World → Prop) (Ix : Code → World → Prop) (W : World) : Exit → Act → World → Prop
  | .normal, _, W' => (∀ k, T k → W'.heap[k]? = W.heap[k]?) ∧ good W'
  | .ret, _, W' => (∀ k, T k → W'.heap[k]? = W.heap[k]?) ∧ Ix .ret W'
  | .exit id, _, W' => (∀ k, T k → W'.heap[k]? = W.heap[k]?) ∧ Ix (.exit id) W'
  | .goto t, _, W' => (∀ k, T k → W'.heap[k]? = W.heap[k]?) ∧ Ix (.goto t) W'
  | .panic _, _, _ => False
  | .outgrown, _, _ => False

theorem OwnFrom.weak {β : Type} {B B' : Nat} {I : β → World → Prop} (h : OwnFrom B I) (hB : B ≤ B') : OwnFrom B' I := fun s W W' row hs hg hr => h s W W' row hs hg (fun r e => ⟨Nat.le_trans hB (hr r e).1, (hr r e).2⟩)
/-- In a round an operation that is no defer is carried out as everywhere (the wide fence). -/
theorem wpListIn_of {P : Program} {ops : Array Oper} {Q : Exit → Act → World → Prop} {n : Nat} (l₀ : Nat) : ∀ (L : List Oper) (a : Act) (w : World), ¬ LetsOut Q → (∀ o ∈ L, ∀ c, o.op ≠ .defer c) → wpList P ops Q L a w → wpListIn (Fence.wide.inRound l₀) n P ops Q L a w := by
  intro L
  induction L with
  | nil => intro a w _ _ h; exact h
  | cons o L ih =>
    intro a w hno hd h
    have hd' : ∀ o ∈ L, ∀ c, o.op ≠ .defer c := fun o ho => hd o (List.mem_cons_of_mem _ ho)
    unfold wpListIn
    unfold wpList at h
    split
    · rename_i hw
      rw [if_pos hw] at h
      refine ⟨fun _ _ => trivial, ?_⟩
      have hs : o.semAt (Fence.wide.inRound l₀).round a.eval = execOp a.eval o := Oper.semAt_some l₀ _ _ (hd o List.mem_cons_self)
      rw [hs]
      replace h := h.resolve_right (fun h2 => hno h2.2)
      unfold Oper.wp at h
      revert h
      cases hr : (execOp a.eval o).run P w with
      | ok x w' =>
        cases x with
        | value v => intro h; exact ih _ _ hno hd' h
        | skip => intro h; exact ih _ _ hno hd' h
        | defer d => intro h; exact ih _ _ hno hd' h
        | enter f args =>
          intro h
          refine ⟨fun h => by simp [Fence.wide, Fence.inRound] at h, CallsIn.inRound l₀ (callsIn_wide.2 (Calls.mono h ?_))⟩
          rintro (v | c | _) w'' h2
          · exact ih _ _ hno hd' h2
          · exact h2
          · exact h2
        | row r args => intro h; exact ⟨fun h => by simp [Fence.wide, Fence.inRound] at h, fun c cs _ => let ⟨v, w', r, s⟩ := h c cs; ⟨v, w', ih _ _ hno hd' r, stepsIn_wide.2 s⟩⟩
        | _ => intro h; exact h.elim
      | halt e w' =>
        cases e with
        | panic v => intro h; exact h
        | _ => intro h; exact h.elim
    · rename_i hw
      rw [if_neg hw] at h
      exact ⟨fun _ _ => trivial, ih _ _ hno hd' h⟩

/-- One operation that yields a value, under a wide fence. -/
theorem listIn_value {P : Program} {ops : Array Oper} {Q : Exit → Act → World → Prop} {n : Nat} {r : Option Nat} {o : Oper} {rest : List Oper} {a : Act} {W W1 : World} {v : Value} (hgd : o.guard = none) (hnd : ∀ c, o.op ≠ .defer c) (hrun : (execOp a.eval o).run P W = .ok (.value v) W1)
    (h : wpListIn { Fence.wide with round := r } n P ops Q rest (a.put o.dst v) W1) : wpListIn { Fence.wide with round := r } n P ops Q (o :: rest) a W := by
  refine wpListIn_plain hgd fun K hK => ⟨fun _ _ => trivial, ?_⟩
  have hs : o.semAt r a.eval = execOp a.eval o := by
    cases r with
    | none => rfl
    | some l₀ => exact Oper.semAt_some l₀ _ _ hnd
  show o.uponIn _ n P a K Q ((o.semAt r a.eval).run P W)
  rw [hs, hrun]
  exact hK _ _ h
theorem OwnFrom.drew {β : Type} {B : Nat} {I : β → World → Prop} (h : OwnFrom B I) {s : β} {W : World} (hs : I s W) : I s W.drew := h s W W.drew none hs ⟨rfl, rfl, rfl, Nat.le_refl _, fun _ _ _ => rfl⟩ (fun r e => by cases e)

/-- A plain region in a round (the wide fence). -/
theorem region_round {P : Program} {id : Nat} {L : List Oper} {Q : Exit → Act → World → Prop} {a : Act} {w : World} (l₀ : Nat) (hno : ¬ LetsOut Q) (hd : ∀ o ∈ L, ∀ c, o.op ≠ .defer c) (h : wpList P L.toArray Q L a w) : (Code.region id L.toArray false).wpIn (Fence.wide.inRound l₀) 0 P Q a w :=
  wpIn_region_lit (wpListIn_of l₀ L a w hno hd h)

/-- One operation, in a round. -/
theorem operIn_of {P : Program} {Q : Exit → Act → World → Prop} {n : Nat} (l₀ : Nat) {o : Oper} {a : Act} {w : World} {K K' : Act → World → Prop} (hd : ∀ c, o.op ≠ .defer c) (hK : ∀ a w, K a w → K' a w) (h : o.wp P a w K Q) : o.wpIn (Fence.wide.inRound l₀) n P a w K' Q := by
  refine ⟨fun _ _ => trivial, ?_⟩
  have hs : o.semAt (Fence.wide.inRound l₀).round a.eval = execOp a.eval o := Oper.semAt_some l₀ _ _ hd
  rw [hs]
  unfold Oper.wp at h
  revert h
  cases hr : (execOp a.eval o).run P w with
  | ok x w' =>
    cases x with
    | value v => intro h; exact hK _ _ h
    | skip => intro h; exact hK _ _ h
    | defer d => intro h; exact hK _ _ h
    | enter f args =>
      intro h
      refine ⟨fun h => by simp [Fence.wide, Fence.inRound] at h, CallsIn.inRound l₀ (callsIn_wide.2 (Calls.mono h ?_))⟩
      rintro (v | c | _) w'' h2
      · exact hK _ _ h2
      · exact h2
      · exact h2
    | row r args => intro h; exact ⟨fun h => by simp [Fence.wide, Fence.inRound] at h, fun c cs _ => let ⟨v, w', r, s⟩ := h c cs; ⟨v, w', hK _ _ r, stepsIn_wide.2 s⟩⟩
    | _ => intro h; exact h.elim
  | halt e w' =>
    cases e with
    | panic v => intro h; exact h
    | _ => intro h; exact h.elim
theorem wpAnyIn_of {P : Program} {md : Region.Mode} {ops : Array Oper} {Q : Exit → Act → World → Prop} {n : Nat} (l₀ : Nat) (hno : ¬ LetsOut Q) (hd : ∀ o ∈ ops, ∀ c, o.op ≠ .defer c) : ∀ (fuel : Nat) (listed : Array Bool) (a : Act) (w : World), wpAny P md ops Q fuel listed a w → wpAnyIn (Fence.wide.inRound l₀) n P md ops Q fuel listed a w := by
  intro fuel
  induction fuel with
  | zero => intro listed a w h; exact h
  | succ fuel ih =>
    intro listed a w h
    refine ⟨h.1, fun i hi => ?_⟩
    have h2 := h.2 i hi
    unfold wpOp at h2
    unfold wpOpIn
    cases ho : ops[i]? with
    | none => rw [ho] at h2; exact ih _ _ _ h2
    | some o =>
      rw [ho] at h2
      simp only at h2 ⊢
      split
      · rename_i hw
        rw [if_pos hw] at h2
        exact operIn_of l₀ (hd o (Array.mem_of_getElem? ho)) (fun a w => ih _ a w) (h2.resolve_right (fun h3 => hno h3.2))
      · rename_i hw
        rw [if_neg hw] at h2
        exact ⟨fun _ _ => trivial, ih _ _ _ h2⟩
theorem startIn_ {P : Program} {ops : Array Oper} {Q : Exit → Act → World → Prop} {S : World → Prop} {ds : List Nat} {id n : Nat} {a : Act} {w : World} (l₀ : Nat) (hno : ¬ LetsOut Q) (hd : ∀ o ∈ ops, ∀ c, o.op ≠ .defer c) (l : Array Bool) (hm : P.follows .mixedOrders = true) (hn : ops.size = n) (hl : Array.replicate n false = l) (hS : S w.drew)
    (h : S w.drew → wpAnyLast P .any ops Q S ds n l a w.drew) : (Code.region id ops true).wpIn (Fence.wide.inRound l₀) 0 P Q a w := by
  subst hn
  subst hl
  exact wpIn_region_any hm (wpAnyIn_of l₀ hno hd _ _ _ _ (wpAny_of_last _ _ _ _ (h hS)))


/-- What a round is handed: record y, its list of ops in blocks okx, which nobody else has. -/
def Handed (n0 : Nat) (T : Nat → Prop) (y : JR) (A : Option Addr) (c : Nat) (okx : Nat → Prop) (W : World) : Prop :=
  Kd.R k40 40 W n0 okx (.slice A y.ops.length c) y.ops ∧ (∀ j, okx j → ¬ T j ∧ n0 ≤ j ∧ j < W.heap.size)
/-- An iterator that hands the records of L on, each in new memory: function g, whose captured variable is block Bn. -/
def ItWalk (P : Program) (g Bn : Nat) (D : World → Prop) (L : List JR) (W : World) : Prop :=
  ∀ (l : Nat) (J : (Nat → Prop) → Nat → World → Prop) (Jx : World → Prop) (T0 : Nat → Prop), TOwn W.heap.size J → OwnFrom W.heap.size (fun (_ : Unit) => Jx) → (∀ j, T0 j → j < W.heap.size) → (∀ T k W, J T k W → D W) →
    (∀ T k y A c okx W1, (∀ j, T0 j → T j) → (∀ j, T j → j < W1.heap.size) → L[k]? = some y → J (fun j => T j ∨ okx j) k W1 → Handed W.heap.size T y A c okx W1 →
      YieldAt Fence.wide 0 P l (jargs k y A c) W1 fun e W' => ((e = .returned (.bool true) ∧ J T (k + 1) W') ∨ (e = .returned (.bool false) ∧ Jx W')) ∧ ∀ j, T j → W.heap.size ≤ j → j < W1.heap.size → W'.heap[j]? = W1.heap[j]?) →
    J T0 0 W →
    Calls P g #[.func (.yield l) #[] #[], .pointer (some ⟨Bn, 0, none⟩)] W fun e W' => (∃ v, e = .returned v) ∧ (J T0 L.length W' ∨ Jx W')
variable {P : Program}
/-- The loop over such an iterator, in a frame that is no round. -/
theorem rangeWalk {g : Operand} {ps : Array Tmp} {assign body : Code} {Q : Exit → Act → World → Prop} {a : Act} {w : World} {gf Bn : Nat} (a₁ : Nat → JR → Option Addr → Nat → Nat → Act) (D : World → Prop) (L : List JR)
    (hg : a.eval g = .func (.func gf) #[] #[.pointer (some ⟨Bn, 0, none⟩)]) (eg : ∀ args w, (callFunc gf args).run P w = .ok (.enter gf args) w)
    (hps : ps.size = 2)
    (I : (Nat → Prop) → Nat → World → Prop) (Ix : Code → World → Prop) (T0 : Nat → Prop) (hI : TOwn w.heap.size I) (hIx : ∀ c, OwnFrom w.heap.size (fun (_ : Unit) => Ix c)) (h0 : I T0 0 w) (hT0 : ∀ j, T0 j → j < w.heap.size)
    (hD : ∀ T k W, I T k W → D W) (hit : ∀ T W, I T 0 W → ItWalk P gf Bn D L W)
    (hassign : ∀ (l : Nat) (k : Nat) (y : JR) (A : Option Addr) (c : Nat) (W : World) (K : Act → World → Prop), K (a₁ k y A c W.heap.size) (W.alloc (.cells (y.cells A c) 28)) →
      assign.wpIn (Fence.wide.inRound l) 0 P (Exit.then K (fun _ _ _ => False)) { tmps := (ps.zip (jargs k y A c)).foldl (fun t (p, v) => t.setIfInBounds p v) a.tmps, defers := [] } W)
    (hbody : ∀ (T : Nat → Prop) (l k : Nat) (y : JR) (A : Option Addr) (c : Nat) (okx : Nat → Prop) (B : Nat) (W : World), (∀ k, T0 k → T k) → (∀ j, T j → j < W.heap.size) → T l → w.heap.size ≤ l → (∃ r, W.heap[l]? = some (.loop r)) → L[k]? = some y → I (fun j => T j ∨ okx j) k W → Handed w.heap.size T y A c okx W →
      w.heap.size ≤ B → W.heap[B]? = some (.cells (y.cells A c) 28 (0, 0)) →
      body.wpIn (Fence.wide.inRound l) 0 P (strPost (fun k => T k ∧ w.heap.size ≤ k) (fun W' => I T (k + 1) W') Ix W) (a₁ k y A c B) W)
    (hdone : ∀ (D : Nat) (W : World), w.heap.size ≤ D → I T0 L.length W → W.heap[D]? = some (.deferred (some [])) → Q .normal { a with defers := { target := .collected D, args := #[] } :: a.defers } W)
    (hstop : ∀ (D : Nat) (c : Code) (W : World), w.heap.size ≤ D → Ix c W → W.heap[D]? = some (.deferred (some [])) → c.wp P Q { a with defers := { target := .collected D, args := #[] } :: a.defers } W) :
    (Code.rangeFunc g ps assign body).wp P Q a w := by
  refine (wpIn_wide (n := 0)).1 ?_
  refine wpIn_rangeFunc ?_
  intro fn hfn
  show ∃ (l : Nat) (mark : List Deferred) (w₁ : World) (d : Deferred) (w₁' : World) (f : FuncId) (args : Array Value) (w₂ : World),
      (Instr.enterLoop fn a.tmps ps assign body none).run P w = .ok (l, mark) w₁ ∧ _
  obtain ⟨rec, hrec⟩ : ∃ rec : LoopState → Option Code → Loop, rec = fun st pe => { state := st, pending := pe, fn, tmps := a.tmps, params := ps, assign, body, defers := w.heap.size } := ⟨_, rfl⟩
  obtain ⟨W1, hW1⟩ : ∃ W1, (w.alloc (.deferred (some []))).alloc (.loop (rec .ready none)) = W1 := ⟨_, rfl⟩
  have hs1 : W1.heap.size = w.heap.size + 2 := by rw [← hW1]; simp
  have hL1 : W1.heap[w.heap.size + 1]? = some (.loop (rec .ready none)) := by
    rw [← hW1]; have := World.alloc_heap_new (w.alloc (.deferred (some []))) (.loop (rec .ready none)); rwa [World.size_alloc] at this
  have hK1 : W1.heap[w.heap.size]? = some (.deferred (some [])) := by
    rw [← hW1]; exact (Below.heap_alloc _ _ _ (by simp)).trans (World.alloc_heap_new w _)
  obtain ⟨T1, hT1⟩ : ∃ T1 : Nat → Prop, T1 = fun k => T0 k ∨ k = w.heap.size ∨ k = w.heap.size + 1 := ⟨_, rfl⟩
  have hI1 : I T1 0 W1 := by rw [← hW1, hT1]; exact hI.alloc (T := fun k => T0 k ∨ k = w.heap.size) _ (hI.alloc _ h0 (fun k hk => hk)) (fun k hk => by simp only [World.size_alloc]; rcases hk with h | h | h; exact .inl (.inl h); exact .inl (.inr h); exact .inr h)
  refine ⟨w.heap.size + 1, [{ target := .collected w.heap.size, args := #[] }], W1, { target := .fn (.func gf) #[.pointer (some ⟨Bn, 0, none⟩)], args := #[.func (.yield (w.heap.size + 1)) #[] #[]] }, W1, gf,
    #[.func (.yield (w.heap.size + 1)) #[] #[]] ++ #[.pointer (some ⟨Bn, 0, none⟩)], W1, ?_, ?_, ?_, ?_, fun h => by simp [Fence.wide] at h, ?_⟩
  · rw [← hW1, hrec]; exact run_enterLoop_outer _ _ _ _ _
  · simp only [resolve, hg]
    simp [go_sem]
  · intro f' hf'; trivial
  · simp [invoke, go_sem, eg]
  · have hR : ∀ {A B : World} {row : Option Nat} {k : Nat} {o : Obj}, A.grownBy B row → (∀ r, row = some r → W1.heap.size ≤ r ∧ ∃ o : Obj, A.heap[r]? = some o ∧ o.isCells = false) → k < w.heap.size + 2 → A.heap[k]? = some o → B.heap[k]? = some o :=
      fun hg' hr hk ho => (hg'.block _ (blk_lt ho) (fun e => by have := (hr _ e.symm).1; omega)).trans ho
    refine (callsIn_wide.2 (hit T1 W1 hI1 (w.heap.size + 1)
      (fun T s W => I T s W ∧ W.heap[w.heap.size + 1]? = some (.loop (rec .ready none)) ∧ W.heap[w.heap.size]? = some (.deferred (some [])))
      (fun W => ∃ c, Ix c W ∧ W.heap[w.heap.size + 1]? = some (.loop (rec .done (some c))) ∧ W.heap[w.heap.size]? = some (.deferred (some []))) T1
      (fun T s A B row T' hs hg' hr hT => ⟨TOwn.weak hI (by omega) T s A B row T' hs.1 hg' hr hT, hR hg' hr (by omega) hs.2.1, hR hg' hr (by omega) hs.2.2⟩)
      (fun s A B row hs hg' hr => by
        obtain ⟨c, hc, hl, hk⟩ := hs
        exact ⟨c, OwnFrom.weak (hIx c) (by omega) () A B row hc hg' hr, hR hg' hr (by omega) hl, hR hg' hr (by omega) hk⟩)
      (fun j hj => by rw [hT1] at hj; rcases hj with h | h | h <;> first | (have := hT0 j h; omega) | omega) (fun T k W hs => hD T k W hs.1) ?_ ⟨hI1, hL1, hK1⟩)).mono ?_
    · -- ONE ROUND
      rintro T s y A c okx W hT0' hTlt hy0 ⟨hi, hl, hk⟩ hhand
      have hTl : T (w.heap.size + 1) := hT0' _ (by rw [hT1]; exact .inr (.inr rfl))
      have hTd : T w.heap.size := hT0' _ (by rw [hT1]; exact .inr (.inl rfl))
      have hTT : ∀ k, T0 k → T k := fun k hk => hT0' k (by rw [hT1]; exact .inl hk)
      have hlt : w.heap.size + 1 < W.heap.size := (Array.getElem?_eq_some_iff.1 hl).1
      have hy := run_yield (P := P) (args := (jargs s y A c)) hl (by rw [hrec]; simp [hps])
      rw [hrec] at hy
      refine ⟨fn, _, assign, body, hy, roundIn_of_wpIn hfn (hassign _ s y A c W _ ?_)⟩
      obtain ⟨WB, hWB⟩ : ∃ WB, WB = W.alloc (.cells (y.cells A c) 28) := ⟨_, rfl⟩
      rw [← hWB]
      have hBb : Below W.heap.size W WB := by rw [hWB]; exact below_alloc (Below.refl _ _) _
      have hlB : WB.heap[w.heap.size + 1]? = some (.loop (rec .ready none)) := (hBb.block _ hlt).trans hl
      have hkB : WB.heap[w.heap.size]? = some (.deferred (some [])) := (hBb.block _ (by omega)).trans hk
      have hnB : WB.heap[W.heap.size]? = some (.cells (y.cells A c) 28 (0, 0)) := by rw [hWB]; exact heap_alloc_new _ _
      have hiB : I (fun j => T j ∨ okx j) s WB := by rw [hWB]; exact hI.alloc _ hi (fun k hk => .inl hk)
      have hltB : w.heap.size + 1 < WB.heap.size := blk_lt hlB
      refine ⟨_, run_beginRound hlB (by rw [hrec]), ?_⟩
      have hl2 : (WB.putObj (w.heap.size + 1) (.loop { rec .ready none with state := .busy })).heap[w.heap.size + 1]? = some (.loop { rec .ready none with state := .busy }) := World.putObj_heap_same hltB
      have hk2 : (WB.putObj (w.heap.size + 1) (.loop { rec .ready none with state := .busy })).heap[w.heap.size]? = some (.deferred (some [])) := (World.putObj_heap_other (by omega)).trans hkB
      have hn2 : (WB.putObj (w.heap.size + 1) (.loop { rec .ready none with state := .busy })).heap[W.heap.size]? = some (.cells (y.cells A c) 28 (0, 0)) := (World.putObj_heap_other (by omega)).trans hnB
      have hsz2 : (WB.putObj (w.heap.size + 1) (.loop { rec .ready none with state := .busy })).heap.size = WB.heap.size := by simp [World.putObj]
      have hhand2 : Handed w.heap.size T y A c okx (WB.putObj (w.heap.size + 1) (.loop { rec .ready none with state := .busy })) := by
        obtain ⟨h1, h2⟩ := hhand
        refine ⟨Kd.R_lower (Kd.R_step h1 (fun k hk hlt2 => ?_)) (by omega), fun j hj => ⟨(h2 j hj).1, by have := (h2 j hj).2.1; omega, by rw [hsz2]; exact Nat.lt_of_lt_of_le (h2 j hj).2.2 hBb.size⟩⟩
        exact (World.putObj_heap_other (fun e => (h2 k hk).1 (by rw [e]; exact hTl))).trans (hBb.block k hlt2)
      refine wpIn_mono (hbody T _ s y A c okx W.heap.size _ hTT (fun j hj => by rw [hsz2]; exact Nat.lt_of_lt_of_le (hTlt j hj) hBb.size) hTl (by omega) ⟨_, hl2⟩ hy0 (hI.putObj _ hiB (by omega) hlB rfl) hhand2 (by omega) hn2) ?_
      have fin : ∀ (jump : Option Code) (W3 : World), (∀ k, T k ∧ w.heap.size ≤ k → W3.heap[k]? = (WB.putObj (w.heap.size + 1) (.loop { rec .ready none with state := .busy })).heap[k]?) →
          (Instr.endRound (w.heap.size + 1) jump).run P W3 = .ok (.bool jump.isNone) (W3.putObj (w.heap.size + 1) (.loop (rec (if jump.isNone then .ready else .done) jump))) ∧
          W3.heap[w.heap.size + 1]? = some (.loop { rec .ready none with state := .busy }) ∧
          (W3.putObj (w.heap.size + 1) (.loop (rec (if jump.isNone then .ready else .done) jump))).heap[w.heap.size + 1]? = some (.loop (rec (if jump.isNone then .ready else .done) jump)) ∧
          (W3.putObj (w.heap.size + 1) (.loop (rec (if jump.isNone then .ready else .done) jump))).heap[w.heap.size]? = some (.deferred (some [])) ∧
          (∀ k, T k → W1.heap.size ≤ k → k < W.heap.size → (W3.putObj (w.heap.size + 1) (.loop (rec (if jump.isNone then .ready else .done) jump))).heap[k]? = W.heap[k]?) := fun jump W3 hk3 => by
        have hl3 := (hk3 _ ⟨hTl, by omega⟩).trans hl2
        have := run_endRound (P := P) jump hl3
        rw [hrec] at this ⊢
        exact ⟨this, by rw [hrec] at hl3; exact hl3, World.putObj_heap_same (Array.getElem?_eq_some_iff.1 hl3).1, (World.putObj_heap_other (by omega)).trans ((hk3 _ ⟨hTd, Nat.le_refl _⟩).trans hk2), fun k hTk hsz hkW => (World.putObj_heap_other (by omega)).trans ((hk3 k ⟨hTk, by omega⟩).trans ((World.putObj_heap_other (by omega)).trans (hBb.block k hkW)))⟩
      rintro e a3 W3 hp
      cases e with
      | normal =>
        obtain ⟨hk3, hi3⟩ := hp
        obtain ⟨hr, hl3, hl4, hk4, hT4⟩ := fin none W3 hk3
        exact ⟨_, _, hr, .inl ⟨rfl, hI.putObj _ hi3 (by omega) hl3 rfl, hl4, hk4⟩, hT4⟩
      | ret =>
        obtain ⟨hk3, hi3⟩ := hp
        obtain ⟨hr, hl3, hl4, hk4, hT4⟩ := fin (some .ret) W3 hk3
        exact ⟨_, _, hr, .inr ⟨rfl, .ret, (hIx _).putObj (s := ()) _ hi3 (by omega) hl3 rfl, hl4, hk4⟩, hT4⟩
      | exit id =>
        obtain ⟨hk3, hi3⟩ := hp
        obtain ⟨hr, hl3, hl4, hk4, hT4⟩ := fin (some (.exit id)) W3 hk3
        exact ⟨_, _, hr, .inr ⟨rfl, .exit id, (hIx _).putObj (s := ()) _ hi3 (by omega) hl3 rfl, hl4, hk4⟩, hT4⟩
      | goto t =>
        obtain ⟨hk3, hi3⟩ := hp
        obtain ⟨hr, hl3, hl4, hk4, hT4⟩ := fin (some (.goto t)) W3 hk3
        exact ⟨_, _, hr, .inr ⟨rfl, .goto t, (hIx _).putObj (s := ()) _ hi3 (by omega) hl3 rfl, hl4, hk4⟩, hT4⟩
      | panic ch => exact hp.elim
      | outgrown => exact hp.elim
    · -- BEHIND THE ITERATOR
      rintro e W2 ⟨⟨v, rfl⟩, (⟨hi, hl, hk⟩ | ⟨c, hi, hl, hk⟩)⟩
      · exact ⟨none, _, by have := run_endLoop (P := P) hl (by rw [hrec]; simp); rw [hrec] at this; exact this, hdone _ _ (Nat.le_refl _) (hI.less (hI.putObj _ hi (by omega) hl rfl) (fun k hk => by rw [hT1]; exact .inl hk)) ((World.putObj_heap_other (by omega)).trans hk)⟩
      · exact ⟨some c, _, by have := run_endLoop (P := P) hl (by rw [hrec]; simp); rw [hrec] at this; exact this, (wpIn_wide (n := 0)).2 (hstop _ c _ (Nat.le_refl _) ((hIx c).putObj (s := ()) _ hi (by omega) hl rfl) ((World.putObj_heap_other (by omega)).trans hk))⟩
attribute [local go_sem] Oper.semAt_some

/-- A call of yield with two arguments, under a wide fence. -/
theorem listIn_yield2 {P : Program} {ops : Array Oper} {Q : Exit → Act → World → Prop} {r : Option Nat} {o : Oper} {rest : List Oper} {a : Act} {W : World} {R : Ending → World → Prop} {l : Nat} (x y z : Operand) (ts : Array TypeId) (hgd : o.guard = none) (ho : o.op = .call { callee := .value x, args := #[y, z], argTypes := ts })
    (hx : a.eval x = .func (.yield l) #[] #[]) {v u : Value} (hy : a.eval y = v) (hz : a.eval z = u) (hY : YieldAt Fence.wide 0 P l #[v, u] W R)
    (h : ∀ v W', R (.returned v) W' → wpListIn { Fence.wide with round := r } 0 P ops Q rest (a.put o.dst v) W') (hp : ∀ c W', ¬ R (.panicked c) W') (hg : ∀ W', ¬ R .outgrown W') : wpListIn { Fence.wide with round := r } 0 P ops Q (o :: rest) a W := by
  refine wpListIn_plain hgd fun K hK => ⟨fun _ _ => trivial, ?_⟩
  have hs : o.semAt r a.eval = execOp a.eval o := by
    cases r with
    | none => rfl
    | some l₀ => exact Oper.semAt_some l₀ _ _ (by rw [ho]; simp)
  obtain ⟨fn, tmps, assign, body, hrun, hR⟩ := hY
  have hrun2 : (execOp a.eval o).run P W = .ok (.round l fn tmps assign body) W := by
    unfold execOp
    simp [ho, resolve, invoke, hx, hy, hz, Deferred.ofValue, hrun, Sem.run_bind, Result.andThen]
  show o.uponIn _ 0 P a K Q ((o.semAt r a.eval).run P W)
  rw [hs, hrun2]
  refine ⟨fun h => by simp [Fence.wide] at h, RoundIn.mono (F := { Fence.wide with round := r }) hR ?_⟩
  rintro (v | c | _) W' hr
  · exact hK _ _ (h v W' hr)
  · exact (hp _ _ hr).elim
  · exact (hg _ hr).elim
set_option maxHeartbeats 4000000 in
set_option maxRecDepth 100000 in
theorem hand_61 (q l k : Nat) (y : JR) (A : Option Addr) (c : Nat) (at_ : Int) (W : World) (R : Ending → World → Prop) (hq : W.cell? ⟨q, 0, none⟩ = some (.func (.yield l) #[] #[]))
    (hY : YieldAt Fence.wide 0 Try.prog l (jargs k y A c) (W.alloc (.cells (y.cells A c) 28)) R) (hR : ∀ e W', R e W' → ∃ b, e = .returned (.bool b)) :
    Calls Try.prog 61 #[.int .i64 ((k : Int) + 1), .int .i64 at_, .agg (y.cells A c), .pointer (some ⟨q, 0, none⟩)] W R := by
  have HY := Aside0.mk hY
  have HR := Aside0.mk hR
  have HQ := Aside0.mk hq
  clear hY hR hq
  go_enter Try.func61, Try.ntmps61
  go_upto_region 1 with (fail)
  have h42 : (W.alloc (.cells (y.cells A c) 28)).cell? ⟨q, 0, none⟩ = some (.func (.yield l) #[] #[]) := pw_cell_below (below_alloc (Below.refl _ _) _) HQ.out
  have HB := Aside0.mk (heap_alloc_new W (.cells (y.cells A c) 28))
  obtain ⟨W1, hW1⟩ : ∃ W1, W1 = W.alloc (.cells (y.cells A c) 28) := ⟨_, rfl⟩
  obtain ⟨g, hg⟩ : ∃ g, g = W.heap.size := ⟨_, rfl⟩
  rw [← hW1, ← hg] at HB
  rw [← hW1] at HY h42
  rw [← hW1, ← hg]
  clear hW1 hg
  have b0 := (blk_cell HB.out 0).trans rfl
  have b1 := (blk_cell HB.out 1).trans rfl
  have b2 := (blk_cell HB.out 2).trans rfl
  have b3 := (blk_cell HB.out 3).trans rfl
  have b4 := (blk_cell HB.out 4).trans rfl
  have b5 := (blk_cell HB.out 5).trans rfl
  have b6 := (blk_cell HB.out 6).trans rfl
  have b7 := (blk_cell HB.out 7).trans rfl
  have b8 := (blk_cell HB.out 8).trans rfl
  have b9 := (blk_cell HB.out 9).trans rfl
  have b10 := (blk_cell HB.out 10).trans rfl
  have b11 := (blk_cell HB.out 11).trans rfl
  have b12 := (blk_cell HB.out 12).trans rfl
  have hu28 := Try.underlying28
  have hu26 := Try.underlying26
  have hu24 := Try.underlying24
  refine (wpIn_wide (n := 0)).1 ?_
  refine wpIn_region_lit ?_
  refine listIn_value (r := none) (W1 := W1) (v := .func (.yield l) #[] #[]) rfl (by simp) ?_ ?_
  · go_simp
  refine listIn_value (r := none) (W1 := W1) (v := .int .i64 ((k : Int) + 1)) rfl (by simp) (by rfl) ?_
  refine listIn_value (r := none) (W1 := W1) (v := .agg (y.cells A c)) rfl (by simp) ?_ ?_
  · go_simp
  refine listIn_yield2 (r := none) (.tmp 8) (.tmp 9) (.tmp 10) _ rfl rfl (by rfl) (by rfl) (by rfl) HY.out ?_ (fun c W' h => by obtain ⟨b, hb⟩ := HR.out _ _ h; cases hb) (fun W' h => by obtain ⟨b, hb⟩ := HR.out _ _ h; cases hb)
  intro v W' hR
  obtain ⟨b, hb⟩ := HR.out _ _ hR
  cases hb
  have HRR := Aside0.mk hR
  clear b0 b1 b2 b3 b4 b5 b6 b7 b8 b9 b10 b11 b12 h42 hR HB
  refine listIn_value (r := none) rfl (by simp) (by rfl) ?_
  refine wpListIn_nil ?_
  go_wp2
  refine bodyPost_ret (results_tmp rfl _ _ _) rfl ?_
  exact HRR.out
theorem wr_k2 {k : Nat} (h : k ≤ 1000000000) : wrap64 ((k : Int) + 1 + 1) = ((k + 1 : Nat) : Int) + 1 := by unfold wrap64; omega
set_option maxHeartbeats 16000000 in
set_option maxRecDepth 100000 in
theorem walked_W (N0 q l : Nat) (A : Option Addr) (n c : Nat) (lb : List Int) (L : List JR) (J : (Nat → Prop) → Nat → World → Prop) (Jx : World → Prop) (T0 : Nat → Prop) (W : World)
    (hn : lb.length = n) (hc : n ≤ c) (hmx : n ≤ 1000000000) (hWk : Walks lb 0 0 L) (hJ : TOwn N0 J) (hT0 : ∀ j, T0 j → j < W.heap.size) (hD : ∀ T k W, J T k W → C8 W A n lb) (hTq : T0 q) (hq0 : N0 ≤ q)
    (hq : W.heap[q]? = some (.cells #[.func (.yield l) #[] #[]] 42 (0, 0)))
    (hY : ∀ T k y A c okx W1, (∀ j, T0 j → T j) → (∀ j, T j → j < W1.heap.size) → L[k]? = some y → J (fun j => T j ∨ okx j) k W1 → Handed N0 T y A c okx W1 →
      YieldAt Fence.wide 0 Try.prog l (jargs k y A c) W1 fun e W' => ((e = .returned (.bool true) ∧ J T (k + 1) W') ∨ (e = .returned (.bool false) ∧ Jx W')) ∧ ∀ j, T j → N0 ≤ j → j < W1.heap.size → W'.heap[j]? = W1.heap[j]?)
    (h0 : J T0 0 W) :
    Calls Try.prog 60 #[.slice A n c, .func (.func 61) #[] #[.pointer (some ⟨q, 0, none⟩)]] W fun e W' => (∃ v, e = .returned v) ∧ (J T0 L.length W' ∨ Jx W') := by
  have HN := Aside0.mk hn
  have HC := Aside0.mk hc
  have HM := Aside0.mk hmx
  have HJ := Aside0.mk hJ
  have HD := Aside0.mk hD
  have HT0 := Aside0.mk hT0
  have HTq := Aside0.mk hTq
  have HQ0 := Aside0.mk hq0
  have HQ := Aside0.mk hq
  have HY := Aside0.mk hY
  have H0 := Aside0.mk h0
  have HW := Aside0.mk hWk
  clear hn hc hmx hJ hD hT0 hTq hq0 hq hY h0 hWk
  go_enter Try.func60, Try.ntmps60
  go_wp2
  go_loopg [4, 5] L.length (fun kq v4 v5 wr => ∃ (k at_ : Nat) (pre L' : List JR), v4 = .int .i64 (at_ : Int) ∧ v5 = .int .i64 ((k : Int) + 1) ∧ Aside0 (L'.length = kq ∧ L = pre ++ L' ∧ pre.length = k) ∧ Aside0 (Walks lb at_ k L') ∧ at_ ≤ n ∧ 20 * k ≤ at_ ∧ Aside0 (J T0 k wr) ∧ Aside0 (wr.heap[q]? = some (.cells #[.func (.yield l) #[] #[]] 42 (0, 0))) ∧ Aside0 (∀ j, T0 j → j < wr.heap.size))
  case atStart => exact ⟨0, 0, [], L, rfl, rfl, ⟨rfl, rfl, rfl⟩, HW, by omega, by omega, H0, HQ, HT0⟩
  case round =>
    obtain ⟨k, at_, pre, L', rfl, rfl, HL, HWK, hatn, hat, HJK, HQK, HTK⟩ := hrel
    have hk1 : decide ((k : Int) + 1 ≤ 2147483647) = true := decide_eq_true (by have := HM.out; omega)
    obtain ⟨Aa, hca, hCa⟩ := cutf8 (A := A) (n := n) (c := c) (xs := lb) at_ (by omega) HC.out
    have HCA := Aside0.mk (hCa wr (HD.out T0 k wr HJK.out))
    have HAT := Aside0.mk (And.intro hatn hat)
    clear hCa
    cases L' with
    | nil =>
      have hr := HWK.out
      go_wp2_with fail
      refine (hr wr Aa (n - at_) (c - at_) (by rw [List.length_drop, HN.out]) (Nat.sub_le_sub_right HC.out at_) HCA.out).mono ?_
      rintro e w2 ⟨rfl, hb⟩
      have HB := Aside0.mk hb
      clear hb hr
      go_wp2
      refine bodyPost_ret (results_none rfl _ _ _) rfl ?_
      refine ⟨⟨_, rfl⟩, .inl ?_⟩
      obtain ⟨h1, h2, h3⟩ := HL.out
      rw [h2, List.append_nil, h3]
      exact (HJ.out T0 k wr _ none _ HJK.out (grown_of_below (below_alloc HB.out _) none) (fun r e => by cases e) (fun j hj => .inl hj))
    | cons y L2 =>
      obtain ⟨m, hr, hm20, hle, hrest⟩ := HWK.out
      have HREST := Aside0.mk hrest
      have HM20 := Aside0.mk (And.intro hm20 hle)
      have hwa : wrap64 ((at_ : Int) + (m : Int)) = ((at_ + m : Nat) : Int) := by have := HM.out; have := HN.out; exact (by unfold wrap64; omega)
      clear hrest hm20 hle hatn hat
      go_wp2_with fail
      refine (hr wr Aa (n - at_) (c - at_) (by rw [List.length_drop, HN.out]) (Nat.sub_le_sub_right HC.out at_) HCA.out).mono ?_
      rintro e w2 ⟨B, cb, rfl, ho, hb⟩
      have HB := Aside0.mk hb
      have HO := Aside0.mk ho
      clear hb hr ho
      go_wp2_with fail
      obtain ⟨W2, hW2⟩ : ∃ W2, W2 = w2.alloc (.cells (y.cells B cb) 28) := ⟨_, rfl⟩
      obtain ⟨W3, hW3⟩ : ∃ W3, W3 = W2.alloc (.cells (y.cells B cb) 28) := ⟨_, rfl⟩
      have HB2 := Aside0.mk (show Below wr.heap.size wr W2 by rw [hW2]; exact below_alloc HB.out _)
      have HB3 := Aside0.mk (show Below wr.heap.size wr W3 by rw [hW3]; exact below_alloc HB2.out _)
      have HW23 := Aside0.mk (show Below w2.heap.size w2 W3 by rw [hW3]; exact below_alloc (show Below w2.heap.size w2 W2 by rw [hW2]; exact below_alloc (Below.refl _ _) _) _)
      have hyld := HY.out T0 k y B cb (fun j => wr.heap.size ≤ j ∧ j < w2.heap.size) W3 (fun j h => h) (fun j hj => Nat.lt_of_lt_of_le (HTK.out j hj) HB3.out.size)
        (by obtain ⟨_, h2, h3⟩ := HL.out; rw [h2, ← h3]; simp)
        (HJ.out T0 k wr W3 none _ HJK.out (grown_of_below HB3.out none) (fun r e => by cases e) (fun j hj => hj.imp_right (fun h => ⟨h.1, Nat.lt_of_lt_of_le h.2 HW23.out.size⟩)))
        ⟨Kd.R_lower (Kd.R_below (Kd.R_mono (Kd.R_bound HO.out) (fun j hj => ⟨hj.2.1, hj.2.2.1⟩)) HW23.out) (Nat.le_trans HQ0.out (Nat.le_of_lt (blk_lt HQK.out))), fun j hj => ⟨fun h => absurd (HTK.out j h) (Nat.not_lt.2 hj.1), Nat.le_trans (Nat.le_trans HQ0.out (Nat.le_of_lt (blk_lt HQK.out))) hj.1, Nat.lt_of_lt_of_le hj.2 HW23.out.size⟩⟩
      have HYL := Aside0.mk hyld
      have hq2 : W2.cell? ⟨q, 0, none⟩ = some (.func (.yield l) #[] #[]) := (blk_cell ((HB2.out.block q (blk_lt HQK.out)).trans HQK.out) 0).trans rfl
      clear hyld
      rw [← hW2]
      refine (hand_61 q l k y B cb _ W2 _ hq2 (by rw [← hW3]; exact HYL.out) (by rintro e W' ⟨(⟨rfl, _⟩ | ⟨rfl, _⟩), _⟩ <;> exact ⟨_, rfl⟩)).mono ?_
      rintro e W' ⟨(⟨rfl, hj⟩ | ⟨rfl, hjx⟩), hT⟩
      · have HJ' := Aside0.mk hj
        have HQ' := Aside0.mk (show W'.heap[q]? = some (.cells #[.func (.yield l) #[] #[]] 42 (0, 0)) from (hT q HTq.out HQ0.out (Nat.lt_of_lt_of_le (blk_lt HQK.out) HB3.out.size)).trans ((HB3.out.block q (blk_lt HQK.out)).trans HQK.out))
        have HTK' := Aside0.mk (show ∀ j, T0 j → j < W'.heap.size from fun j hj => by
          by_cases hjn : N0 ≤ j
          · have h1 := hT j hj hjn (Nat.lt_of_lt_of_le (HTK.out j hj) HB3.out.size)
            rw [Array.getElem?_eq_getElem (Nat.lt_of_lt_of_le (HTK.out j hj) HB3.out.size)] at h1
            exact (Array.getElem?_eq_some_iff.1 h1).1
          · exact Nat.lt_trans (Nat.lt_of_lt_of_le (Nat.lt_of_not_le hjn) HQ0.out) (blk_lt HQ'.out))
        clear hj hT hq2 hW2 hW3
        go_wp2
        go_roundg L2.length
        case measure => have := HL.out.1; simp at this; omega
        case rel => exact ⟨k + 1, at_ + m, pre ++ [y], L2, by simp, by rw [wr_k2 (by have h1 := HM20.out; have h2 := HAT.out; have h3 := HM.out; omega)], ⟨rfl, by rw [HL.out.2.1]; simp, by simp [HL.out.2.2]⟩, HREST, by have := HM20.out; have := HN.out; omega, by have := HM20.out; have := HAT.out; omega, HJ', HQ', HTK'⟩
      · have HJX := Aside0.mk hjx
        clear hjx hT hq2 hW2 hW3
        go_wp2
        refine bodyPost_ret (results_none rfl _ _ _) rfl ?_
        exact ⟨⟨_, rfl⟩, .inr HJX.out⟩
set_option maxHeartbeats 4000000 in
set_option maxRecDepth 100000 in
/-- Walk's iterator meets the contract. -/
theorem it59 (Bn : Nat) (A : Option Addr) (n c : Nat) (lb : List Int) (L : List JR) (W : World) (hn : lb.length = n) (hc : n ≤ c) (hmx : n ≤ 1000000000) (hWk : Walks lb 0 0 L) (hbox : W.cell? ⟨Bn, 0, none⟩ = some (.slice A n c)) :
    ItWalk Try.prog 59 Bn (fun W => C8 W A n lb) L W := by
  intro l J Jx T0 hJ hJx hT0 hD hY h0
  have HN := Aside0.mk hn
  have HC := Aside0.mk hc
  have HM := Aside0.mk hmx
  have HW := Aside0.mk hWk
  have HJ := Aside0.mk hJ
  have HT0 := Aside0.mk hT0
  have HD := Aside0.mk hD
  have HY := Aside0.mk hY
  have H0 := Aside0.mk h0
  have hmf : ∀ (fn : Fn) (first cap : Array Value) (w : World), (Instr.makeFunc fn first cap).run Try.prog w = .ok (.func fn first cap) w := fun _ _ _ _ => rfl
  clear hn hc hmx hWk hJ hJx hT0 hD hY h0
  go_enter Try.func59, Try.ntmps59
  go_upto_region 1 with (fail)
  have hb1 : (W.alloc (.cells #[.func (.yield l) #[] #[]] 42)).cell? ⟨Bn, 0, none⟩ = some (.slice A n c) := pw_cell_below (below_alloc (Below.refl _ _) _) hbox
  have HQ := Aside0.mk (heap_alloc_new W (.cells #[.func (.yield l) #[] #[]] 42))
  have HJ1 := Aside0.mk (HJ.out.alloc (.cells #[.func (.yield l) #[] #[]] 42) H0.out (T' := fun j => T0 j ∨ j = W.heap.size) (fun j hj => hj))
  have HS := Aside0.mk (show (W.alloc (.cells #[.func (.yield l) #[] #[]] 42)).heap.size = W.heap.size + 1 by simp)
  clear hbox
  go_wp2_with fail
  refine (walked_W W.heap.size W.heap.size l A n c lb L J Jx (fun j => T0 j ∨ j = W.heap.size) _ HN.out HC.out HM.out HW.out HJ.out
    (fun j hj => by rw [HS.out]; rcases hj with h | h; (have := HT0.out j h; omega); omega) HD.out (.inr rfl) (Nat.le_refl _) HQ.out
    (fun T k y A2 c2 okx W1 hT hlt hy hj hh => HY.out T k y A2 c2 okx W1 (fun j hj => hT j (.inl hj)) hlt hy hj hh) HJ1.out).mono ?_
  rintro e W' ⟨⟨v, rfl⟩, h⟩
  have HZ := Aside0.mk h
  clear h
  go_wp2
  go_end0
  exact ⟨⟨_, rfl⟩, HZ.out.imp_left (fun h => HJ.out.less h (fun j hj => .inl hj))⟩

/-- What a Saved holds: view, matched, stamp, of, state, entries, commit. -/
abbrev savedCells (vn vp vb ma st of : Int) (x : ByteArray) (E : Option Addr) (ne ce : Nat) (co : Int) : Array Value := #[.int .i64 vn, .int .i64 vp, .int .i64 vb, .int .i64 ma, .int .i64 st, .int .i64 of, .string x, .slice E ne ce, .int .i64 co]
set_option maxHeartbeats 4000000 in
set_option maxRecDepth 100000 in
theorem known_view (s v k se rq : Int) (A : Option Addr) (n c : Nat) (vn vp vb st of : Int) (x : ByteArray) (w : World) :
    Calls Try.prog 36 #[.agg (recCells 2 s v k se rq A n c vn vp vb st of x)] w fun e w' => e = .returned (.iface 113 (.agg #[.int .i64 vn, .int .i64 vp, .int .i64 vb])) ∧ Below w.heap.size w w' := by
  have hu28 := Try.underlying28
  have hu26 := Try.underlying26
  have hu24 := Try.underlying24
  have hu113 := Try.underlying113
  go_enter Try.func36, Try.ntmps36
  go_wp2_with fail
  refine bodyPost_ret (results_tmp rfl _ _ _) rfl ?_
  exact ⟨rfl, below_alloc (Below.refl _ _) _⟩
set_option maxHeartbeats 4000000 in
set_option maxRecDepth 100000 in
theorem fits_view (vn vp vb : Int) (p : Nat) (cs : Array Value) (sn : Int) (b : Bool) (w : World) (hp : w.heap[p]? = some (.cells cs 53 (0, 0))) (hs : cs[0]? = some (.int .i64 sn)) :
    Calls Try.prog 127 #[.agg #[.int .i64 vn, .int .i64 vp, .int .i64 vb], .pointer (some ⟨p, 0, none⟩), .bool b] w fun e w' => e = .returned (.bool (decide (sn < vn))) ∧ Below w.heap.size w w' := by
  have hu113 := Try.underlying113
  have hc := (blk_cell hp 0).trans hs
  go_enter Try.func127, Try.ntmps127
  go_wp2_with fail
  obtain ⟨g, hg⟩ : ∃ g, g = w.heap.size := ⟨_, rfl⟩
  obtain ⟨w1, hw1⟩ : ∃ w1, w1 = w.alloc (.cells #[.int .i64 vn, .int .i64 vp, .int .i64 vb] 113) := ⟨_, rfl⟩
  rw [← hw1, ← hg]
  have hb1 : Below w.heap.size w w1 := by rw [hw1]; exact below_alloc (Below.refl _ _) _
  have hg1 : w1.heap[g]? = some (.cells #[.int .i64 vn, .int .i64 vp, .int .i64 vb] 113 (0, 0)) := by rw [hw1, hg]; exact heap_alloc_new w _
  have HB := Aside0.mk hb1
  have q0 : w1.cell? ⟨g, 0, none⟩ = some (.int .i64 vn) := blk_cell hg1 0
  have q1 : w1.cell? ⟨p, 0, none⟩ = some (.int .i64 sn) := pw_cell_below hb1 hc
  clear hw1 hg hb1 hg1 hc hp hs
  go_quiet (fail)
  go_wp2; go_ret
  exact ⟨rfl, below_then HB.out HB.out.size (Drawn0.below ⟨⟨nq, rfl⟩⟩)⟩
set_option maxHeartbeats 4000000 in
set_option maxRecDepth 100000 in
theorem says_view (vn vp vb : Int) (p : Nat) (a1 a2 a3 ma st of : Int) (x : ByteArray) (E : Option Addr) (ne ce : Nat) (co : Int) (w : World) (hp : w.heap[p]? = some (.cells (savedCells a1 a2 a3 ma st of x E ne ce co) 53 (0, 0))) :
    Calls Try.prog 128 #[.agg #[.int .i64 vn, .int .i64 vp, .int .i64 vb], .pointer (some ⟨p, 0, none⟩)] w fun e w' => (∃ v, e = .returned v) ∧ w'.heap[p]? = some (.cells (savedCells vn vp vb ma st of x E ne ce co) 53 (0, 0)) ∧ Frm w w' (fun k => k = p) := by
  have hu113 := Try.underlying113
  go_enter Try.func128, Try.ntmps128
  go_wp2_with (with_reducible refine stop_store rfl ?_)
  have HB := Aside0.mk (show Below w.heap.size w (w.alloc (.cells #[.int .i64 vn, .int .i64 vp, .int .i64 vb] 113)) from below_alloc (Below.refl _ _) _)
  have HP := Aside0.mk ((HB.out.block p (blk_lt hp)).trans hp)
  refine store_blk rfl rfl 26 _ _ rfl (q := p) (i := 0) (cur' := savedCells vn vp vb ma st of x E ne ce co) [.int .i64 vn, .int .i64 vp, .int .i64 vb] rfl rfl rfl (by kernel_rfl) (by intro u hu; simp at hu; rcases hu with rfl | rfl | rfl <;> rfl) HP.out (by simp) rfl ?_
  intro w2 hp2 hg2; go_wp2
  go_end0
  refine ⟨⟨_, rfl⟩, hp2, ?_⟩
  exact (Frm.of_below HB.out (fun k => k = p)).then_ (Frm.of_grown (S := fun k => k = p) hg2 (fun k e => (Option.some.inj e).symm)) (fun k h _ => h)

/-- What a journal has said. -/
structure SV where
  vn : Int
  vp : Int
  vb : Int
  ma : Int
  st : Int
  of : Int
  x : ByteArray
  es : List S24
  co : Int
abbrev SV.cells (s : SV) (E : Option Addr) (ne ce : Nat) : Array Value := savedCells s.vn s.vp s.vb s.ma s.st s.of s.x E ne ce s.co
def SV.lst (s : SV) : Int := s.st + s.es.length
def SV.its (s : SV) : Int := match s.es.getLast? with
  | none => s.of
  | some e => e.f1
/-- The numbers are small, and what is committed is there. -/
def SV.small (s : SV) : Prop := 0 ≤ s.st ∧ s.st ≤ 2147483647 ∧ s.es.length ≤ 1000000 ∧ s.co ≤ s.st + s.es.length
/-- The view of the entry behind j others. -/
def SV.atv (s : SV) (j : Nat) : Int := (rd_T24 s.es (j : Int)).f1
/-- Does a record fit? -/
def SV.fits (s : SV) (y : JR) (first : Bool) : Bool :=
  if y.kd = 1 then decide (y.s = s.lst + 1) && decide (s.its ≤ y.v)
  else if y.kd = 2 then decide (s.vn < y.vn)
  else if y.kd = 3 then decide (y.vn = s.vn)
  else if y.kd = 4 then decide (y.vn = s.vn)
  else if y.kd = 5 then (if first = true then true else if y.st < s.st ∨ s.co < y.st then false else decide (y.of = if s.st < y.st then s.atv (y.st - s.st - 1).toNat else s.of))
  else decide (s.co < y.st) && decide (y.st ≤ s.lst)
theorem wr_pred {i n : Nat} (h : i + 1 = n) (hn : n ≤ 1000000) : wrap64 ((n : Int) - 1) = (i : Int) := by unfold wrap64; omega
theorem wr_lst {s : Int} {n : Nat} (h0 : 0 ≤ s) (h1 : s ≤ 2147483647) (hn : n ≤ 1000000) : wrap64 (s + (n : Int)) = s + (n : Int) := by unfold wrap64; omega
theorem wr_lst1 {s : Int} {n : Nat} (h0 : 0 ≤ s) (h1 : s ≤ 2147483647) (hn : n ≤ 1000000) : wrap64 (s + (n : Int) + 1) = s + (n : Int) + 1 := by unfold wrap64; omega
theorem its_last {s : SV} {i : Nat} (h : i + 1 = s.es.length) : s.its = s.atv i := by
  unfold SV.its SV.atv rd_T24
  rw [List.getLast?_eq_getElem?, show s.es.length - 1 = i by omega, List.getElem?_eq_getElem (by omega), Int.toNat_natCast, List.getD_eq_getElem?_getD, List.getElem?_eq_getElem (by omega)]
  rfl
set_option maxHeartbeats 8000000 in
set_option maxRecDepth 100000 in
theorem last_N (w : World) (p : Nat) (s : SV) (E : Option Addr) (ne ce : Nat) (hp : w.heap[p]? = some (.cells (s.cells E ne ce) 53 (0, 0))) (hC : Kd.C k24 w E ne s.es) (hn : s.es.length = ne) (hs : s.small) :
    Calls Try.prog 62 #[.pointer (some ⟨p, 0, none⟩)] w fun e w' => e = .returned (.tuple #[.int .i64 s.lst, .int .i64 s.its]) ∧ Below w.heap.size w w' := by
  have hu53 := Try.underlying53
  have hu26 := Try.underlying26
  have hu24 := Try.underlying24
  have hb : ne ≤ 1000000 := by rw [← hn]; exact hs.2.2.1
  have c4 : w.cell? ⟨p, 4, none⟩ = some (.int .i64 s.st) := (blk_cell hp 4).trans rfl
  have c5 : w.cell? ⟨p, 5, none⟩ = some (.int .i64 s.of) := (blk_cell hp 5).trans rfl
  have c7 : w.cell? ⟨p, 7, none⟩ = some (.slice E ne ce) := (blk_cell hp 7).trans rfl
  have HS := Aside0.mk hs
  have HN := Aside0.mk hn
  clear hp hs hn
  by_cases h0 : 0 < ne
  · have d1 : decide ((0 : Int) < (ne : Int)) = true := decide_eq_true (by omega)
    have d2 : decide (0 < ne) = true := decide_eq_true h0
    obtain ⟨i, hi⟩ : ∃ i, i + 1 = ne := ⟨ne - 1, by omega⟩
    obtain ⟨ad, A5, e5, rfl, f0, f1, _⟩ := at_T24 hC (i : Int) (by omega) (by omega)
    rw [Int.toNat_natCast] at f1
    have i1 : (i < ne) = True := eq_true (by omega)
    have i2 : ((i : Int) < (ne : Int)) = True := eq_true (by omega)
    have hlast := its_last (s := s) (i := i) (by rw [HN.out]; exact hi)
    have hf1 : (rd_T24 s.es (i : Int)).f1 = s.its := hlast.symm
    rw [hf1] at f1
    have HL := Aside0.mk (show s.st + (ne : Int) = s.lst by unfold SV.lst; rw [HN.out])
    have hw1 := wr_pred hi hb
    have hw2 := wr_lst (n := ne) HS.out.1 HS.out.2.1 hb
    have hw3 : IntKind.i64.wrap ((ne : Int) - 1) = (i : Int) := (i64_w _).trans hw1
    have hw4 : IntKind.i64.wrap (s.st + (ne : Int)) = s.st + (ne : Int) := (i64_w _).trans hw2
    clear f0 hC hlast hf1 hi
    go_enter Try.func62, Try.ntmps62
    go_wp2_with fail
    go_quiet (fail)
    go_wp2
    go_ret2
    exact ⟨by rw [← HL.out]; rfl, Drawn0.below ⟨⟨nq, rfl⟩⟩⟩
  · have d1 : decide ((0 : Int) < (ne : Int)) = false := decide_eq_false (by omega)
    have d2 : decide (0 < ne) = false := decide_eq_false h0
    have hz : s.es = [] := List.eq_nil_of_length_eq_zero (by rw [HN.out]; omega)
    have HL := Aside0.mk (show s.lst = s.st ∧ s.its = s.of by unfold SV.lst SV.its; rw [hz]; simp)
    clear hC hz
    go_enter Try.func62, Try.ntmps62
    go_wp2_with fail
    go_quiet (fail)
    go_wp2
    go_ret2
    exact ⟨by rw [HL.out.1, HL.out.2]; rfl, Drawn0.below ⟨⟨nq, rfl⟩⟩⟩
set_option maxHeartbeats 8000000 in
set_option maxRecDepth 100000 in
theorem fits_entry (w : World) (p : Nat) (s : SV) (E : Option Addr) (ne ce : Nat) (hp : w.heap[p]? = some (.cells (s.cells E ne ce) 53 (0, 0))) (hC : Kd.C k24 w E ne s.es) (hn : s.es.length = ne) (hs : s.small) (a v k se rq : Int) (V : Value) (hV : ∃ A n c, V = .slice A n c) (b : Bool) :
    Calls Try.prog 125 #[.agg #[.int .i64 a, .int .i64 v, .int .i64 k, .int .i64 se, .int .i64 rq, V], .pointer (some ⟨p, 0, none⟩), .bool b] w fun e w' => e = .returned (.bool (decide (a = s.lst + 1) && decide (s.its ≤ v))) ∧ Below w.heap.size w w' := by
  obtain ⟨A, n, c, rfl⟩ := hV
  have hu112 := Try.underlying112
  have hw := wr_lst1 (n := s.es.length) hs.1 hs.2.1 hs.2.2.1
  have HP := Aside0.mk hp
  have HC := Aside0.mk hC
  have HN := Aside0.mk hn
  have HS := Aside0.mk hs
  have HW := Aside0.mk (show wrap64 (s.lst + 1) = s.lst + 1 from hw)
  clear hp hC hn hs hw
  go_enter Try.func125, Try.ntmps125
  go_wp2_with fail
  obtain ⟨g, hg⟩ : ∃ g, g = w.heap.size := ⟨_, rfl⟩
  obtain ⟨w1, hw1⟩ : ∃ w1, w1 = w.alloc (.cells #[.int .i64 a, .int .i64 v, .int .i64 k, .int .i64 se, .int .i64 rq, .slice A n c] 112) := ⟨_, rfl⟩
  rw [← hw1, ← hg]
  have HB := Aside0.mk (show Below w.heap.size w w1 by rw [hw1]; exact below_alloc (Below.refl _ _) _)
  have HG := Aside0.mk (show w1.heap[g]? = some (.cells #[.int .i64 a, .int .i64 v, .int .i64 k, .int .i64 se, .int .i64 rq, .slice A n c] 112 (0, 0)) by rw [hw1, hg]; exact heap_alloc_new w _)
  clear hw1 hg
  refine (last_N w1 p s E ne ce ((HB.out.block p (blk_lt HP.out)).trans HP.out) (Kd.C_below HC.out HB.out) HN.out HS.out).mono ?_
  rintro e w2 ⟨rfl, hb⟩
  have hg2 := (hb.block g (blk_lt HG.out)).trans HG.out
  have g0 := (blk_cell hg2 0).trans rfl
  have g1 := (blk_cell hg2 1).trans rfl
  have HZ := Aside0.mk (below_step HB.out hb)
  obtain ⟨lst, hl⟩ : ∃ lst, lst = s.lst := ⟨_, rfl⟩
  obtain ⟨its, hi⟩ : ∃ its, its = s.its := ⟨_, rfl⟩
  have HLI := Aside0.mk (And.intro hl hi)
  rw [← hl, ← hi]
  have hw := HW.out
  rw [← hl] at hw
  clear hb hg2 hl hi
  by_cases h1 : a = lst + 1
  · have e1 : decide (a = lst + 1) = true := decide_eq_true h1
    have e2 : (a == lst + 1) = true := by simpa using h1
    by_cases h2 : its ≤ v
    · have e3 : decide (its ≤ v) = true := decide_eq_true h2
      go_wp2; go_ret
      exact ⟨by rw [← HLI.out.1, ← HLI.out.2, e1, e3]; rfl, HZ.out⟩
    · have e3 : decide (its ≤ v) = false := decide_eq_false h2
      go_wp2; go_ret
      exact ⟨by rw [← HLI.out.1, ← HLI.out.2, e1, e3]; rfl, HZ.out⟩
  · have e1 : decide (a = lst + 1) = false := decide_eq_false h1
    have e2 : (a == lst + 1) = false := by simpa using h1
    go_wp2; go_ret
    exact ⟨by rw [← HLI.out.1, e1]; rfl, HZ.out⟩
set_option maxHeartbeats 8000000 in
set_option maxRecDepth 100000 in
theorem fits_matched (w : World) (p : Nat) (s : SV) (E : Option Addr) (ne ce : Nat) (hp : w.heap[p]? = some (.cells (s.cells E ne ce) 53 (0, 0))) (vn : Int) (b : Bool) :
    Calls Try.prog 129 #[.int .i64 vn, .pointer (some ⟨p, 0, none⟩), .bool b] w fun e w' => e = .returned (.bool (decide (vn = s.vn))) ∧ Below w.heap.size w w' := by
  have hu53 := Try.underlying53
  have c0 : w.cell? ⟨p, 0, none⟩ = some (.int .i64 s.vn) := (blk_cell hp 0).trans rfl
  clear hp
  by_cases h1 : vn = s.vn
  · have e1 : decide (vn = s.vn) = true := decide_eq_true h1
    have e2 : (vn == s.vn) = true := by simpa using h1
    go_enter Try.func129, Try.ntmps129
    go_wp2; go_ret
    exact ⟨by rw [e1]; rfl, Below.refl _ _⟩
  · have e1 : decide (vn = s.vn) = false := decide_eq_false h1
    have e2 : (vn == s.vn) = false := by simpa using h1
    go_enter Try.func129, Try.ntmps129
    go_wp2; go_ret
    exact ⟨by rw [e1]; rfl, Below.refl _ _⟩
set_option maxHeartbeats 8000000 in
set_option maxRecDepth 100000 in
theorem fits_commit (w : World) (p : Nat) (s : SV) (E : Option Addr) (ne ce : Nat) (hp : w.heap[p]? = some (.cells (s.cells E ne ce) 53 (0, 0))) (hC : Kd.C k24 w E ne s.es) (hn : s.es.length = ne) (hs : s.small) (a : Int) (b : Bool) :
    Calls Try.prog 136 #[.int .i64 a, .pointer (some ⟨p, 0, none⟩), .bool b] w fun e w' => e = .returned (.bool (decide (s.co < a) && decide (a ≤ s.lst))) ∧ Below w.heap.size w w' := by
  have hu53 := Try.underlying53
  have HP := Aside0.mk hp
  go_enter Try.func136, Try.ntmps136
  go_wp2_with fail
  refine (last_N w p s E ne ce hp hC hn hs).mono ?_
  rintro e w2 ⟨rfl, hb⟩
  have hp2 := (hb.block p (blk_lt HP.out)).trans HP.out
  have c8 : w2.cell? ⟨p, 8, none⟩ = some (.int .i64 s.co) := (blk_cell hp2 8).trans rfl
  have HZ := Aside0.mk hb
  obtain ⟨lst, hl⟩ : ∃ lst, lst = s.lst := ⟨_, rfl⟩
  have HLI := Aside0.mk hl
  rw [← hl]
  clear hb hp2 hl hp hC hn hs
  by_cases h1 : s.co < a
  · have e1 : decide (s.co < a) = true := decide_eq_true h1
    by_cases h2 : a ≤ lst
    · have e3 : decide (a ≤ lst) = true := decide_eq_true h2
      go_wp2; go_ret
      exact ⟨by rw [← HLI.out, e1, e3]; rfl, HZ.out⟩
    · have e3 : decide (a ≤ lst) = false := decide_eq_false h2
      go_wp2; go_ret
      exact ⟨by rw [← HLI.out, e1, e3]; rfl, HZ.out⟩
  · have e1 : decide (s.co < a) = false := decide_eq_false h1
    go_wp2; go_ret
    exact ⟨by rw [e1]; rfl, HZ.out⟩

theorem wr_diff {a : Int} (h0 : -4294967296 ≤ a) (h1 : a ≤ 4294967296) : wrap64 a = a := by unfold wrap64; omega
theorem wr_diff1 {a : Int} (h0 : -4294967296 ≤ a) (h1 : a ≤ 4294967296) : wrap64 (a - 1) = a - 1 := by unfold wrap64; omega
set_option maxHeartbeats 8000000 in
set_option maxRecDepth 100000 in
theorem fits_reset (w : World) (p : Nat) (s : SV) (E : Option Addr) (ne ce : Nat) (hp : w.heap[p]? = some (.cells (s.cells E ne ce) 53 (0, 0))) (kd a v k se rq : Int) (A : Option Addr) (n c : Nat) (vn vp vb st of : Int) (x : ByteArray) (b : Bool) :
    Calls Try.prog 131 #[.agg (recCells kd a v k se rq A n c vn vp vb st of x), .pointer (some ⟨p, 0, none⟩), .bool b] w fun e w' => e = .returned (.bool (decide (vn = s.vn))) ∧ Below w.heap.size w w' := by
  have hu53 := Try.underlying53
  have hu26 := Try.underlying26
  have hu115 := Try.underlying115
  have HP := Aside0.mk hp
  clear hp
  go_enter Try.func131, Try.ntmps131
  go_wp2_with fail
  obtain ⟨g, hg⟩ : ∃ g, g = w.heap.size := ⟨_, rfl⟩
  obtain ⟨w1, hw1⟩ : ∃ w1, w1 = w.alloc (.cells (recCells kd a v k se rq A n c vn vp vb st of x) 115) := ⟨_, rfl⟩
  rw [← hw1, ← hg]
  have HB := Aside0.mk (show Below w.heap.size w w1 by rw [hw1]; exact below_alloc (Below.refl _ _) _)
  have HG := Aside0.mk (show w1.heap[g]? = some (.cells (recCells kd a v k se rq A n c vn vp vb st of x) 115 (0, 0)) by rw [hw1, hg]; exact heap_alloc_new w _)
  have HP1 := Aside0.mk ((HB.out.block p (blk_lt HP.out)).trans HP.out)
  clear hw1 hg
  have g7 : w1.cell? ⟨g, 7, none⟩ = some (.int .i64 vn) := (blk_cell HG.out 7).trans rfl
  have c0 : w1.cell? ⟨p, 0, none⟩ = some (.int .i64 s.vn) := (blk_cell HP1.out 0).trans rfl
  have hz : ∀ m, Below w.heap.size w (w1.drewN m) := fun m => below_step HB.out (Drawn0.below ⟨⟨m, rfl⟩⟩)
  have HZ := Aside0.mk hz
  clear hz
  by_cases h1 : vn = s.vn
  · have e1 : decide (vn = s.vn) = true := decide_eq_true h1
    have e2 : (vn == s.vn) = true := by simpa using h1
    go_quiet (fail)
    go_wp2; go_ret
    exact ⟨by rw [e1]; rfl, HZ.out _⟩
  · have e1 : decide (vn = s.vn) = false := decide_eq_false h1
    have e2 : (vn == s.vn) = false := by simpa using h1
    go_quiet (fail)
    go_wp2; go_ret
    exact ⟨by rw [e1]; rfl, HZ.out _⟩
set_option maxHeartbeats 16000000 in
set_option maxRecDepth 100000 in
theorem fits_save (w : World) (p : Nat) (s : SV) (E : Option Addr) (ne ce : Nat) (hp : w.heap[p]? = some (.cells (s.cells E ne ce) 53 (0, 0))) (hC : Kd.C k24 w E ne s.es) (hn : s.es.length = ne) (hs : s.small) (kd a v k se rq : Int) (A : Option Addr) (n c : Nat) (vn vp vb st of : Int) (x : ByteArray) (b : Bool) (hst : 0 ≤ st ∧ st ≤ 2147483647) (r : Bool) (hr : (if b = true then true else if st < s.st ∨ s.co < st then false else decide (of = if s.st < st then s.atv (st - s.st - 1).toNat else s.of)) = r) :
    Calls Try.prog 133 #[.agg (recCells kd a v k se rq A n c vn vp vb st of x), .pointer (some ⟨p, 0, none⟩), .bool b] w fun e w' => e = .returned (.bool r) ∧ Below w.heap.size w w' := by
  have hu53 := Try.underlying53
  have hu26 := Try.underlying26
  have hu24 := Try.underlying24
  have hu116 := Try.underlying116
  have HP := Aside0.mk hp
  have HC := Aside0.mk hC
  have HN := Aside0.mk hn
  have HS := Aside0.mk hs
  have HST := Aside0.mk hst
  clear hp hC hn hs hst
  cases b with
  | true =>
    obtain rfl : true = r := hr
    go_enter Try.func133, Try.ntmps133
    go_wp2; go_ret
    exact ⟨rfl, below_alloc (Below.refl _ _) _⟩
  | false =>
    have HR := Aside0.mk (show (if st < s.st ∨ s.co < st then false else decide (of = if s.st < st then s.atv (st - s.st - 1).toNat else s.of)) = r from hr)
    clear hr
    go_enter Try.func133, Try.ntmps133
    go_wp2_with fail
    obtain ⟨g, hg⟩ : ∃ g, g = w.heap.size := ⟨_, rfl⟩
    obtain ⟨w1, hw1⟩ : ∃ w1, w1 = w.alloc (.cells (recCells kd a v k se rq A n c vn vp vb st of x) 116) := ⟨_, rfl⟩
    rw [← hw1, ← hg]
    have HB := Aside0.mk (show Below w.heap.size w w1 by rw [hw1]; exact below_alloc (Below.refl _ _) _)
    have HG := Aside0.mk (show w1.heap[g]? = some (.cells (recCells kd a v k se rq A n c vn vp vb st of x) 116 (0, 0)) by rw [hw1, hg]; exact heap_alloc_new w _)
    have HP1 := Aside0.mk ((HB.out.block p (blk_lt HP.out)).trans HP.out)
    clear hw1 hg
    have g10 : w1.cell? ⟨g, 10, none⟩ = some (.int .i64 st) := (blk_cell HG.out 10).trans rfl
    have g11 : w1.cell? ⟨g, 11, none⟩ = some (.int .i64 of) := (blk_cell HG.out 11).trans rfl
    have c4 : w1.cell? ⟨p, 4, none⟩ = some (.int .i64 s.st) := (blk_cell HP1.out 4).trans rfl
    have c5 : w1.cell? ⟨p, 5, none⟩ = some (.int .i64 s.of) := (blk_cell HP1.out 5).trans rfl
    have c7 : w1.cell? ⟨p, 7, none⟩ = some (.slice E ne ce) := (blk_cell HP1.out 7).trans rfl
    have c8 : w1.cell? ⟨p, 8, none⟩ = some (.int .i64 s.co) := (blk_cell HP1.out 8).trans rfl
    have HZ := Aside0.mk (show ∀ m, Below w.heap.size w (w1.drewN m) from fun m => below_step HB.out (Drawn0.below ⟨⟨m, rfl⟩⟩))
    by_cases h1 : st < s.st
    · have e1 : decide (st < s.st) = true := decide_eq_true h1
      have HV := Aside0.mk (show (if st < s.st ∨ s.co < st then false else decide (of = if s.st < st then s.atv (st - s.st - 1).toNat else s.of)) = false from if_pos (.inl h1))
      go_quiet (fail)
      go_wp2; go_ret
      exact ⟨by rw [← HR.out, HV.out]; rfl, HZ.out _⟩
    have e1 : decide (st < s.st) = false := decide_eq_false h1
    by_cases h2 : s.co < st
    · have e2 : decide (s.co < st) = true := decide_eq_true h2
      have HV := Aside0.mk (show (if st < s.st ∨ s.co < st then false else decide (of = if s.st < st then s.atv (st - s.st - 1).toNat else s.of)) = false from if_pos (.inr h2))
      go_quiet (fail)
      go_wp2; go_ret
      exact ⟨by rw [← HR.out, HV.out]; rfl, HZ.out _⟩
    have e2 : decide (s.co < st) = false := decide_eq_false h2
    have HV := Aside0.mk (show (if st < s.st ∨ s.co < st then false else decide (of = if s.st < st then s.atv (st - s.st - 1).toNat else s.of)) = decide (of = if s.st < st then s.atv (st - s.st - 1).toNat else s.of) from if_neg (by omega))
    have hsm := HS.out
    have hst := HST.out
    by_cases h3 : s.st < st
    · have e3 : decide (s.st < st) = true := decide_eq_true h3
      obtain ⟨j, hj⟩ : ∃ j : Nat, (j : Int) = st - s.st - 1 := ⟨(st - s.st - 1).toNat, by omega⟩
      have hjn : j < ne := by
        have h4 := hsm.2.2.2
        have h5 := HN.out
        omega
      have hv3 : (if s.st < st then s.atv (st - s.st - 1).toNat else s.of) = s.atv j := by rw [if_pos h3, ← hj, Int.toNat_natCast]
      obtain ⟨ad, A5, e5, rfl, f0, f1, _⟩ := at_T24 HC.out (j : Int) (by omega) (by omega)
      rw [Int.toNat_natCast] at f1
      replace f1 := pw_cell_below HB.out f1
      obtain ⟨vj, hvj⟩ : ∃ vj, vj = s.atv j := ⟨_, rfl⟩
      rw [show (rd_T24 s.es (j : Int)).f1 = vj from hvj.symm] at f1
      have HV2 := Aside0.mk (show (if st < s.st ∨ s.co < st then false else decide (of = if s.st < st then s.atv (st - s.st - 1).toNat else s.of)) = decide (of = vj) by rw [HV.out, hv3, hvj])
      have i1 : (j < ne) = True := eq_true hjn
      have i2 : ((j : Int) < (ne : Int)) = True := eq_true (by omega)
      have m1 : 0 ≤ s.st := hsm.1
      have m2 : s.st ≤ 2147483647 := hsm.2.1
      have w3 : IntKind.i64.wrap (st - s.st) = st - s.st := (i64_w _).trans (wr_diff (by omega) (by omega))
      have w4 : IntKind.i64.wrap (st - s.st - 1) = (j : Int) := (i64_w _).trans ((wr_diff1 (by omega) (by omega)).trans hj.symm)
      clear f0 hj hjn hv3 hvj hsm hst h1 h2 h3 m1 m2
      by_cases h5 : of = vj
      · have e5 : decide (of = vj) = true := decide_eq_true h5
        have e6 : (of == vj) = true := by simpa using h5
        go_quiet (fail)
        go_wp2_with fail
        go_quiet (fail)
        go_wp2_with fail
        go_quiet (fail)
        go_wp2; go_ret
        exact ⟨by rw [← HR.out, HV2.out, e5]; rfl, by repeat (first | exact HB.out | apply pw_below_drewN | apply below_drew1)⟩
      · have e5 : decide (of = vj) = false := decide_eq_false h5
        have e6 : (of == vj) = false := by simpa using h5
        go_quiet (fail)
        go_wp2_with fail
        go_quiet (fail)
        go_wp2_with fail
        go_quiet (fail)
        go_wp2; go_ret
        exact ⟨by rw [← HR.out, HV2.out, e5]; rfl, by repeat (first | exact HB.out | apply pw_below_drewN | apply below_drew1)⟩
    · have e3 : decide (s.st < st) = false := decide_eq_false h3
      have hv3 : (if s.st < st then s.atv (st - s.st - 1).toNat else s.of) = s.of := if_neg h3
      have HV2 := Aside0.mk (show (if st < s.st ∨ s.co < st then false else decide (of = if s.st < st then s.atv (st - s.st - 1).toNat else s.of)) = decide (of = s.of) by rw [HV.out, hv3])
      clear hv3 hsm hst h1 h2 h3
      by_cases h5 : of = s.of
      · have e5 : decide (of = s.of) = true := decide_eq_true h5
        have e6 : (of == s.of) = true := by simpa using h5
        go_quiet (fail)
        go_wp2_with fail
        go_quiet (fail)
        go_wp2; go_ret
        exact ⟨by rw [← HR.out, HV2.out, e5]; rfl, by repeat (first | exact HB.out | apply pw_below_drewN | apply below_drew1)⟩
      · have e5 : decide (of = s.of) = false := decide_eq_false h5
        have e6 : (of == s.of) = false := by simpa using h5
        go_quiet (fail)
        go_wp2_with fail
        go_quiet (fail)
        go_wp2; go_ret
        exact ⟨by rw [← HR.out, HV2.out, e5]; rfl, by repeat (first | exact HB.out | apply pw_below_drewN | apply below_drew1)⟩

theorem k24_types {t : Nat} (h : t ∈ 24 :: k24.E) : t = 24 ∨ t = 40 := by
  have h' : t ∈ [24, 40] := h
  simpa using h'
theorem info24' : (Try.prog.info? 24).map (fun i => (i.zero, i.size, i.bytes)) = some (some (.agg entZero), 6, 64) := by kernel_rfl
set_option maxHeartbeats 8000000 in
set_option maxRecDepth 100000 in
theorem says_matched (w : World) (p : Nat) (s : SV) (E : Option Addr) (ne ce : Nat) (hp : w.heap[p]? = some (.cells (s.cells E ne ce) 53 (0, 0))) (vn : Int) :
    Calls Try.prog 130 #[.int .i64 vn, .pointer (some ⟨p, 0, none⟩)] w fun e w' => (∃ v, e = .returned v) ∧ w'.heap[p]? = some (.cells (({ s with ma := vn } : SV).cells E ne ce) 53 (0, 0)) ∧ Frm w w' (fun k => k = p) := by
  have hu53 := Try.underlying53
  have c3 := (blk_cell hp 3).trans rfl
  have z3 := blk_frozen hp 3
  have HP := Aside0.mk hp
  clear hp
  go_enter Try.func130, Try.ntmps130
  go_wp2
  go_end0
  exact ⟨⟨_, rfl⟩, blk_put HP.out 3 _ rfl, Frm.set_ (p := ⟨p, 3, none⟩) (Frm.refl w (fun k => k = p)) (.inl rfl) _⟩
set_option maxHeartbeats 8000000 in
set_option maxRecDepth 100000 in
theorem says_commit (w : World) (p : Nat) (s : SV) (E : Option Addr) (ne ce : Nat) (hp : w.heap[p]? = some (.cells (s.cells E ne ce) 53 (0, 0))) (a : Int) :
    Calls Try.prog 137 #[.int .i64 a, .pointer (some ⟨p, 0, none⟩)] w fun e w' => (∃ v, e = .returned v) ∧ w'.heap[p]? = some (.cells (({ s with co := a } : SV).cells E ne ce) 53 (0, 0)) ∧ Frm w w' (fun k => k = p) := by
  have hu53 := Try.underlying53
  have c3 := (blk_cell hp 8).trans rfl
  have z3 := blk_frozen hp 8
  have HP := Aside0.mk hp
  clear hp
  go_enter Try.func137, Try.ntmps137
  go_wp2
  go_end0
  exact ⟨⟨_, rfl⟩, blk_put HP.out 8 _ rfl, Frm.set_ (p := ⟨p, 8, none⟩) (Frm.refl w (fun k => k = p)) (.inl rfl) _⟩
set_option maxHeartbeats 16000000 in
set_option maxRecDepth 100000 in
theorem says_entry (w : World) (p : Nat) (s : SV) (E : Option Addr) (ne ce : Nat) (hp : w.heap[p]? = some (.cells (s.cells E ne ce) 53 (0, 0))) (base : Nat) (ok okx : Nat → Prop) (hR : Kd.R k24 24 w base ok (.slice E ne ce) s.es) (e : S24) (B : Option Addr) (mb cb : Nat) (hv : Kd.R k40 40 w base okx (.slice B mb cb) e.f5) (hokx : ∀ k, okx k → ok k ∧ some k ≠ (Value.slice E ne ce).ownBlock) (hfresh : ∀ k, w.heap.size ≤ k → ok k) (hbase : base ≤ w.heap.size) (hlen : s.es.length ≤ 1000000) (m : Nat) (hm : m = (s.es ++ [e]).length) :
    Calls Try.prog 126 #[.agg #[.int .i64 e.f0, .int .i64 e.f1, .int .i64 e.f2, .int .i64 e.f3, .int .i64 e.f4, .slice B mb cb], .pointer (some ⟨p, 0, none⟩)] w fun r w' => (∃ v, r = .returned v) ∧ ∃ E' ce', w'.heap[p]? = some (.cells (({ s with es := s.es ++ [e] } : SV).cells E' m ce') 53 (0, 0)) ∧
      Kd.R k24 24 w' base ok (.slice E' m ce') (s.es ++ [e]) ∧ Frm w w' (fun k => k = p ∨ (Value.slice E ne ce).ownBlock = some k) := by
  have hu53 := Try.underlying53
  have hu112 := Try.underlying112
  have HP := Aside0.mk hp
  have HR := Aside0.mk hR
  have HV := Aside0.mk hv
  have HOX := Aside0.mk hokx
  have HFR := Aside0.mk hfresh
  have HBS := Aside0.mk hbase
  have HLN := Aside0.mk hlen
  have HMM := Aside0.mk hm
  clear hp hR hv hokx hfresh hbase hlen hm
  go_enter Try.func126, Try.ntmps126
  go_wp2_with fail
  obtain ⟨g, hg⟩ : ∃ g, g = w.heap.size := ⟨_, rfl⟩
  obtain ⟨w1, hw1⟩ : ∃ w1, w1 = w.alloc (.cells #[.int .i64 e.f0, .int .i64 e.f1, .int .i64 e.f2, .int .i64 e.f3, .int .i64 e.f4, .slice B mb cb] 112) := ⟨_, rfl⟩
  rw [← hw1, ← hg]
  have HB := Aside0.mk (show Below w.heap.size w w1 by rw [hw1]; exact below_alloc (Below.refl _ _) _)
  have HG := Aside0.mk (show w1.heap[g]? = some (.cells #[.int .i64 e.f0, .int .i64 e.f1, .int .i64 e.f2, .int .i64 e.f3, .int .i64 e.f4, .slice B mb cb] 112 (0, 0)) by rw [hw1, hg]; exact heap_alloc_new w _)
  have HP1 := Aside0.mk ((HB.out.block p (blk_lt HP.out)).trans HP.out)
  have HPG := Aside0.mk (show p ≠ g ∧ w.heap.size ≤ g by have := blk_lt HP.out; omega)
  have HR1 := Aside0.mk (Kd.R_below HR.out HB.out)
  have HV1 := Aside0.mk (Kd.R_below HV.out HB.out)
  clear hw1 hg
  have c7 : w1.drew.cell? ⟨p, 7, none⟩ = some (.slice E ne ce) := (blk_cell (w := w1.drew) HP1.out 7).trans rfl
  have g0 : w1.drew.cell? ⟨g, 0, none⟩ = _ := (blk_cell (w := w1.drew) HG.out 0).trans rfl
  have g1 : w1.drew.cell? ⟨g, 1, none⟩ = _ := (blk_cell (w := w1.drew) HG.out 1).trans rfl
  have g2 : w1.drew.cell? ⟨g, 2, none⟩ = _ := (blk_cell (w := w1.drew) HG.out 2).trans rfl
  have g3 : w1.drew.cell? ⟨g, 3, none⟩ = _ := (blk_cell (w := w1.drew) HG.out 3).trans rfl
  have g4 : w1.drew.cell? ⟨g, 4, none⟩ = _ := (blk_cell (w := w1.drew) HG.out 4).trans rfl
  have g5 : w1.drew.cell? ⟨g, 5, none⟩ = _ := (blk_cell (w := w1.drew) HG.out 5).trans rfl
  refine start_ (n := 11) (S := fun w' => w'.cell? ⟨p, 7, none⟩ = some (.slice E ne ce) ∧ w'.cell? ⟨g, 0, none⟩ = some (.int .i64 e.f0) ∧ w'.cell? ⟨g, 1, none⟩ = some (.int .i64 e.f1) ∧ w'.cell? ⟨g, 2, none⟩ = some (.int .i64 e.f2) ∧ w'.cell? ⟨g, 3, none⟩ = some (.int .i64 e.f3) ∧ w'.cell? ⟨g, 4, none⟩ = some (.int .i64 e.f4) ∧ w'.cell? ⟨g, 5, none⟩ = some (.slice B mb cb)) (ds := [10]) bq147 (by kernel_rfl) rfl rfl ⟨c7, g0, g1, g2, g3, g4, g5⟩ (fun hHeld => ?_)
  refine pure_ (i := 0) (N := some 4) (v := ?_) (a' := ?_) bq148 rfl rfl (by kernel_rfl) (fun _ _ _ h => h) (Or.inl ⟨by rfl, ?_⟩) ?_ ?_
  rotate_left
  · intro w'; go_simp; with_reducible rfl
  rotate_left
  · simp only [sxx]; rfl
  refine pure_ (i := 1) (N := some 5) (v := ?_) (a' := ?_) bq149 rfl rfl (by kernel_rfl) (fun _ _ _ h => h) (Or.inl ⟨by rfl, ?_⟩) ?_ ?_
  rotate_left
  · intro w'; go_simp; with_reducible rfl
  rotate_left
  · simp only [sxx]; rfl
  refine pure_ (i := 2) (N := some 6) (v := ?_) (a' := ?_) bq150 rfl rfl (by kernel_rfl) (fun _ _ _ h => h) (Or.inl ⟨by rfl, ?_⟩) ?_ ?_
  rotate_left
  · intro w'; go_simp; with_reducible rfl
  rotate_left
  · simp only [sxx]; rfl
  refine pure_ (i := 3) (N := some 7) (v := ?_) (a' := ?_) bq151 rfl rfl (by kernel_rfl) (fun _ _ _ h => h) (Or.inl ⟨by rfl, ?_⟩) ?_ ?_
  rotate_left
  · intro w'; go_simp; with_reducible rfl
  rotate_left
  · simp only [sxx]; rfl
  refine take_ (i := 4) (N := some 8) (v := ?_) (a' := ?_) bq152 rfl rfl (by kernel_rfl) (fun _ _ _ h => h) (Or.inl ⟨by rfl, ?_⟩) hHeld ?_ ?_
  rotate_left
  · rintro w' ⟨s0, s1, s2, s3, s4, s5, s6⟩
    go_simp; with_reducible rfl
  rotate_left
  · simp only [sxx]; rfl
  refine take_ (i := 5) (N := some 9) (v := ?_) (a' := ?_) bq153 rfl rfl (by kernel_rfl) (fun _ _ _ h => h) (Or.inl ⟨by rfl, ?_⟩) hHeld ?_ ?_
  rotate_left
  · rintro w' ⟨s0, s1, s2, s3, s4, s5, s6⟩
    go_simp; with_reducible rfl
  rotate_left
  · simp only [sxx]; rfl
  refine one_ (i := 6) (N := some 10) bq154 rfl rfl (by kernel_rfl) (by decide) (fun K hK => ?_)
  refine value_ (w1 := ?_) (v := ?_) (by rfl) rfl ?_ ?_
  rotate_left 2
  · go_simp
    constructor
    · rfl
    · rfl
  refine hK.out _ _ ⟨pw_cell_below (below_alloc (Below.refl _ _) _) c7, pw_cell_below (below_alloc (Below.refl _ _) _) g0, pw_cell_below (below_alloc (Below.refl _ _) _) g1, pw_cell_below (below_alloc (Below.refl _ _) _) g2, pw_cell_below (below_alloc (Below.refl _ _) _) g3, pw_cell_below (below_alloc (Below.refl _ _) _) g4, pw_cell_below (below_alloc (Below.refl _ _) _) g5⟩ (fun hHeld => ?_)
  clear hK K
  refine norm_ (a' := ?_) ?_ ?_
  rotate_left
  · show Act.put _ (some 10) _ = _
    simp only [sxx]; rfl
  refine one_ (i := 7) (N := some 11) bq155 rfl rfl (by kernel_rfl) (by decide) (fun K hK => ?_)
  refine Kd.R_append_step k24 (w0 := w1.drew) (W := w1.drew) base (by rfl) (.tmp 8) (.tmp 10) 51 24 (.agg entZero) 64 rfl Try.underlying51 info24' rfl (by decide) (by decide) (.slice E ne ce) s.es e [.int .i64 e.f0, .int .i64 e.f1, .int .i64 e.f2, .int .i64 e.f3, .int .i64 e.f4, .slice B mb cb] ok okx rfl rfl
    (k24_mkM _ _ _ _ (Kd.R_step HV1.out (fun _ _ _ => rfl))) HOX.out (fun k hk => HFR.out k (Nat.le_trans HB.out.size hk)) (Kd.R_step HR1.out (fun _ _ _ => rfl)) (Below.refl _ _) (Nat.le_trans HBS.out HB.out.size) (by have := HLN.out; omega) ?_
  intro v6 w6 ho6 hb6 hg6 hat6
  obtain ⟨A6, c6, rfl⟩ := Kd.R_slice ho6
  rw [← HMM.out] at ho6 hat6 ⊢
  have hp6 := blk_grown (w := w1.drew) HP1.out hg6 (Kd.R_ne HR1.out HP1.out (by decide))
  have hg6b := blk_grown (w := w1.drew) HG.out hg6 (Kd.R_ne HR1.out HG.out (by decide))
  have p7 : w6.cell? ⟨p, 7, none⟩ = some (.slice E ne ce) := (blk_cell hp6 7).trans rfl
  have q0 : w6.cell? ⟨g, 0, none⟩ = _ := (blk_cell hg6b 0).trans rfl
  have q1 : w6.cell? ⟨g, 1, none⟩ = _ := (blk_cell hg6b 1).trans rfl
  have q2 : w6.cell? ⟨g, 2, none⟩ = _ := (blk_cell hg6b 2).trans rfl
  have q3 : w6.cell? ⟨g, 3, none⟩ = _ := (blk_cell hg6b 3).trans rfl
  have q4 : w6.cell? ⟨g, 4, none⟩ = _ := (blk_cell hg6b 4).trans rfl
  have q5 : w6.cell? ⟨g, 5, none⟩ = _ := (blk_cell hg6b 5).trans rfl
  have HO6 := Aside0.mk ho6
  have HG6 := Aside0.mk hg6
  have HP6 := Aside0.mk hp6
  have z7 := blk_frozen hp6 7
  clear ho6 hb6 hg6 hat6 hp6 hg6b
  refine hK.out _ _ ⟨p7, q0, q1, q2, q3, q4, q5⟩ (fun hHeld => ?_)
  clear hK K
  refine norm_ (a' := ?_) ?_ ?_
  rotate_left
  · show Act.put _ (some 11) _ = _
    simp only [sxx]; rfl
  refine pure_ (i := 8) (N := some 12) (v := ?_) (a' := ?_) bq156 rfl rfl (by kernel_rfl) (fun _ _ _ h => h) (Or.inl ⟨by rfl, ?_⟩) ?_ ?_
  rotate_left
  · intro w'; go_simp; with_reducible rfl
  rotate_left
  · simp only [sxx]; rfl
  refine pure_ (i := 9) (N := some 13) (v := ?_) (a' := ?_) bq157 rfl rfl (by kernel_rfl) (fun _ _ _ h => h) (Or.inl ⟨by rfl, ?_⟩) ?_ ?_
  rotate_left
  · intro w'; go_simp; with_reducible rfl
  rotate_left
  · simp only [sxx]; rfl
  refine last_ (i := 10) (N := none) bq158 rfl rfl (by kernel_rfl) (by decide) (fun K hK => ?_)
  refine skip_ (w1 := ?_) (by rfl) rfl ?_ ?_
  rotate_left
  · go_simp; rfl
  refine hK.out _ _ ?_
  clear hK K
  refine done_ (by kernel_rfl) ?_
  go_end0
  refine ⟨⟨_, rfl⟩, A6, c6, ?_, ?_, ?_⟩
  · exact blk_put HP6.out 7 _ rfl
  · exact Kd.R_set HO6.out HP6.out (fun t ht => by rcases k24_types ht with rfl | rfl <;> decide) 7 _
  · refine Frm.set_ (p := ⟨p, 7, none⟩) ?_ (.inl (.inl rfl)) _
    exact (Frm.of_below (below_drew1 HB.out) _).then_ (Frm.of_grown (S := fun k => k = p ∨ (Value.slice E ne ce).ownBlock = some k) (w := w1.drew) HG6.out (fun k e => .inr e)) (fun k hk _ => hk)
set_option maxHeartbeats 16000000 in
set_option maxRecDepth 100000 in
theorem says_reset (w : World) (p : Nat) (s : SV) (E : Option Addr) (ne ce : Nat) (hp : w.heap[p]? = some (.cells (s.cells E ne ce) 53 (0, 0))) (kd a v k se rq : Int) (A : Option Addr) (n c : Nat) (vn vp vb st of : Int) (x : ByteArray) :
    Calls Try.prog 132 #[.agg (recCells kd a v k se rq A n c vn vp vb st of x), .pointer (some ⟨p, 0, none⟩)] w fun r w' => (∃ v, r = .returned v) ∧ w'.heap[p]? = some (.cells (({ s with ma := vn, st := st, of := of, x := x, co := st, es := [] } : SV).cells none 0 0) 53 (0, 0)) ∧ Frm w w' (fun k => k = p) := by
  have hu53 := Try.underlying53
  have hu26 := Try.underlying26
  have hu115 := Try.underlying115
  have HP := Aside0.mk hp
  clear hp
  go_enter Try.func132, Try.ntmps132
  go_upto_region 1 with (fail)
  obtain ⟨g, hg⟩ : ∃ g, g = w.heap.size := ⟨_, rfl⟩
  obtain ⟨w1, hw1⟩ : ∃ w1, w1 = w.alloc (.cells (recCells kd a v k se rq A n c vn vp vb st of x) 115) := ⟨_, rfl⟩
  rw [← hw1, ← hg]
  have HB := Aside0.mk (show Below w.heap.size w w1 by rw [hw1]; exact below_alloc (Below.refl _ _) _)
  have HG := Aside0.mk (show w1.heap[g]? = some (.cells (recCells kd a v k se rq A n c vn vp vb st of x) 115 (0, 0)) by rw [hw1, hg]; exact heap_alloc_new w _)
  have HP1 := Aside0.mk ((HB.out.block p (blk_lt HP.out)).trans HP.out)
  have HPG := Aside0.mk (show g ≠ p by have := blk_lt HP.out; omega)
  clear hw1 hg
  have c3 := (blk_cell HP1.out 3).trans rfl
  have z3 := blk_frozen HP1.out 3
  have g7 := (blk_cell HG.out 7).trans rfl
  go_wp2_with fail
  clear c3 z3 g7
  obtain ⟨w2, hw2⟩ : ∃ w2, w2 = w1.setCell ⟨p, 3, none⟩ (.int .i64 vn) := ⟨_, rfl⟩
  rw [← hw2]
  have HP2 := Aside0.mk (show w2.heap[p]? = some (.cells (({ s with ma := vn } : SV).cells E ne ce) 53 (0, 0)) by rw [hw2]; exact blk_put HP1.out 3 _ rfl)
  have HG2 := Aside0.mk (show w2.heap[g]? = some (.cells (recCells kd a v k se rq A n c vn vp vb st of x) 115 (0, 0)) by rw [hw2]; exact blk_far HG.out (by simp only; exact HPG.out) _)
  have HX2 := Aside0.mk (show Frm w w2 (fun k => k = p) by rw [hw2]; exact Frm.set_ (p := ⟨p, 3, none⟩) (Frm.of_below HB.out (fun k => k = p)) (.inl rfl) _)
  clear hw2
  have a10 : w2.drew.cell? ⟨g, 10, none⟩ = some (.int .i64 st) := (blk_cell (w := w2.drew) HG2.out 10).trans rfl
  have a11 : w2.drew.cell? ⟨g, 11, none⟩ = some (.int .i64 of) := (blk_cell (w := w2.drew) HG2.out 11).trans rfl
  have a12 : w2.drew.cell? ⟨g, 12, none⟩ = some (.string x) := (blk_cell (w := w2.drew) HG2.out 12).trans rfl
  have b10 : w2.cell? ⟨g, 10, none⟩ = some (.int .i64 st) := a10
  have b11 : w2.cell? ⟨g, 11, none⟩ = some (.int .i64 of) := a11
  have b12 : w2.cell? ⟨g, 12, none⟩ = some (.string x) := a12
  have c4 := (blk_cell HP2.out 4).trans rfl
  have c5 := (blk_cell HP2.out 5).trans rfl
  have c6 := (blk_cell HP2.out 6).trans rfl
  have c8 := (blk_cell HP2.out 8).trans rfl
  have z4 := blk_frozen HP2.out 4
  have z5 := blk_frozen HP2.out 5
  have z6 := blk_frozen HP2.out 6
  have z8 := blk_frozen HP2.out 8
  have hgp := HPG.out
  refine start_ (n := 24) (S := fun w' => w'.cell? ⟨g, 10, none⟩ = some (.int .i64 st) ∧ w'.cell? ⟨g, 11, none⟩ = some (.int .i64 of) ∧ w'.cell? ⟨g, 12, none⟩ = some (.string x)) (ds := [23]) bq159 (by kernel_rfl) rfl rfl ⟨a10, a11, a12⟩ (fun hHeld => ?_)
  refine pure_ (i := 0) (N := some 10) (v := ?_) (a' := ?_) bq160 rfl rfl (by kernel_rfl) (fun _ _ _ h => h) (Or.inl ⟨by rfl, ?_⟩) ?_ ?_
  rotate_left
  · intro w'; go_simp; with_reducible rfl
  rotate_left
  · simp only [sxx]; rfl
  refine pure_ (i := 1) (N := some 11) (v := ?_) (a' := ?_) bq161 rfl rfl (by kernel_rfl) (fun _ _ _ h => h) (Or.inl ⟨by rfl, ?_⟩) ?_ ?_
  rotate_left
  · intro w'; go_simp; with_reducible rfl
  rotate_left
  · simp only [sxx]; rfl
  refine pure_ (i := 2) (N := some 12) (v := ?_) (a' := ?_) bq162 rfl rfl (by kernel_rfl) (fun _ _ _ h => h) (Or.inl ⟨by rfl, ?_⟩) ?_ ?_
  rotate_left
  · intro w'; go_simp; with_reducible rfl
  rotate_left
  · simp only [sxx]; rfl
  refine pure_ (i := 3) (N := some 13) (v := ?_) (a' := ?_) bq163 rfl rfl (by kernel_rfl) (fun _ _ _ h => h) (Or.inl ⟨by rfl, ?_⟩) ?_ ?_
  rotate_left
  · intro w'; go_simp; with_reducible rfl
  rotate_left
  · simp only [sxx]; rfl
  refine pure_ (i := 4) (N := some 14) (v := ?_) (a' := ?_) bq164 rfl rfl (by kernel_rfl) (fun _ _ _ h => h) (Or.inl ⟨by rfl, ?_⟩) ?_ ?_
  rotate_left
  · intro w'; go_simp; with_reducible rfl
  rotate_left
  · simp only [sxx]; rfl
  refine pure_ (i := 6) (N := some 16) (v := ?_) (a' := ?_) bq165 rfl rfl (by kernel_rfl) (fun _ _ _ h => h) (Or.inl ⟨by rfl, ?_⟩) ?_ ?_
  rotate_left
  · intro w'; go_simp; with_reducible rfl
  rotate_left
  · simp only [sxx]; rfl
  refine pure_ (i := 8) (N := some 18) (v := ?_) (a' := ?_) bq166 rfl rfl (by kernel_rfl) (fun _ _ _ h => h) (Or.inl ⟨by rfl, ?_⟩) ?_ ?_
  rotate_left
  · intro w'; go_simp; with_reducible rfl
  rotate_left
  · simp only [sxx]; rfl
  refine pure_ (i := 10) (N := some 20) (v := ?_) (a' := ?_) bq167 rfl rfl (by kernel_rfl) (fun _ _ _ h => h) (Or.inl ⟨by rfl, ?_⟩) ?_ ?_
  rotate_left
  · intro w'; go_simp; with_reducible rfl
  rotate_left
  · simp only [sxx]; rfl
  refine take_ (i := 5) (N := some 15) (v := ?_) (a' := ?_) bq168 rfl rfl (by kernel_rfl) (fun _ _ _ h => h) (Or.inl ⟨by rfl, ?_⟩) hHeld ?_ ?_
  rotate_left
  · rintro w' ⟨s0, s1, s2⟩
    go_simp; with_reducible rfl
  rotate_left
  · simp only [sxx]; rfl
  refine pure_ (i := 12) (N := some 22) (v := ?_) (a' := ?_) bq169 rfl rfl (by kernel_rfl) (fun _ _ _ h => h) (Or.inl ⟨by rfl, ?_⟩) ?_ ?_
  rotate_left
  · intro w'; go_simp; with_reducible rfl
  rotate_left
  · simp only [sxx]; rfl
  refine pure_ (i := 13) (N := some 23) (v := ?_) (a' := ?_) bq170 rfl rfl (by kernel_rfl) (fun _ _ _ h => h) (Or.inl ⟨by rfl, ?_⟩) ?_ ?_
  rotate_left
  · intro w'; go_simp; with_reducible rfl
  rotate_left
  · simp only [sxx]; rfl
  refine take_ (i := 7) (N := some 17) (v := ?_) (a' := ?_) bq171 rfl rfl (by kernel_rfl) (fun _ _ _ h => h) (Or.inl ⟨by rfl, ?_⟩) hHeld ?_ ?_
  rotate_left
  · rintro w' ⟨s0, s1, s2⟩
    go_simp; with_reducible rfl
  rotate_left
  · simp only [sxx]; rfl
  refine take_ (i := 9) (N := some 19) (v := ?_) (a' := ?_) bq172 rfl rfl (by kernel_rfl) (fun _ _ _ h => h) (Or.inl ⟨by rfl, ?_⟩) hHeld ?_ ?_
  rotate_left
  · rintro w' ⟨s0, s1, s2⟩
    go_simp; with_reducible rfl
  rotate_left
  · simp only [sxx]; rfl
  refine take_ (i := 11) (N := some 21) (v := ?_) (a' := ?_) bq173 rfl rfl (by kernel_rfl) (fun _ _ _ h => h) (Or.inl ⟨by rfl, ?_⟩) hHeld ?_ ?_
  rotate_left
  · rintro w' ⟨s0, s1, s2⟩
    go_simp; with_reducible rfl
  rotate_left
  · simp only [sxx]; rfl
  refine one_ (i := 14) (N := none) bq174 rfl rfl (by kernel_rfl) (by decide) (fun K hK => ?_)
  refine skip_ (w1 := ?_) (by rfl) rfl ?_ ?_
  rotate_left
  · go_simp; rfl
  refine hK.out _ _ ⟨(by first | exact set_other hgp a10 | exact drew_cell (set_other hgp b10) | exact set_other hgp b10), (by first | exact set_other hgp a11 | exact drew_cell (set_other hgp b11) | exact set_other hgp b11), (by first | exact set_other hgp a12 | exact drew_cell (set_other hgp b12) | exact set_other hgp b12)⟩ (fun hHeld => ?_)
  clear hK K
  refine pure_ (i := 15) (N := some 24) (v := ?_) (a' := ?_) bq175 rfl rfl (by kernel_rfl) (fun _ _ _ h => h) (Or.inl ⟨by rfl, ?_⟩) ?_ ?_
  rotate_left
  · intro w'; go_simp; with_reducible rfl
  rotate_left
  · simp only [sxx]; rfl
  refine pure_ (i := 16) (N := some 25) (v := ?_) (a' := ?_) bq176 rfl rfl (by kernel_rfl) (fun _ _ _ h => h) (Or.inl ⟨by rfl, ?_⟩) ?_ ?_
  rotate_left
  · intro w'; go_simp; with_reducible rfl
  rotate_left
  · simp only [sxx]; rfl
  refine one_ (i := 17) (N := none) bq177 rfl rfl (by kernel_rfl) (by decide) (fun K hK => ?_)
  refine skip_ (w1 := ?_) (by rfl) rfl ?_ ?_
  rotate_left
  · go_simp; rfl
  refine hK.out _ _ ⟨(by first | exact set_other hgp (set_other hgp a10) | exact drew_cell (set_other hgp (set_other hgp b10)) | exact set_other hgp (set_other hgp b10)), (by first | exact set_other hgp (set_other hgp a11) | exact drew_cell (set_other hgp (set_other hgp b11)) | exact set_other hgp (set_other hgp b11)), (by first | exact set_other hgp (set_other hgp a12) | exact drew_cell (set_other hgp (set_other hgp b12)) | exact set_other hgp (set_other hgp b12))⟩ (fun hHeld => ?_)
  clear hK K
  refine pure_ (i := 18) (N := some 26) (v := ?_) (a' := ?_) bq178 rfl rfl (by kernel_rfl) (fun _ _ _ h => h) (Or.inl ⟨by rfl, ?_⟩) ?_ ?_
  rotate_left
  · intro w'; go_simp; with_reducible rfl
  rotate_left
  · simp only [sxx]; rfl
  refine pure_ (i := 19) (N := some 27) (v := ?_) (a' := ?_) bq179 rfl rfl (by kernel_rfl) (fun _ _ _ h => h) (Or.inl ⟨by rfl, ?_⟩) ?_ ?_
  rotate_left
  · intro w'; go_simp; with_reducible rfl
  rotate_left
  · simp only [sxx]; rfl
  refine one_ (i := 20) (N := none) bq180 rfl rfl (by kernel_rfl) (by decide) (fun K hK => ?_)
  refine skip_ (w1 := ?_) (by rfl) rfl ?_ ?_
  rotate_left
  · go_simp; rfl
  refine hK.out _ _ ⟨(by first | exact set_other hgp (set_other hgp (set_other hgp a10)) | exact drew_cell (set_other hgp (set_other hgp (set_other hgp b10))) | exact set_other hgp (set_other hgp (set_other hgp b10))), (by first | exact set_other hgp (set_other hgp (set_other hgp a11)) | exact drew_cell (set_other hgp (set_other hgp (set_other hgp b11))) | exact set_other hgp (set_other hgp (set_other hgp b11))), (by first | exact set_other hgp (set_other hgp (set_other hgp a12)) | exact drew_cell (set_other hgp (set_other hgp (set_other hgp b12))) | exact set_other hgp (set_other hgp (set_other hgp b12)))⟩ (fun hHeld => ?_)
  clear hK K
  refine pure_ (i := 21) (N := some 28) (v := ?_) (a' := ?_) bq181 rfl rfl (by kernel_rfl) (fun _ _ _ h => h) (Or.inl ⟨by rfl, ?_⟩) ?_ ?_
  rotate_left
  · intro w'; go_simp; with_reducible rfl
  rotate_left
  · simp only [sxx]; rfl
  refine pure_ (i := 22) (N := some 29) (v := ?_) (a' := ?_) bq182 rfl rfl (by kernel_rfl) (fun _ _ _ h => h) (Or.inl ⟨by rfl, ?_⟩) ?_ ?_
  rotate_left
  · intro w'; go_simp; with_reducible rfl
  rotate_left
  · simp only [sxx]; rfl
  refine last_ (i := 23) (N := none) bq183 rfl rfl (by kernel_rfl) (by decide) (fun K hK => ?_)
  refine skip_ (w1 := ?_) (by rfl) rfl ?_ ?_
  rotate_left
  · go_simp; rfl
  refine hK.out _ _ ?_
  clear hK K
  refine done_ (by kernel_rfl) ?_
  clear hHeld a10 a11 a12 b10 b11 b12 c4 c5 c6 c8 z4 z5 z6 z8 hgp
  obtain ⟨w7, hw7⟩ : ∃ w7, w7 = ((((w2.setCell ⟨p, 4, none⟩ (.int .i64 st)).setCell ⟨p, 5, none⟩ (.int .i64 of)).setCell ⟨p, 6, none⟩ (.string x)).setCell ⟨p, 8, none⟩ (.int .i64 st)).drew := ⟨_, rfl⟩
  rw [← hw7]
  have HP7 := Aside0.mk (show w7.heap[p]? = some (.cells (({ s with ma := vn, st := st, of := of, x := x, co := st } : SV).cells E ne ce) 53 (0, 0)) by
    rw [hw7]
    show ((((w2.setCell ⟨p, 4, none⟩ (.int .i64 st)).setCell ⟨p, 5, none⟩ (.int .i64 of)).setCell ⟨p, 6, none⟩ (.string x)).setCell ⟨p, 8, none⟩ (.int .i64 st)).heap[p]? = _
    refine blk_put (cs := ({ s with ma := vn, st := st, of := of, x := x } : SV).cells E ne ce) ?_ 8 _ rfl
    refine blk_put (cs := ({ s with ma := vn, st := st, of := of } : SV).cells E ne ce) ?_ 6 _ rfl
    refine blk_put (cs := ({ s with ma := vn, st := st } : SV).cells E ne ce) ?_ 5 _ rfl
    exact blk_put HP2.out 4 _ rfl)
  have HX7 := Aside0.mk (show Frm w w7 (fun k => k = p) by
    rw [hw7]
    exact ((((HX2.out.set_ (p := ⟨p, 4, none⟩) (.inl rfl) _).set_ (p := ⟨p, 5, none⟩) (.inl rfl) _).set_ (p := ⟨p, 6, none⟩) (.inl rfl) _).set_ (p := ⟨p, 8, none⟩) (.inl rfl) _).drew)
  clear hw7
  have c7 := (blk_cell HP7.out 7).trans rfl
  have z7 := blk_frozen HP7.out 7
  go_wp2
  go_end0
  exact ⟨⟨_, rfl⟩, blk_put HP7.out 7 _ rfl, HX7.out.set_ (p := ⟨p, 7, none⟩) (.inl rfl) _⟩

theorem R_empty {α : Type} (d : Kd α) (e : Nat) (w : World) (base : Nat) (ok : Nat → Prop) (hb : base ≤ w.heap.size) (hok : ok w.heap.size) : d.R e (w.alloc (.cells #[] e)) base ok (.slice (some ⟨w.heap.size, 0, none⟩) 0 0) [] :=
  ⟨fun k hk => by
    have : w.heap.size = k := by simpa [Value.ownBlock] using hk
    exact this ▸ hok, [], ⟨by simp, .inr ⟨w.heap.size, 0, #[], rfl, hb, (by show (w.heap.push _)[w.heap.size]? = _; simp), Nat.le_refl _, Nat.zero_le _, by simp, by simp⟩⟩, ⟨by simp, fun j p hj => by simp at hj⟩⟩
theorem reads_drop {α : Type} {R : α → List Value → Prop} {size : Nat} {w : World} {A : Option Addr} {xs : List α} {c m : Nat} (h : ReadsRow R size w A xs.length xs) (hm : m ≤ xs.length) (hc : xs.length ≤ c) : ReadsRow R size w (if c = m then A else A.map (·.add (m * size))) (xs.drop m).length (xs.drop m) := by
  have hl : (xs.drop m).length = xs.length - m := List.length_drop
  refine ⟨rfl, by rw [hl]; have := h.2.1; omega, fun hp => ?_⟩
  rw [hl] at hp
  obtain ⟨ad, rfl, hcell⟩ := h.2.2 (by omega)
  rw [if_neg (by omega)]
  refine ⟨ad.add (m * size), rfl, fun j p hj => ?_⟩
  rw [List.getElem?_drop] at hj
  obtain ⟨cs, h1, h2, h3⟩ := hcell (m + j) p hj
  refine ⟨cs, h1, h2, fun i u hu => ?_⟩
  rw [add_add, show m * size + (j * size + i) = (m + j) * size + i by rw [Nat.add_mul]; omega]
  exact h3 i u hu
theorem cut51 {A : Option Addr} {n c : Nat} (j : Nat) (hj : j ≤ n) (hc : n ≤ c) :
    ∃ A', (∀ W : World, (Instr.slice 51 (.slice A n c) (some (.int .i64 (j : Int))) none none).run Try.prog W = .ok (.slice A' (n - j) (c - j)) W) ∧ ∀ (W : World) (R : S24 → List Value → Prop) (xs : List S24), ReadsRow R 6 W A n xs → ReadsRow R 6 W A' (n - j) (xs.drop j) := by
  obtain ⟨i0, hi, hzz⟩ := Option.map_eq_some_iff.1 info24'
  simp only [Prod.mk.injEq] at hzz
  have hrun := cut_from (P := Try.prog) 51 24 .i64 Try.underlying51 hi 6 hzz.2.1 A n c (j : Int) (by omega) (by omega)
  refine ⟨_, hrun, fun W R xs HR => ?_⟩
  obtain rfl : xs.length = n := HR.1
  have hd := reads_drop (m := j) HR hj hc
  rw [List.length_drop] at hd
  rw [Int.toNat_natCast]
  exact hd
theorem eq51_some (ad : Addr) (n c : Nat) : ∀ W : World, (binOp .eql 51 (.slice (some ad) n c) (.slice none 0 0)).run Try.prog W = .ok (.bool false) W := fun W => by kernel_rfl
theorem eq51_none (n c : Nat) : ∀ W : World, (binOp .eql 51 (.slice none n c) (.slice none 0 0)).run Try.prog W = .ok (.bool true) W := fun W => by kernel_rfl
set_option maxRecDepth 100000 in
theorem clone_none (w : World) (n c : Nat) : Calls Try.prog 135 #[.slice none n c] w fun e w' => e = .returned (.slice none 0 0) ∧ w' = w := by
  have he := eq51_none n c
  go_enter Try.func135, Try.ntmps135
  go_wp2; go_ret
  exact ⟨rfl, rfl⟩
set_option maxHeartbeats 8000000 in
set_option maxRecDepth 100000 in
theorem clone_some (ad : Addr) (n c : Nat) (l : List S24) (w : World) (base : Nat) (ok : Nat → Prop) (hn : l.length = n) (hr : ReadsRow (k24.M w base ok) 6 w (some ad) n l) (hm : n ≤ 1000000) (hfresh : ∀ k, w.heap.size ≤ k → ok k) (hbase : base ≤ w.heap.size) :
    Calls Try.prog 135 #[.slice (some ad) n c] w fun e w' => ∃ v, e = .returned v ∧ Kd.R k24 24 w' base ok v l ∧ Below w.heap.size w w' := by
  have HR := Aside0.mk hr
  have HN := Aside0.mk hn
  have HF := Aside0.mk hfresh
  have HBS := Aside0.mk hbase
  have he := eq51_some ad n c
  clear hr hn hfresh hbase
  go_enter Try.func135, Try.ntmps135
  go_wp2_with (with_reducible refine stop_append rfl ?_)
  refine Kd.R_append_rows k24 (Rr := k24.M (w.alloc (.cells #[] 24)) base (fun k => ok k ∧ k < w.heap.size)) (w0 := w) base rfl (.tmp 5) (.tmp 6) 51 24 (.agg entZero) 64 rfl Try.underlying51 info24' rfl (by decide) (by decide) _ [] l (some ad) n c ok (fun k => ok k ∧ k < w.heap.size) rfl rfl (R_empty k24 24 w base ok HBS.out (HF.out _ (Nat.le_refl _))) ?_ (fun x cs h => h) (fun k hk => ⟨hk.1, fun e => by
    have h1 := hk.2
    have h2 : k = w.heap.size := by injection e
    omega⟩) (fun k hk => HF.out k (by have := hk; simp at this; omega)) ((Frm.of_below (below_alloc (Below.refl _ _) _) (fun _ => False)).below (fun _ h _ => h.elim) HBS.out) (by have := HBS.out; simp; omega) (by simp; omega) ?_
  · refine HR.out.imp_ (below_alloc (Below.refl _ _) _) (fun x cs h => ?_)
    exact Kd.M_below (k24.M_mono (fun k hk => ⟨hk.1, hk.2.2.1⟩) (k24.M_bound h)) (below_alloc (Below.refl _ _) _)
  intro v1 w1 ho hb hg hat
  rw [List.nil_append] at ho
  have H1 := Aside0.mk ho
  have H2 := Aside0.mk (show Below w.heap.size w w1 from ((Frm.of_below (below_alloc (Below.refl _ _) _) (fun k => k = w.heap.size)).then_ (Frm.of_grown hg (S := fun k => k = w.heap.size) (fun k e => by
    have h2 : w.heap.size = k := by injection e
    exact h2.symm)) (fun k hk _ => hk)).below (fun k hk hlt => by omega) (Nat.le_refl _))
  clear ho hb hg hat
  go_wp2; go_ret
  exact ⟨_, rfl, H1.out, H2.out⟩
theorem clone_R (A : Option Addr) (n c : Nat) (l : List S24) (w : World) (base : Nat) (ok : Nat → Prop) (hn : l.length = n) (hr : ReadsRow (k24.M w base ok) 6 w A n l) (hm : n ≤ 1000000) (hfresh : ∀ k, w.heap.size ≤ k → ok k) (hbase : base ≤ w.heap.size) :
    Calls Try.prog 135 #[.slice A n c] w fun e w' => ∃ A2 c2, e = .returned (.slice A2 n c2) ∧ Kd.R k24 24 w' base ok (.slice A2 n c2) l ∧ Below w.heap.size w w' := by
  have hmain : Calls Try.prog 135 #[.slice A n c] w fun e w' => ∃ v, e = .returned v ∧ Kd.R k24 24 w' base ok v l ∧ Below w.heap.size w w' := by
    cases A with
    | some ad => exact clone_some ad n c l w base ok hn hr hm hfresh hbase
    | none =>
      have h0 : l = [] := by
        rcases Nat.eq_zero_or_pos n with h0 | h0
        · exact List.eq_nil_of_length_eq_zero (hn.trans h0)
        · obtain ⟨ad, h, _⟩ := hr.2.2 h0
          cases h
      subst h0
      refine (clone_none w n c).mono ?_
      rintro e w1 ⟨rfl, rfl⟩
      exact ⟨_, rfl, Kd.R_nil _ _ _ _ _, Below.refl _ _⟩
  refine hmain.mono ?_
  rintro e w1 ⟨v, rfl, hv, hb⟩
  obtain ⟨A2, c2, rfl⟩ := Kd.R_slice hv
  rw [hn] at hv ⊢
  exact ⟨A2, c2, rfl, hv, hb⟩
end Go.Proofs.Ytdbniihjkiecbaa.PW
