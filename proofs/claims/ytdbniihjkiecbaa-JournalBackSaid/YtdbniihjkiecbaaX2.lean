/- Words, contracts and walks of the law JournalBack, in one text. -/
import Derived.Test.YtdbniihjkiecbaaX1
import Derived.Test.YtdbniihjkiecbaaPWx14
import Derived.Test.YtdbniihjkiecbaaPWx16
import Derived.Laws.Rows
import Derived.RangeFuncNested
import Derived.RangeFuncBound
import Derived.RangeFuncCalls
import Derived.RangeFuncLeaves
import Derived.WalkKit
import Derived.OwnWalkIn
import Derived.TacticsInMore
import Derived.LoopNIn
import Derived.LoopIn
import Derived.Outline
namespace Go.Proofs.Ytdbniihjkiecbaa.PW
open Go.RowKit Go.Proofs.YtdbniihjkiecbaaW.PrintWords Go.Proofs.YtdbniihjkiecbaaW.PrintLast Go.Proofs.YtdbniihjkiecbaaW.PrintMore
set_option linter.unusedVariables false
set_option linter.unusedSimpArgs false

set_option maxHeartbeats 8000000 in
set_option maxRecDepth 100000 in
theorem dec_entry (w : World) (n c : Nat) (A : Option Addr) (l : List Int) (s v k se rq : Int) (ops : List S40) (m : Nat) (hm2 : ops.length = m) (hm1 : m ≤ 1000000) (hn : l.length = n) (hc : n ≤ c) (hok : bytesOk l = true) (hm : n ≤ 262144) (hC : C8 w A n l) (hr : EntAt l 0 s v k se rq ops (n : Int)) (hmay : entOk s v k se rq ops = true) :
    Calls Try.prog 91 #[.slice A n c] w fun r w' => ∃ B cb, r = .returned (.tuple #[.agg (entArr s v k se rq (.slice B m cb)), .int .i64 0]) ∧ R40 w' w.heap.size (.slice B m cb) ops ∧ Below w.heap.size w w' := by
  have hmf : ∀ (fn : Fn) (first cap : Array Value) (w : World), (Instr.makeFunc fn first cap).run Try.prog w = .ok (.func fn first cap) w := fun _ _ _ _ => rfl
  have hu24 := Try.underlying24
  have HN := Aside0.mk hn
  have HC := Aside0.mk hC
  have HCC := Aside0.mk hc
  have HOK := Aside0.mk hok
  have HM := Aside0.mk hm
  have HM2 := Aside0.mk hm2
  have HM1 := Aside0.mk hm1
  have HR := Aside0.mk hr
  have HMAY := Aside0.mk hmay
  have hd1 : decide ((262144 : Int) < (n : Int)) = false := decide_eq_false (by omega)
  have hd2 : decide (262144 < n) = false := decide_eq_false (by omega)
  clear hn hc hok hm hC hr hm1 hm2 hmay
  go_enter Try.func91, Try.ntmps91
  go_wp2_with fail
  obtain ⟨d, hd⟩ : ∃ d, d = w.heap.size := ⟨_, rfl⟩
  obtain ⟨f, hf⟩ : ∃ f, f = w.heap.size + 1 := ⟨_, rfl⟩
  obtain ⟨e, he⟩ : ∃ e, e = w.heap.size + 1 + 1 := ⟨_, rfl⟩
  obtain ⟨va, hva⟩ : ∃ va, va = w.alloc (.cells #[.slice A n c] 29) := ⟨_, rfl⟩
  obtain ⟨vb, hvb⟩ : ∃ vb, vb = va.alloc (.cells entZero 24) := ⟨_, rfl⟩
  obtain ⟨v1, hv1⟩ : ∃ v1, v1 = vb.alloc (.cells entZero 24) := ⟨_, rfl⟩
  rw [← hva, ← hvb, ← hv1, ← he, ← hf, ← hd]
  have hza : va.heap.size = w.heap.size + 1 := by rw [hva]; simp
  have hzb : vb.heap.size = w.heap.size + 1 + 1 := by rw [hvb, ← hza]; simp
  have hba : Below va.heap.size va vb := by rw [hvb]; exact below_alloc (Below.refl _ _) _
  have hbb : Below vb.heap.size vb v1 := by rw [hv1]; exact below_alloc (Below.refl _ _) _
  have HW1 := Aside0.mk (show Below w.heap.size w v1 from below_step (below_step (by rw [hva]; exact below_alloc (Below.refl _ _) _) hba) hbb)
  have HD1 := Aside0.mk (show v1.heap[d]? = some (.cells #[.slice A n c] 29 (0, 0)) by
    refine (hbb.block d (by omega)).trans ((hba.block d (by omega)).trans ?_)
    rw [hva, hd]; exact heap_alloc_new w _)
  have HF1 := Aside0.mk (show v1.heap[f]? = some (.cells entZero 24 (0, 0)) by
    refine (hbb.block f (by omega)).trans ?_
    rw [hvb, hf, ← hza]; exact heap_alloc_new va _)
  have HE1 := Aside0.mk (show v1.heap[e]? = some (.cells entZero 24 (0, 0)) by rw [hv1, he, ← hzb]; exact heap_alloc_new vb _)
  have HFE := Aside0.mk (show f ≠ e ∧ w.heap.size ≤ f ∧ w.heap.size ≤ e by omega)
  clear hd hf he hva hvb hv1 hza hzb hba hbb
  refine (guarded_in v1 d e n c A l s v k se rq ops m HM2.out HM1.out HN.out HCC.out HOK.out (by have := HM.out; omega) (Kd.C_below HC.out HW1.out) HD1.out HE1.out HR.out).mono ?_
  rintro r2 v2 ⟨rfl, V, ho2, he2, hf2⟩
  have HE2 := Aside0.mk he2
  have HO2 := Aside0.mk (Kd.R_lower ho2 HW1.out.size)
  have HX2 := Aside0.mk ((Frm.of_below HW1.out (fun _ => False)).then_ hf2 (fun k hk hlt => by have := HFE.out.2.2; omega))
  have HF2 := Aside0.mk (hf2.blk HF1.out (fun x => HFE.out.1 x))
  clear he2 ho2 hf2 HD1 HE1 HF1
  obtain ⟨B, mm, cb, rfl, hmm, hcb, hCo⟩ := R40_form HO2.out
  obtain rfl : m = mm := by rw [← HM2.out]; exact hmm
  have HCB := Aside0.mk hcb
  have HCO := Aside0.mk hCo
  clear hmm hcb hCo
  have y0 := (blk_cell HE2.out 0).trans rfl
  have y1 := (blk_cell HE2.out 1).trans rfl
  have y2 := (blk_cell HE2.out 2).trans rfl
  have y3 := (blk_cell HE2.out 3).trans rfl
  have y4 := (blk_cell HE2.out 4).trans rfl
  have y5 := (blk_cell HE2.out 5).trans rfl
  go_wp2_with fail
  refine (mayEntry_N s v k se rq B cb m ops v2 HM2.out HCO.out HCB.out).mono ?_
  rintro r3 v3 ⟨rfl, hb3⟩
  rw [HMAY.out]
  have HE3 := Aside0.mk ((hb3.block e (blk_lt HE2.out)).trans HE2.out)
  have HF3 := Aside0.mk ((hb3.block f (blk_lt HF2.out)).trans HF2.out)
  have HO3 := Aside0.mk (Kd.R_below HO2.out hb3)
  have HX3 := Aside0.mk (HX2.out.step hb3)
  clear hb3 y0 y1 y2 y3 y4 y5 HE2 HF2 HO2 HX2 HCO
  have y0 := (blk_cell HE3.out 0).trans rfl
  have y1 := (blk_cell HE3.out 1).trans rfl
  have y2 := (blk_cell HE3.out 2).trans rfl
  have y3 := (blk_cell HE3.out 3).trans rfl
  have y4 := (blk_cell HE3.out 4).trans rfl
  have y5 := (blk_cell HE3.out 5).trans rfl
  go_wp2_with (with_reducible refine stop_store rfl ?_)
  refine store_blk rfl rfl 24 _ _ rfl (q := f) (i := 0) (cur' := entArr s v k se rq (.slice B m cb)) [.int .i64 s, .int .i64 v, .int .i64 k, .int .i64 se, .int .i64 rq, .slice B m cb] rfl rfl rfl (by kernel_rfl) (by intro u hu; simp at hu; rcases hu with rfl | rfl | rfl | rfl | rfl | rfl <;> rfl) HF3.out (by simp) rfl ?_
  intro wz hz hgz
  have HZ := Aside0.mk hz
  have HOZ := Aside0.mk (R40_frm HO3.out HF3.out (by decide) (Frm.of_grown (S := fun k => k = f) hgz (fun k e => (Option.some.inj e).symm)))
  have HXZ := Aside0.mk ((HX3.out.then_ (Frm.of_grown (S := fun k => k = f) hgz (fun k e => (Option.some.inj e).symm)) (fun k hk hlt => by have := HFE.out.2.1; omega)))
  clear hz hgz y0 y1 y2 y3 y4 y5
  go_wp2
  refine bodyPost_ret (results_ct rfl _ _ f 24 (entArr s v k se rq (.slice B m cb)) (0, 0) _ rfl HZ.out Try.underlying24 rfl (by kernel_rfl)) rfl ?_
  exact ⟨B, cb, rfl, HOZ.out, HXZ.out.below (fun k hk _ => hk.elim) (Nat.le_refl _)⟩
set_option maxHeartbeats 8000000 in
set_option maxRecDepth 100000 in
theorem rd_matched (w0 w : World) (rb n c : Nat) (A : Option Addr) (l : List Int) (vn : Int) (hn : l.length = n) (hc : n ≤ c) (hok : bytesOk l = true) (hm : n ≤ 140737488355328) (hC : C8 w0 A n l) (hB : Below w0.heap.size w0 w) (hrb : w0.heap.size ≤ rb) (hg : w.heap[rb]? = some (.cells #[.slice A n c, .int .i64 0] 147 (0, 0))) (hr1 : readNum l 0 = (vn, (n : Int), 0)) :
    Calls Try.prog 84 #[.pointer (some ⟨rb, 0, none⟩), .int .i64 3] w fun e w' => e = .returned (.agg (recCells 3 0 0 0 0 0 none 0 0 vn 0 0 0 0 ⟨#[]⟩)) ∧ Frm w w' (fun k => k = rb) := by
  have hu28 := Try.underlying28
  have hu26 := Try.underlying26
  have hu24 := Try.underlying24
  have hu147 := Try.underlying147
  have HN := Aside0.mk hn
  have HC := Aside0.mk hC
  have HCC := Aside0.mk hc
  have HOK := Aside0.mk hok
  have HM := Aside0.mk hm
  have HG := Aside0.mk hg
  have HB := Aside0.mk hB
  have HRB := Aside0.mk hrb
  have HWW := Aside0.mk hB.size
  have HR1 := Aside0.mk hr1
  clear hn hc hok hm hC hB hg hrb hr1
  go_enter Try.func84, Try.ntmps84
  go_wp2_with fail
  obtain ⟨f, hf⟩ : ∃ f, f = w.heap.size := ⟨_, rfl⟩
  obtain ⟨g, hg⟩ : ∃ g, g = w.heap.size + 1 := ⟨_, rfl⟩
  obtain ⟨va, hva⟩ : ∃ va, va = w.alloc (.cells (recCells 0 0 0 0 0 0 none 0 0 0 0 0 0 0 ⟨#[]⟩) 28) := ⟨_, rfl⟩
  obtain ⟨v0, hv0⟩ : ∃ v0, v0 = va.alloc (.cells (recCells 3 0 0 0 0 0 none 0 0 0 0 0 0 0 ⟨#[]⟩) 28) := ⟨_, rfl⟩
  have hsz : va.heap.size = w.heap.size + 1 := by rw [hva]; simp
  rw [← hva, ← hv0, ← hg, ← hf]
  have HW1 := Aside0.mk (show Below w.heap.size w v0 by rw [hv0]; exact (below_step (w := w) (W := va) (by rw [hva]; exact below_alloc (Below.refl _ _) _) (below_alloc (Below.refl _ _) _)))
  have HF0 := Aside0.mk (show v0.heap[f]? = some (.cells (recCells 0 0 0 0 0 0 none 0 0 0 0 0 0 0 ⟨#[]⟩) 28 (0, 0)) by
    rw [hv0]
    refine (Below.heap_alloc _ _ _ (by omega)).trans ?_
    rw [hva, hf]; exact heap_alloc_new w _)
  have HT0 := Aside0.mk (show v0.heap[g]? = some (.cells (recCells 3 0 0 0 0 0 none 0 0 0 0 0 0 0 ⟨#[]⟩) 28 (0, 0)) by rw [hv0, hg, ← hsz]; exact heap_alloc_new va _)
  have HB0 := Aside0.mk (below_step HB.out HW1.out)
  have HX0 := Aside0.mk (Frm.of_below HW1.out (fun k => k = rb))
  have HG0 := Aside0.mk ((HW1.out.block rb (blk_lt HG.out)).trans HG.out)
  have HFT := Aside0.mk (show f ≠ rb ∧ g ≠ rb by have := blk_lt HG.out; omega)
  have HFG := Aside0.mk (show f ≠ g ∧ w.heap.size ≤ f ∧ w.heap.size ≤ g by omega)
  clear hf hg hva hv0 hsz HW1 HG HB
  refine (rd_number w0 v0 rb n c A l 0 vn (n : Int) HN.out HCC.out HOK.out HM.out HC.out HB0.out HG0.out HR1.out).mono ?_
  rintro e1 v1 ⟨rfl, hg1, hf1⟩
  have HG1 := Aside0.mk hg1
  have HB1 := Aside0.mk (below_frm HB0.out hf1 (N := w0.heap.size) (fun k hk => by rw [hk]; exact HRB.out) (Nat.le_refl _))
  have HX1 := Aside0.mk (HX0.out.then_ hf1 (fun k hk _ => hk))
  have HF1 := Aside0.mk (hf1.blk HF0.out (fun e => HFT.out.1 e))
  have HT1 := Aside0.mk (hf1.blk HT0.out (fun e => HFT.out.2 e))
  clear hg1 hf1 HG0 HB0 HX0 HF0 HT0
  have t7 := (blk_cell HT1.out 7).trans rfl
  have z7 := blk_frozen HT1.out 7
  go_wp2_with fail
  clear t7 z7
  obtain ⟨v2, hv2⟩ : ∃ v2, v2 = (v1.setCell ⟨g, 7, none⟩ (.int .i64 vn)) := ⟨_, rfl⟩
  rw [← hv2]
  have HT2 := Aside0.mk (show v2.heap[g]? = some (.cells (recCells 3 0 0 0 0 0 none 0 0 vn 0 0 0 0 ⟨#[]⟩) 28 (0, 0)) by
    rw [hv2]
    exact blk_put HT1.out 7 _ rfl)
  have HF2 := Aside0.mk (show v2.heap[f]? = some (.cells (recCells 0 0 0 0 0 0 none 0 0 0 0 0 0 0 ⟨#[]⟩) 28 (0, 0)) by rw [hv2]; exact (blk_far HF1.out (by simp only; exact HFG.out.1) _))
  have HG2 := Aside0.mk (show v2.heap[rb]? = some (.cells #[.slice A n c, .int .i64 (n : Int)] 147 (0, 0)) by rw [hv2]; exact (blk_far HG1.out (by simp only; exact fun e => HFT.out.2 e.symm) _))
  have HX2 := Aside0.mk (show Frm w v2 (fun k => k = rb) by rw [hv2]; exact (HX1.out.set_ (p := ⟨g, 7, none⟩) (.inr HFG.out.2.2) _))
  have HB2 := Aside0.mk (show Below w0.heap.size w0 v2 by rw [hv2]; exact (HB1.out.setCell (p := ⟨g, 7, none⟩) (by have := HFG.out.2.2; have := HWW.out; simp only; omega) _))
  clear hv2 HT1 HF1 HG1 HX1 HB1
  have r0 : v2.cell? ⟨rb, 0, none⟩ = some (.slice A n c) := blk_cell HG2.out 0
  have r1 : v2.cell? ⟨rb, 1, none⟩ = some (.int .i64 (n : Int)) := blk_cell HG2.out 1
  go_quiet (fail)
  obtain ⟨wq, hwq⟩ : ∃ wq, wq = v2.drewN nq := ⟨_, rfl⟩
  rw [← hwq]
  have hbq := (show Below v2.heap.size v2 wq from Drawn0.below ⟨⟨nq, hwq⟩⟩)
  have HTQ := Aside0.mk ((hbq.block g (blk_lt HT2.out)).trans HT2.out)
  have HFQ := Aside0.mk ((hbq.block f (blk_lt HF2.out)).trans HF2.out)
  have HXQ := Aside0.mk (HX2.out.step hbq)
  clear hbq hwq r0 r1 HT2 HF2 HX2 HG2 HB2
  have kp0 := (blk_cell HTQ.out 0).trans rfl
  have kp1 := (blk_cell HTQ.out 1).trans rfl
  have kp2 := (blk_cell HTQ.out 2).trans rfl
  have kp3 := (blk_cell HTQ.out 3).trans rfl
  have kp4 := (blk_cell HTQ.out 4).trans rfl
  have kp5 := (blk_cell HTQ.out 5).trans rfl
  have kp6 := (blk_cell HTQ.out 6).trans rfl
  have kp7 := (blk_cell HTQ.out 7).trans rfl
  have kp8 := (blk_cell HTQ.out 8).trans rfl
  have kp9 := (blk_cell HTQ.out 9).trans rfl
  have kp10 := (blk_cell HTQ.out 10).trans rfl
  have kp11 := (blk_cell HTQ.out 11).trans rfl
  have kp12 := (blk_cell HTQ.out 12).trans rfl
  go_wp2_with (with_reducible refine stop_store rfl ?_)
  refine store_blk rfl rfl 28 _ _ rfl (q := f) (i := 0) (cur' := recCells 3 0 0 0 0 0 none 0 0 vn 0 0 0 0 ⟨#[]⟩) (recCells 3 0 0 0 0 0 none 0 0 vn 0 0 0 0 ⟨#[]⟩).toList rfl rfl rfl (by kernel_rfl) (by intro u hu; simp at hu; (repeat' (rcases hu with rfl | hu)) <;> first | rfl | (subst hu; rfl)) HFQ.out (by simp) rfl ?_
  intro wz hgz hgr
  have HXZ := Aside0.mk (HXQ.out.then_ (Frm.of_grown (S := fun k => k = f) hgr (fun k e => (Option.some.inj e).symm)) (fun k hk hlt => by have := HFG.out.2.1; omega))
  clear hgr kp0 kp1 kp2 kp3 kp4 kp5 kp6 kp7 kp8 kp9 kp10 kp11 kp12
  go_wp2
  (try simp only [Exit.inBlock, Exit.then])
  refine bodyPost_ret (results_cell_row rfl _ _ f 28 (recCells 3 0 0 0 0 0 none 0 0 vn 0 0 0 0 ⟨#[]⟩) (0, 0) _ rfl hgz Try.underlying28 rfl (by kernel_rfl)) rfl ?_
  exact ⟨rfl, HXZ.out⟩
set_option maxHeartbeats 8000000 in
set_option maxRecDepth 100000 in
theorem rd_commit (w0 w : World) (rb n c : Nat) (A : Option Addr) (l : List Int) (st : Int) (hn : l.length = n) (hc : n ≤ c) (hok : bytesOk l = true) (hm : n ≤ 140737488355328) (hC : C8 w0 A n l) (hB : Below w0.heap.size w0 w) (hrb : w0.heap.size ≤ rb) (hg : w.heap[rb]? = some (.cells #[.slice A n c, .int .i64 0] 147 (0, 0))) (hr1 : readNum l 0 = (st, (n : Int), 0)) :
    Calls Try.prog 84 #[.pointer (some ⟨rb, 0, none⟩), .int .i64 6] w fun e w' => e = .returned (.agg (recCells 6 0 0 0 0 0 none 0 0 0 0 0 st 0 ⟨#[]⟩)) ∧ Frm w w' (fun k => k = rb) := by
  have hu28 := Try.underlying28
  have hu26 := Try.underlying26
  have hu24 := Try.underlying24
  have hu147 := Try.underlying147
  have HN := Aside0.mk hn
  have HC := Aside0.mk hC
  have HCC := Aside0.mk hc
  have HOK := Aside0.mk hok
  have HM := Aside0.mk hm
  have HG := Aside0.mk hg
  have HB := Aside0.mk hB
  have HRB := Aside0.mk hrb
  have HWW := Aside0.mk hB.size
  have HR1 := Aside0.mk hr1
  clear hn hc hok hm hC hB hg hrb hr1
  go_enter Try.func84, Try.ntmps84
  go_wp2_with fail
  obtain ⟨f, hf⟩ : ∃ f, f = w.heap.size := ⟨_, rfl⟩
  obtain ⟨g, hg⟩ : ∃ g, g = w.heap.size + 1 := ⟨_, rfl⟩
  obtain ⟨va, hva⟩ : ∃ va, va = w.alloc (.cells (recCells 0 0 0 0 0 0 none 0 0 0 0 0 0 0 ⟨#[]⟩) 28) := ⟨_, rfl⟩
  obtain ⟨v0, hv0⟩ : ∃ v0, v0 = va.alloc (.cells (recCells 6 0 0 0 0 0 none 0 0 0 0 0 0 0 ⟨#[]⟩) 28) := ⟨_, rfl⟩
  have hsz : va.heap.size = w.heap.size + 1 := by rw [hva]; simp
  rw [← hva, ← hv0, ← hg, ← hf]
  have HW1 := Aside0.mk (show Below w.heap.size w v0 by rw [hv0]; exact (below_step (w := w) (W := va) (by rw [hva]; exact below_alloc (Below.refl _ _) _) (below_alloc (Below.refl _ _) _)))
  have HF0 := Aside0.mk (show v0.heap[f]? = some (.cells (recCells 0 0 0 0 0 0 none 0 0 0 0 0 0 0 ⟨#[]⟩) 28 (0, 0)) by
    rw [hv0]
    refine (Below.heap_alloc _ _ _ (by omega)).trans ?_
    rw [hva, hf]; exact heap_alloc_new w _)
  have HT0 := Aside0.mk (show v0.heap[g]? = some (.cells (recCells 6 0 0 0 0 0 none 0 0 0 0 0 0 0 ⟨#[]⟩) 28 (0, 0)) by rw [hv0, hg, ← hsz]; exact heap_alloc_new va _)
  have HB0 := Aside0.mk (below_step HB.out HW1.out)
  have HX0 := Aside0.mk (Frm.of_below HW1.out (fun k => k = rb))
  have HG0 := Aside0.mk ((HW1.out.block rb (blk_lt HG.out)).trans HG.out)
  have HFT := Aside0.mk (show f ≠ rb ∧ g ≠ rb by have := blk_lt HG.out; omega)
  have HFG := Aside0.mk (show f ≠ g ∧ w.heap.size ≤ f ∧ w.heap.size ≤ g by omega)
  clear hf hg hva hv0 hsz HW1 HG HB
  refine (rd_number w0 v0 rb n c A l 0 st (n : Int) HN.out HCC.out HOK.out HM.out HC.out HB0.out HG0.out HR1.out).mono ?_
  rintro e1 v1 ⟨rfl, hg1, hf1⟩
  have HG1 := Aside0.mk hg1
  have HB1 := Aside0.mk (below_frm HB0.out hf1 (N := w0.heap.size) (fun k hk => by rw [hk]; exact HRB.out) (Nat.le_refl _))
  have HX1 := Aside0.mk (HX0.out.then_ hf1 (fun k hk _ => hk))
  have HF1 := Aside0.mk (hf1.blk HF0.out (fun e => HFT.out.1 e))
  have HT1 := Aside0.mk (hf1.blk HT0.out (fun e => HFT.out.2 e))
  clear hg1 hf1 HG0 HB0 HX0 HF0 HT0
  have t10 := (blk_cell HT1.out 10).trans rfl
  have z10 := blk_frozen HT1.out 10
  go_wp2_with fail
  clear t10 z10
  obtain ⟨v2, hv2⟩ : ∃ v2, v2 = (v1.setCell ⟨g, 10, none⟩ (.int .i64 st)) := ⟨_, rfl⟩
  rw [← hv2]
  have HT2 := Aside0.mk (show v2.heap[g]? = some (.cells (recCells 6 0 0 0 0 0 none 0 0 0 0 0 st 0 ⟨#[]⟩) 28 (0, 0)) by
    rw [hv2]
    exact blk_put HT1.out 10 _ rfl)
  have HF2 := Aside0.mk (show v2.heap[f]? = some (.cells (recCells 0 0 0 0 0 0 none 0 0 0 0 0 0 0 ⟨#[]⟩) 28 (0, 0)) by rw [hv2]; exact (blk_far HF1.out (by simp only; exact HFG.out.1) _))
  have HG2 := Aside0.mk (show v2.heap[rb]? = some (.cells #[.slice A n c, .int .i64 (n : Int)] 147 (0, 0)) by rw [hv2]; exact (blk_far HG1.out (by simp only; exact fun e => HFT.out.2 e.symm) _))
  have HX2 := Aside0.mk (show Frm w v2 (fun k => k = rb) by rw [hv2]; exact (HX1.out.set_ (p := ⟨g, 10, none⟩) (.inr HFG.out.2.2) _))
  have HB2 := Aside0.mk (show Below w0.heap.size w0 v2 by rw [hv2]; exact (HB1.out.setCell (p := ⟨g, 10, none⟩) (by have := HFG.out.2.2; have := HWW.out; simp only; omega) _))
  clear hv2 HT1 HF1 HG1 HX1 HB1
  have r0 : v2.cell? ⟨rb, 0, none⟩ = some (.slice A n c) := blk_cell HG2.out 0
  have r1 : v2.cell? ⟨rb, 1, none⟩ = some (.int .i64 (n : Int)) := blk_cell HG2.out 1
  go_quiet (fail)
  obtain ⟨wq, hwq⟩ : ∃ wq, wq = v2.drewN nq := ⟨_, rfl⟩
  rw [← hwq]
  have hbq := (show Below v2.heap.size v2 wq from Drawn0.below ⟨⟨nq, hwq⟩⟩)
  have HTQ := Aside0.mk ((hbq.block g (blk_lt HT2.out)).trans HT2.out)
  have HFQ := Aside0.mk ((hbq.block f (blk_lt HF2.out)).trans HF2.out)
  have HXQ := Aside0.mk (HX2.out.step hbq)
  clear hbq hwq r0 r1 HT2 HF2 HX2 HG2 HB2
  have kp0 := (blk_cell HTQ.out 0).trans rfl
  have kp1 := (blk_cell HTQ.out 1).trans rfl
  have kp2 := (blk_cell HTQ.out 2).trans rfl
  have kp3 := (blk_cell HTQ.out 3).trans rfl
  have kp4 := (blk_cell HTQ.out 4).trans rfl
  have kp5 := (blk_cell HTQ.out 5).trans rfl
  have kp6 := (blk_cell HTQ.out 6).trans rfl
  have kp7 := (blk_cell HTQ.out 7).trans rfl
  have kp8 := (blk_cell HTQ.out 8).trans rfl
  have kp9 := (blk_cell HTQ.out 9).trans rfl
  have kp10 := (blk_cell HTQ.out 10).trans rfl
  have kp11 := (blk_cell HTQ.out 11).trans rfl
  have kp12 := (blk_cell HTQ.out 12).trans rfl
  go_wp2_with (with_reducible refine stop_store rfl ?_)
  refine store_blk rfl rfl 28 _ _ rfl (q := f) (i := 0) (cur' := recCells 6 0 0 0 0 0 none 0 0 0 0 0 st 0 ⟨#[]⟩) (recCells 6 0 0 0 0 0 none 0 0 0 0 0 st 0 ⟨#[]⟩).toList rfl rfl rfl (by kernel_rfl) (by intro u hu; simp at hu; (repeat' (rcases hu with rfl | hu)) <;> first | rfl | (subst hu; rfl)) HFQ.out (by simp) rfl ?_
  intro wz hgz hgr
  have HXZ := Aside0.mk (HXQ.out.then_ (Frm.of_grown (S := fun k => k = f) hgr (fun k e => (Option.some.inj e).symm)) (fun k hk hlt => by have := HFG.out.2.1; omega))
  clear hgr kp0 kp1 kp2 kp3 kp4 kp5 kp6 kp7 kp8 kp9 kp10 kp11 kp12
  go_wp2
  (try simp only [Exit.inBlock, Exit.then])
  refine bodyPost_ret (results_cell_row rfl _ _ f 28 (recCells 6 0 0 0 0 0 none 0 0 0 0 0 st 0 ⟨#[]⟩) (0, 0) _ rfl hgz Try.underlying28 rfl (by kernel_rfl)) rfl ?_
  exact ⟨rfl, HXZ.out⟩
set_option maxHeartbeats 8000000 in
set_option maxRecDepth 100000 in
theorem rd_save (w0 w : World) (rb n c : Nat) (A : Option Addr) (l : List Int) (st of q1 q2 : Int) (bx : List Int) (x : ByteArray) (hn : l.length = n) (hc : n ≤ c) (hok : bytesOk l = true) (hm : n ≤ 140737488355328) (hC : C8 w0 A n l) (hB : Below w0.heap.size w0 w) (hrb : w0.heap.size ≤ rb) (hg : w.heap[rb]? = some (.cells #[.slice A n c, .int .i64 0] 147 (0, 0))) (hr1 : readNum l 0 = (st, q1, 0)) (hr2 : readNum l q1 = (of, q2, 0)) (hr3 : readText l q2 = (bx, (n : Int), 0)) (hx : strOfNums bx = x) :
    Calls Try.prog 84 #[.pointer (some ⟨rb, 0, none⟩), .int .i64 5] w fun e w' => e = .returned (.agg (recCells 5 0 0 0 0 0 none 0 0 0 0 0 st of x)) ∧ Frm w w' (fun k => k = rb) := by
  have hu28 := Try.underlying28
  have hu26 := Try.underlying26
  have hu24 := Try.underlying24
  have hu147 := Try.underlying147
  have HN := Aside0.mk hn
  have HC := Aside0.mk hC
  have HCC := Aside0.mk hc
  have HOK := Aside0.mk hok
  have HM := Aside0.mk hm
  have HG := Aside0.mk hg
  have HB := Aside0.mk hB
  have HRB := Aside0.mk hrb
  have HWW := Aside0.mk hB.size
  have HR1 := Aside0.mk hr1
  have HR2 := Aside0.mk hr2
  have HR3 := Aside0.mk hr3
  have HX := Aside0.mk hx
  clear hn hc hok hm hC hB hg hrb hr1 hr2 hr3 hx
  go_enter Try.func84, Try.ntmps84
  go_wp2_with fail
  obtain ⟨f, hf⟩ : ∃ f, f = w.heap.size := ⟨_, rfl⟩
  obtain ⟨g, hg⟩ : ∃ g, g = w.heap.size + 1 := ⟨_, rfl⟩
  obtain ⟨va, hva⟩ : ∃ va, va = w.alloc (.cells (recCells 0 0 0 0 0 0 none 0 0 0 0 0 0 0 ⟨#[]⟩) 28) := ⟨_, rfl⟩
  obtain ⟨v0, hv0⟩ : ∃ v0, v0 = va.alloc (.cells (recCells 5 0 0 0 0 0 none 0 0 0 0 0 0 0 ⟨#[]⟩) 28) := ⟨_, rfl⟩
  have hsz : va.heap.size = w.heap.size + 1 := by rw [hva]; simp
  rw [← hva, ← hv0, ← hg, ← hf]
  have HW1 := Aside0.mk (show Below w.heap.size w v0 by rw [hv0]; exact (below_step (w := w) (W := va) (by rw [hva]; exact below_alloc (Below.refl _ _) _) (below_alloc (Below.refl _ _) _)))
  have HF0 := Aside0.mk (show v0.heap[f]? = some (.cells (recCells 0 0 0 0 0 0 none 0 0 0 0 0 0 0 ⟨#[]⟩) 28 (0, 0)) by
    rw [hv0]
    refine (Below.heap_alloc _ _ _ (by omega)).trans ?_
    rw [hva, hf]; exact heap_alloc_new w _)
  have HT0 := Aside0.mk (show v0.heap[g]? = some (.cells (recCells 5 0 0 0 0 0 none 0 0 0 0 0 0 0 ⟨#[]⟩) 28 (0, 0)) by rw [hv0, hg, ← hsz]; exact heap_alloc_new va _)
  have HB0 := Aside0.mk (below_step HB.out HW1.out)
  have HX0 := Aside0.mk (Frm.of_below HW1.out (fun k => k = rb))
  have HG0 := Aside0.mk ((HW1.out.block rb (blk_lt HG.out)).trans HG.out)
  have HFT := Aside0.mk (show f ≠ rb ∧ g ≠ rb by have := blk_lt HG.out; omega)
  have HFG := Aside0.mk (show f ≠ g ∧ w.heap.size ≤ f ∧ w.heap.size ≤ g by omega)
  clear hf hg hva hv0 hsz HW1 HG HB
  refine (rd_number w0 v0 rb n c A l 0 st q1 HN.out HCC.out HOK.out HM.out HC.out HB0.out HG0.out HR1.out).mono ?_
  rintro e1 v1 ⟨rfl, hg1, hf1⟩
  have HG1 := Aside0.mk hg1
  have HB1 := Aside0.mk (below_frm HB0.out hf1 (N := w0.heap.size) (fun k hk => by rw [hk]; exact HRB.out) (Nat.le_refl _))
  have HX1 := Aside0.mk (HX0.out.then_ hf1 (fun k hk _ => hk))
  have HF1 := Aside0.mk (hf1.blk HF0.out (fun e => HFT.out.1 e))
  have HT1 := Aside0.mk (hf1.blk HT0.out (fun e => HFT.out.2 e))
  clear hg1 hf1 HG0 HB0 HX0 HF0 HT0
  go_wp2_with fail
  refine (rd_number w0 v1 rb n c A l q1 of q2 HN.out HCC.out HOK.out HM.out HC.out HB1.out HG1.out HR2.out).mono ?_
  rintro e2 v2 ⟨rfl, hg2, hf2⟩
  have HG2 := Aside0.mk hg2
  have HB2 := Aside0.mk (below_frm HB1.out hf2 (N := w0.heap.size) (fun k hk => by rw [hk]; exact HRB.out) (Nat.le_refl _))
  have HX2 := Aside0.mk (HX1.out.then_ hf2 (fun k hk _ => hk))
  have HF2 := Aside0.mk (hf2.blk HF1.out (fun e => HFT.out.1 e))
  have HT2 := Aside0.mk (hf2.blk HT1.out (fun e => HFT.out.2 e))
  clear hg2 hf2 HG1 HB1 HX1 HF1 HT1
  have t10 := (blk_cell HT2.out 10).trans rfl
  have z10 := blk_frozen HT2.out 10
  have t11 := (blk_cell HT2.out 11).trans rfl
  have z11 := blk_frozen HT2.out 11
  go_wp2_with fail
  clear t10 z10 t11 z11
  obtain ⟨v3, hv3⟩ : ∃ v3, v3 = ((v2.setCell ⟨g, 10, none⟩ (.int .i64 st)).setCell ⟨g, 11, none⟩ (.int .i64 of)) := ⟨_, rfl⟩
  rw [← hv3]
  have HT3 := Aside0.mk (show v3.heap[g]? = some (.cells (recCells 5 0 0 0 0 0 none 0 0 0 0 0 st of ⟨#[]⟩) 28 (0, 0)) by
    rw [hv3]
    refine blk_put (cs := recCells 5 0 0 0 0 0 none 0 0 0 0 0 st 0 ⟨#[]⟩) ?_ 11 _ rfl
    exact blk_put HT2.out 10 _ rfl)
  have HF3 := Aside0.mk (show v3.heap[f]? = some (.cells (recCells 0 0 0 0 0 0 none 0 0 0 0 0 0 0 ⟨#[]⟩) 28 (0, 0)) by rw [hv3]; exact (blk_far (blk_far HF2.out (by simp only; exact HFG.out.1) _) (by simp only; exact HFG.out.1) _))
  have HG3 := Aside0.mk (show v3.heap[rb]? = some (.cells #[.slice A n c, .int .i64 q2] 147 (0, 0)) by rw [hv3]; exact (blk_far (blk_far HG2.out (by simp only; exact fun e => HFT.out.2 e.symm) _) (by simp only; exact fun e => HFT.out.2 e.symm) _))
  have HX3 := Aside0.mk (show Frm w v3 (fun k => k = rb) by rw [hv3]; exact ((HX2.out.set_ (p := ⟨g, 10, none⟩) (.inr HFG.out.2.2) _).set_ (p := ⟨g, 11, none⟩) (.inr HFG.out.2.2) _))
  have HB3 := Aside0.mk (show Below w0.heap.size w0 v3 by rw [hv3]; exact ((HB2.out.setCell (p := ⟨g, 10, none⟩) (by have := HFG.out.2.2; have := HWW.out; simp only; omega) _).setCell (p := ⟨g, 11, none⟩) (by have := HFG.out.2.2; have := HWW.out; simp only; omega) _))
  clear hv3 HT2 HF2 HG2 HX2 HB2
  refine (rd_text w0 v3 rb n c A l q2 (n : Int) bx HN.out HCC.out HOK.out HM.out HC.out HB3.out HG3.out HR3.out).mono ?_
  rintro e4 v4 ⟨rfl, hg4, hf4⟩
  have HG4 := Aside0.mk hg4
  have HB4 := Aside0.mk (below_frm HB3.out hf4 (N := w0.heap.size) (fun k hk => by rw [hk]; exact HRB.out) (Nat.le_refl _))
  have HX4 := Aside0.mk (HX3.out.then_ hf4 (fun k hk _ => hk))
  have HF4 := Aside0.mk (hf4.blk HF3.out (fun e => HFT.out.1 e))
  have HT4 := Aside0.mk (hf4.blk HT3.out (fun e => HFT.out.2 e))
  clear hg4 hf4 HG3 HB3 HX3 HF3 HT3
  rw [HX.out]
  have t12 := (blk_cell HT4.out 12).trans rfl
  have z12 := blk_frozen HT4.out 12
  go_wp2_with fail
  clear t12 z12
  obtain ⟨v5, hv5⟩ : ∃ v5, v5 = (v4.setCell ⟨g, 12, none⟩ (.string x)) := ⟨_, rfl⟩
  rw [← hv5]
  have HT5 := Aside0.mk (show v5.heap[g]? = some (.cells (recCells 5 0 0 0 0 0 none 0 0 0 0 0 st of x) 28 (0, 0)) by
    rw [hv5]
    exact blk_put HT4.out 12 _ rfl)
  have HF5 := Aside0.mk (show v5.heap[f]? = some (.cells (recCells 0 0 0 0 0 0 none 0 0 0 0 0 0 0 ⟨#[]⟩) 28 (0, 0)) by rw [hv5]; exact (blk_far HF4.out (by simp only; exact HFG.out.1) _))
  have HG5 := Aside0.mk (show v5.heap[rb]? = some (.cells #[.slice A n c, .int .i64 (n : Int)] 147 (0, 0)) by rw [hv5]; exact (blk_far HG4.out (by simp only; exact fun e => HFT.out.2 e.symm) _))
  have HX5 := Aside0.mk (show Frm w v5 (fun k => k = rb) by rw [hv5]; exact (HX4.out.set_ (p := ⟨g, 12, none⟩) (.inr HFG.out.2.2) _))
  have HB5 := Aside0.mk (show Below w0.heap.size w0 v5 by rw [hv5]; exact (HB4.out.setCell (p := ⟨g, 12, none⟩) (by have := HFG.out.2.2; have := HWW.out; simp only; omega) _))
  clear hv5 HT4 HF4 HG4 HX4 HB4
  have r0 : v5.cell? ⟨rb, 0, none⟩ = some (.slice A n c) := blk_cell HG5.out 0
  have r1 : v5.cell? ⟨rb, 1, none⟩ = some (.int .i64 (n : Int)) := blk_cell HG5.out 1
  go_quiet (fail)
  obtain ⟨wq, hwq⟩ : ∃ wq, wq = v5.drewN nq := ⟨_, rfl⟩
  rw [← hwq]
  have hbq := (show Below v5.heap.size v5 wq from Drawn0.below ⟨⟨nq, hwq⟩⟩)
  have HTQ := Aside0.mk ((hbq.block g (blk_lt HT5.out)).trans HT5.out)
  have HFQ := Aside0.mk ((hbq.block f (blk_lt HF5.out)).trans HF5.out)
  have HXQ := Aside0.mk (HX5.out.step hbq)
  clear hbq hwq r0 r1 HT5 HF5 HX5 HG5 HB5
  have kp0 := (blk_cell HTQ.out 0).trans rfl
  have kp1 := (blk_cell HTQ.out 1).trans rfl
  have kp2 := (blk_cell HTQ.out 2).trans rfl
  have kp3 := (blk_cell HTQ.out 3).trans rfl
  have kp4 := (blk_cell HTQ.out 4).trans rfl
  have kp5 := (blk_cell HTQ.out 5).trans rfl
  have kp6 := (blk_cell HTQ.out 6).trans rfl
  have kp7 := (blk_cell HTQ.out 7).trans rfl
  have kp8 := (blk_cell HTQ.out 8).trans rfl
  have kp9 := (blk_cell HTQ.out 9).trans rfl
  have kp10 := (blk_cell HTQ.out 10).trans rfl
  have kp11 := (blk_cell HTQ.out 11).trans rfl
  have kp12 := (blk_cell HTQ.out 12).trans rfl
  go_wp2_with (with_reducible refine stop_store rfl ?_)
  refine store_blk rfl rfl 28 _ _ rfl (q := f) (i := 0) (cur' := recCells 5 0 0 0 0 0 none 0 0 0 0 0 st of x) (recCells 5 0 0 0 0 0 none 0 0 0 0 0 st of x).toList rfl rfl rfl (by kernel_rfl) (by intro u hu; simp at hu; (repeat' (rcases hu with rfl | hu)) <;> first | rfl | (subst hu; rfl)) HFQ.out (by simp) rfl ?_
  intro wz hgz hgr
  have HXZ := Aside0.mk (HXQ.out.then_ (Frm.of_grown (S := fun k => k = f) hgr (fun k e => (Option.some.inj e).symm)) (fun k hk hlt => by have := HFG.out.2.1; omega))
  clear hgr kp0 kp1 kp2 kp3 kp4 kp5 kp6 kp7 kp8 kp9 kp10 kp11 kp12
  go_wp2
  (try simp only [Exit.inBlock, Exit.then])
  refine bodyPost_ret (results_cell_row rfl _ _ f 28 (recCells 5 0 0 0 0 0 none 0 0 0 0 0 st of x) (0, 0) _ rfl hgz Try.underlying28 rfl (by kernel_rfl)) rfl ?_
  exact ⟨rfl, HXZ.out⟩
set_option maxHeartbeats 8000000 in
set_option maxRecDepth 100000 in
theorem rd_reset (w0 w : World) (rb n c : Nat) (A : Option Addr) (l : List Int) (vn st of q0 q1 q2 : Int) (bx : List Int) (x : ByteArray) (hn : l.length = n) (hc : n ≤ c) (hok : bytesOk l = true) (hm : n ≤ 140737488355328) (hC : C8 w0 A n l) (hB : Below w0.heap.size w0 w) (hrb : w0.heap.size ≤ rb) (hg : w.heap[rb]? = some (.cells #[.slice A n c, .int .i64 0] 147 (0, 0))) (hr0 : readNum l 0 = (vn, q0, 0)) (hr1 : readNum l q0 = (st, q1, 0)) (hr2 : readNum l q1 = (of, q2, 0)) (hr3 : readText l q2 = (bx, (n : Int), 0)) (hx : strOfNums bx = x) :
    Calls Try.prog 84 #[.pointer (some ⟨rb, 0, none⟩), .int .i64 4] w fun e w' => e = .returned (.agg (recCells 4 0 0 0 0 0 none 0 0 vn 0 0 st of x)) ∧ Frm w w' (fun k => k = rb) := by
  have hu28 := Try.underlying28
  have hu26 := Try.underlying26
  have hu24 := Try.underlying24
  have hu147 := Try.underlying147
  have HN := Aside0.mk hn
  have HC := Aside0.mk hC
  have HCC := Aside0.mk hc
  have HOK := Aside0.mk hok
  have HM := Aside0.mk hm
  have HG := Aside0.mk hg
  have HB := Aside0.mk hB
  have HRB := Aside0.mk hrb
  have HWW := Aside0.mk hB.size
  have HR0 := Aside0.mk hr0
  have HR1 := Aside0.mk hr1
  have HR2 := Aside0.mk hr2
  have HR3 := Aside0.mk hr3
  have HX := Aside0.mk hx
  clear hn hc hok hm hC hB hg hrb hr0 hr1 hr2 hr3 hx
  go_enter Try.func84, Try.ntmps84
  go_wp2_with fail
  obtain ⟨f, hf⟩ : ∃ f, f = w.heap.size := ⟨_, rfl⟩
  obtain ⟨g, hg⟩ : ∃ g, g = w.heap.size + 1 := ⟨_, rfl⟩
  obtain ⟨va, hva⟩ : ∃ va, va = w.alloc (.cells (recCells 0 0 0 0 0 0 none 0 0 0 0 0 0 0 ⟨#[]⟩) 28) := ⟨_, rfl⟩
  obtain ⟨v0, hv0⟩ : ∃ v0, v0 = va.alloc (.cells (recCells 4 0 0 0 0 0 none 0 0 0 0 0 0 0 ⟨#[]⟩) 28) := ⟨_, rfl⟩
  have hsz : va.heap.size = w.heap.size + 1 := by rw [hva]; simp
  rw [← hva, ← hv0, ← hg, ← hf]
  have HW1 := Aside0.mk (show Below w.heap.size w v0 by rw [hv0]; exact (below_step (w := w) (W := va) (by rw [hva]; exact below_alloc (Below.refl _ _) _) (below_alloc (Below.refl _ _) _)))
  have HF0 := Aside0.mk (show v0.heap[f]? = some (.cells (recCells 0 0 0 0 0 0 none 0 0 0 0 0 0 0 ⟨#[]⟩) 28 (0, 0)) by
    rw [hv0]
    refine (Below.heap_alloc _ _ _ (by omega)).trans ?_
    rw [hva, hf]; exact heap_alloc_new w _)
  have HT0 := Aside0.mk (show v0.heap[g]? = some (.cells (recCells 4 0 0 0 0 0 none 0 0 0 0 0 0 0 ⟨#[]⟩) 28 (0, 0)) by rw [hv0, hg, ← hsz]; exact heap_alloc_new va _)
  have HB0 := Aside0.mk (below_step HB.out HW1.out)
  have HX0 := Aside0.mk (Frm.of_below HW1.out (fun k => k = rb))
  have HG0 := Aside0.mk ((HW1.out.block rb (blk_lt HG.out)).trans HG.out)
  have HFT := Aside0.mk (show f ≠ rb ∧ g ≠ rb by have := blk_lt HG.out; omega)
  have HFG := Aside0.mk (show f ≠ g ∧ w.heap.size ≤ f ∧ w.heap.size ≤ g by omega)
  clear hf hg hva hv0 hsz HW1 HG HB
  refine (rd_number w0 v0 rb n c A l 0 vn q0 HN.out HCC.out HOK.out HM.out HC.out HB0.out HG0.out HR0.out).mono ?_
  rintro e1 v1 ⟨rfl, hg1, hf1⟩
  have HG1 := Aside0.mk hg1
  have HB1 := Aside0.mk (below_frm HB0.out hf1 (N := w0.heap.size) (fun k hk => by rw [hk]; exact HRB.out) (Nat.le_refl _))
  have HX1 := Aside0.mk (HX0.out.then_ hf1 (fun k hk _ => hk))
  have HF1 := Aside0.mk (hf1.blk HF0.out (fun e => HFT.out.1 e))
  have HT1 := Aside0.mk (hf1.blk HT0.out (fun e => HFT.out.2 e))
  clear hg1 hf1 HG0 HB0 HX0 HF0 HT0
  have t7 := (blk_cell HT1.out 7).trans rfl
  have z7 := blk_frozen HT1.out 7
  go_wp2_with fail
  clear t7 z7
  obtain ⟨v2, hv2⟩ : ∃ v2, v2 = (v1.setCell ⟨g, 7, none⟩ (.int .i64 vn)) := ⟨_, rfl⟩
  rw [← hv2]
  have HT2 := Aside0.mk (show v2.heap[g]? = some (.cells (recCells 4 0 0 0 0 0 none 0 0 vn 0 0 0 0 ⟨#[]⟩) 28 (0, 0)) by
    rw [hv2]
    exact blk_put HT1.out 7 _ rfl)
  have HF2 := Aside0.mk (show v2.heap[f]? = some (.cells (recCells 0 0 0 0 0 0 none 0 0 0 0 0 0 0 ⟨#[]⟩) 28 (0, 0)) by rw [hv2]; exact (blk_far HF1.out (by simp only; exact HFG.out.1) _))
  have HG2 := Aside0.mk (show v2.heap[rb]? = some (.cells #[.slice A n c, .int .i64 q0] 147 (0, 0)) by rw [hv2]; exact (blk_far HG1.out (by simp only; exact fun e => HFT.out.2 e.symm) _))
  have HX2 := Aside0.mk (show Frm w v2 (fun k => k = rb) by rw [hv2]; exact (HX1.out.set_ (p := ⟨g, 7, none⟩) (.inr HFG.out.2.2) _))
  have HB2 := Aside0.mk (show Below w0.heap.size w0 v2 by rw [hv2]; exact (HB1.out.setCell (p := ⟨g, 7, none⟩) (by have := HFG.out.2.2; have := HWW.out; simp only; omega) _))
  clear hv2 HT1 HF1 HG1 HX1 HB1
  refine (rd_number w0 v2 rb n c A l q0 st q1 HN.out HCC.out HOK.out HM.out HC.out HB2.out HG2.out HR1.out).mono ?_
  rintro e3 v3 ⟨rfl, hg3, hf3⟩
  have HG3 := Aside0.mk hg3
  have HB3 := Aside0.mk (below_frm HB2.out hf3 (N := w0.heap.size) (fun k hk => by rw [hk]; exact HRB.out) (Nat.le_refl _))
  have HX3 := Aside0.mk (HX2.out.then_ hf3 (fun k hk _ => hk))
  have HF3 := Aside0.mk (hf3.blk HF2.out (fun e => HFT.out.1 e))
  have HT3 := Aside0.mk (hf3.blk HT2.out (fun e => HFT.out.2 e))
  clear hg3 hf3 HG2 HB2 HX2 HF2 HT2
  go_wp2_with fail
  refine (rd_number w0 v3 rb n c A l q1 of q2 HN.out HCC.out HOK.out HM.out HC.out HB3.out HG3.out HR2.out).mono ?_
  rintro e4 v4 ⟨rfl, hg4, hf4⟩
  have HG4 := Aside0.mk hg4
  have HB4 := Aside0.mk (below_frm HB3.out hf4 (N := w0.heap.size) (fun k hk => by rw [hk]; exact HRB.out) (Nat.le_refl _))
  have HX4 := Aside0.mk (HX3.out.then_ hf4 (fun k hk _ => hk))
  have HF4 := Aside0.mk (hf4.blk HF3.out (fun e => HFT.out.1 e))
  have HT4 := Aside0.mk (hf4.blk HT3.out (fun e => HFT.out.2 e))
  clear hg4 hf4 HG3 HB3 HX3 HF3 HT3
  have t10 := (blk_cell HT4.out 10).trans rfl
  have z10 := blk_frozen HT4.out 10
  have t11 := (blk_cell HT4.out 11).trans rfl
  have z11 := blk_frozen HT4.out 11
  go_wp2_with fail
  clear t10 z10 t11 z11
  obtain ⟨v5, hv5⟩ : ∃ v5, v5 = ((v4.setCell ⟨g, 10, none⟩ (.int .i64 st)).setCell ⟨g, 11, none⟩ (.int .i64 of)) := ⟨_, rfl⟩
  rw [← hv5]
  have HT5 := Aside0.mk (show v5.heap[g]? = some (.cells (recCells 4 0 0 0 0 0 none 0 0 vn 0 0 st of ⟨#[]⟩) 28 (0, 0)) by
    rw [hv5]
    refine blk_put (cs := recCells 4 0 0 0 0 0 none 0 0 vn 0 0 st 0 ⟨#[]⟩) ?_ 11 _ rfl
    exact blk_put HT4.out 10 _ rfl)
  have HF5 := Aside0.mk (show v5.heap[f]? = some (.cells (recCells 0 0 0 0 0 0 none 0 0 0 0 0 0 0 ⟨#[]⟩) 28 (0, 0)) by rw [hv5]; exact (blk_far (blk_far HF4.out (by simp only; exact HFG.out.1) _) (by simp only; exact HFG.out.1) _))
  have HG5 := Aside0.mk (show v5.heap[rb]? = some (.cells #[.slice A n c, .int .i64 q2] 147 (0, 0)) by rw [hv5]; exact (blk_far (blk_far HG4.out (by simp only; exact fun e => HFT.out.2 e.symm) _) (by simp only; exact fun e => HFT.out.2 e.symm) _))
  have HX5 := Aside0.mk (show Frm w v5 (fun k => k = rb) by rw [hv5]; exact ((HX4.out.set_ (p := ⟨g, 10, none⟩) (.inr HFG.out.2.2) _).set_ (p := ⟨g, 11, none⟩) (.inr HFG.out.2.2) _))
  have HB5 := Aside0.mk (show Below w0.heap.size w0 v5 by rw [hv5]; exact ((HB4.out.setCell (p := ⟨g, 10, none⟩) (by have := HFG.out.2.2; have := HWW.out; simp only; omega) _).setCell (p := ⟨g, 11, none⟩) (by have := HFG.out.2.2; have := HWW.out; simp only; omega) _))
  clear hv5 HT4 HF4 HG4 HX4 HB4
  refine (rd_text w0 v5 rb n c A l q2 (n : Int) bx HN.out HCC.out HOK.out HM.out HC.out HB5.out HG5.out HR3.out).mono ?_
  rintro e6 v6 ⟨rfl, hg6, hf6⟩
  have HG6 := Aside0.mk hg6
  have HB6 := Aside0.mk (below_frm HB5.out hf6 (N := w0.heap.size) (fun k hk => by rw [hk]; exact HRB.out) (Nat.le_refl _))
  have HX6 := Aside0.mk (HX5.out.then_ hf6 (fun k hk _ => hk))
  have HF6 := Aside0.mk (hf6.blk HF5.out (fun e => HFT.out.1 e))
  have HT6 := Aside0.mk (hf6.blk HT5.out (fun e => HFT.out.2 e))
  clear hg6 hf6 HG5 HB5 HX5 HF5 HT5
  rw [HX.out]
  have t12 := (blk_cell HT6.out 12).trans rfl
  have z12 := blk_frozen HT6.out 12
  go_wp2_with fail
  clear t12 z12
  obtain ⟨v7, hv7⟩ : ∃ v7, v7 = (v6.setCell ⟨g, 12, none⟩ (.string x)) := ⟨_, rfl⟩
  rw [← hv7]
  have HT7 := Aside0.mk (show v7.heap[g]? = some (.cells (recCells 4 0 0 0 0 0 none 0 0 vn 0 0 st of x) 28 (0, 0)) by
    rw [hv7]
    exact blk_put HT6.out 12 _ rfl)
  have HF7 := Aside0.mk (show v7.heap[f]? = some (.cells (recCells 0 0 0 0 0 0 none 0 0 0 0 0 0 0 ⟨#[]⟩) 28 (0, 0)) by rw [hv7]; exact (blk_far HF6.out (by simp only; exact HFG.out.1) _))
  have HG7 := Aside0.mk (show v7.heap[rb]? = some (.cells #[.slice A n c, .int .i64 (n : Int)] 147 (0, 0)) by rw [hv7]; exact (blk_far HG6.out (by simp only; exact fun e => HFT.out.2 e.symm) _))
  have HX7 := Aside0.mk (show Frm w v7 (fun k => k = rb) by rw [hv7]; exact (HX6.out.set_ (p := ⟨g, 12, none⟩) (.inr HFG.out.2.2) _))
  have HB7 := Aside0.mk (show Below w0.heap.size w0 v7 by rw [hv7]; exact (HB6.out.setCell (p := ⟨g, 12, none⟩) (by have := HFG.out.2.2; have := HWW.out; simp only; omega) _))
  clear hv7 HT6 HF6 HG6 HX6 HB6
  have r0 : v7.cell? ⟨rb, 0, none⟩ = some (.slice A n c) := blk_cell HG7.out 0
  have r1 : v7.cell? ⟨rb, 1, none⟩ = some (.int .i64 (n : Int)) := blk_cell HG7.out 1
  go_quiet (fail)
  obtain ⟨wq, hwq⟩ : ∃ wq, wq = v7.drewN nq := ⟨_, rfl⟩
  rw [← hwq]
  have hbq := (show Below v7.heap.size v7 wq from Drawn0.below ⟨⟨nq, hwq⟩⟩)
  have HTQ := Aside0.mk ((hbq.block g (blk_lt HT7.out)).trans HT7.out)
  have HFQ := Aside0.mk ((hbq.block f (blk_lt HF7.out)).trans HF7.out)
  have HXQ := Aside0.mk (HX7.out.step hbq)
  clear hbq hwq r0 r1 HT7 HF7 HX7 HG7 HB7
  have kp0 := (blk_cell HTQ.out 0).trans rfl
  have kp1 := (blk_cell HTQ.out 1).trans rfl
  have kp2 := (blk_cell HTQ.out 2).trans rfl
  have kp3 := (blk_cell HTQ.out 3).trans rfl
  have kp4 := (blk_cell HTQ.out 4).trans rfl
  have kp5 := (blk_cell HTQ.out 5).trans rfl
  have kp6 := (blk_cell HTQ.out 6).trans rfl
  have kp7 := (blk_cell HTQ.out 7).trans rfl
  have kp8 := (blk_cell HTQ.out 8).trans rfl
  have kp9 := (blk_cell HTQ.out 9).trans rfl
  have kp10 := (blk_cell HTQ.out 10).trans rfl
  have kp11 := (blk_cell HTQ.out 11).trans rfl
  have kp12 := (blk_cell HTQ.out 12).trans rfl
  go_wp2_with (with_reducible refine stop_store rfl ?_)
  refine store_blk rfl rfl 28 _ _ rfl (q := f) (i := 0) (cur' := recCells 4 0 0 0 0 0 none 0 0 vn 0 0 st of x) (recCells 4 0 0 0 0 0 none 0 0 vn 0 0 st of x).toList rfl rfl rfl (by kernel_rfl) (by intro u hu; simp at hu; (repeat' (rcases hu with rfl | hu)) <;> first | rfl | (subst hu; rfl)) HFQ.out (by simp) rfl ?_
  intro wz hgz hgr
  have HXZ := Aside0.mk (HXQ.out.then_ (Frm.of_grown (S := fun k => k = f) hgr (fun k e => (Option.some.inj e).symm)) (fun k hk hlt => by have := HFG.out.2.1; omega))
  clear hgr kp0 kp1 kp2 kp3 kp4 kp5 kp6 kp7 kp8 kp9 kp10 kp11 kp12
  go_wp2
  (try simp only [Exit.inBlock, Exit.then])
  refine bodyPost_ret (results_cell_row rfl _ _ f 28 (recCells 4 0 0 0 0 0 none 0 0 vn 0 0 st of x) (0, 0) _ rfl hgz Try.underlying28 rfl (by kernel_rfl)) rfl ?_
  exact ⟨rfl, HXZ.out⟩
end Go.Proofs.Ytdbniihjkiecbaa.PW
namespace Go.Proofs.Ytdbniihjkiecbaa.PW
open Go.RowKit Go.Proofs.YtdbniihjkiecbaaW.PrintWords Go.Proofs.YtdbniihjkiecbaaW.PrintLast Go.Proofs.YtdbniihjkiecbaaW.PrintMore
set_option linter.unusedVariables false
set_option linter.unusedSimpArgs false

set_option maxHeartbeats 8000000 in
set_option maxRecDepth 100000 in
theorem rd_entry (w0 w : World) (rb n c : Nat) (A : Option Addr) (l : List Int) (s v k se rq : Int) (ops : List S40) (m : Nat) (hm2 : ops.length = m) (hm1 : m ≤ 1000000) (hn : l.length = n) (hc : n ≤ c) (hok : bytesOk l = true) (hm : n ≤ 262144) (hC : C8 w0 A n l) (hB : Below w0.heap.size w0 w) (hrb : w0.heap.size ≤ rb) (hg : w.heap[rb]? = some (.cells #[.slice A n c, .int .i64 0] 147 (0, 0))) (hr : EntAt l 0 s v k se rq ops (n : Int)) (hmay : entOk s v k se rq ops = true) :
    Calls Try.prog 84 #[.pointer (some ⟨rb, 0, none⟩), .int .i64 1] w fun e w' => ∃ B cb, e = .returned (.agg (recCells 1 s v k se rq B m cb 0 0 0 0 0 ⟨#[]⟩)) ∧ R40 w' w.heap.size (.slice B m cb) ops ∧ Frm w w' (fun k => k = rb) := by
  have hu28 := Try.underlying28
  have hu26 := Try.underlying26
  have hu24 := Try.underlying24
  have hu147 := Try.underlying147
  have HN := Aside0.mk hn
  have HC := Aside0.mk hC
  have HCC := Aside0.mk hc
  have HOK := Aside0.mk hok
  have HM := Aside0.mk hm
  have HG := Aside0.mk hg
  have HB := Aside0.mk hB
  have HRB := Aside0.mk hrb
  have HWW := Aside0.mk hB.size
  have HR := Aside0.mk hr
  have HMAY := Aside0.mk hmay
  have HM2 := Aside0.mk hm2
  have HM1 := Aside0.mk hm1
  clear hn hc hok hm hC hB hg hrb hr hmay hm2 hm1
  go_enter Try.func84, Try.ntmps84
  have rr : ((w.alloc (.cells (recCells 0 0 0 0 0 0 none 0 0 0 0 0 0 0 ⟨#[]⟩) 28)).alloc (.cells (recCells 1 0 0 0 0 0 none 0 0 0 0 0 0 0 ⟨#[]⟩) 28)).cell? ⟨rb, 0, none⟩ = some (.slice A n c) := pw_cell_below (below_alloc (below_alloc (Below.refl _ _) _) _) (blk_cell HG.out 0)
  go_wp2_with fail
  obtain ⟨f, hf⟩ : ∃ f, f = w.heap.size := ⟨_, rfl⟩
  obtain ⟨g, hg⟩ : ∃ g, g = w.heap.size + 1 := ⟨_, rfl⟩
  obtain ⟨va, hva⟩ : ∃ va, va = w.alloc (.cells (recCells 0 0 0 0 0 0 none 0 0 0 0 0 0 0 ⟨#[]⟩) 28) := ⟨_, rfl⟩
  obtain ⟨v0, hv0⟩ : ∃ v0, v0 = va.alloc (.cells (recCells 1 0 0 0 0 0 none 0 0 0 0 0 0 0 ⟨#[]⟩) 28) := ⟨_, rfl⟩
  have hsz : va.heap.size = w.heap.size + 1 := by rw [hva]; simp
  rw [← hva, ← hv0, ← hg, ← hf]
  have HW1 := Aside0.mk (show Below w.heap.size w v0 by rw [hv0]; exact (below_step (w := w) (W := va) (by rw [hva]; exact below_alloc (Below.refl _ _) _) (below_alloc (Below.refl _ _) _)))
  have HF0 := Aside0.mk (show v0.heap[f]? = some (.cells (recCells 0 0 0 0 0 0 none 0 0 0 0 0 0 0 ⟨#[]⟩) 28 (0, 0)) by
    rw [hv0]
    refine (Below.heap_alloc _ _ _ (by omega)).trans ?_
    rw [hva, hf]; exact heap_alloc_new w _)
  have HT0 := Aside0.mk (show v0.heap[g]? = some (.cells (recCells 1 0 0 0 0 0 none 0 0 0 0 0 0 0 ⟨#[]⟩) 28 (0, 0)) by rw [hv0, hg, ← hsz]; exact heap_alloc_new va _)
  have HB0 := Aside0.mk (below_step HB.out HW1.out)
  have HX0 := Aside0.mk (Frm.of_below HW1.out (fun k => k = rb))
  have HG0 := Aside0.mk ((HW1.out.block rb (blk_lt HG.out)).trans HG.out)
  have HFT := Aside0.mk (show f ≠ rb ∧ g ≠ rb by have := blk_lt HG.out; omega)
  have HFG := Aside0.mk (show f ≠ g ∧ w.heap.size ≤ f ∧ w.heap.size ≤ g by omega)
  clear hf hg hva hv0 hsz HG HB rr
  refine (dec_entry v0 n c A l s v k se rq ops m HM2.out HM1.out HN.out HCC.out HOK.out HM.out (Kd.C_below HC.out HB0.out) HR.out HMAY.out).mono ?_
  rintro e1 v1 ⟨B, cb, rfl, ho1, hb1⟩
  have HG1 := Aside0.mk ((hb1.block rb (blk_lt HG0.out)).trans HG0.out)
  have HF1 := Aside0.mk ((hb1.block f (blk_lt HF0.out)).trans HF0.out)
  have HT1 := Aside0.mk ((hb1.block g (blk_lt HT0.out)).trans HT0.out)
  have HX1 := Aside0.mk (HX0.out.step hb1)
  have HO1 := Aside0.mk (Kd.R_lower ho1 HW1.out.size)
  clear ho1 hb1 HG0 HF0 HT0 HX0 HB0 HW1
  go_wp2_with (with_reducible refine stop_store rfl ?_)
  obtain ⟨h, hh⟩ : ∃ h, h = v1.heap.size := ⟨_, rfl⟩
  obtain ⟨va, hva⟩ : ∃ va, va = v1.alloc (.cells entZero 24) := ⟨_, rfl⟩
  rw [← hva, ← hh]
  have hba : Below v1.heap.size v1 va := by rw [hva]; exact below_alloc (Below.refl _ _) _
  have HHA := Aside0.mk (show va.heap[h]? = some (.cells entZero 24 (0, 0)) by rw [hva, hh]; exact heap_alloc_new v1 _)
  refine store_blk rfl rfl 24 _ _ rfl (q := h) (i := 0) (cur' := entArr s v k se rq (.slice B m cb)) [.int .i64 s, .int .i64 v, .int .i64 k, .int .i64 se, .int .i64 rq, .slice B m cb] rfl rfl rfl (by kernel_rfl) (by intro u hu; simp at hu; rcases hu with rfl | rfl | rfl | rfl | rfl | rfl <;> rfl) HHA.out (by simp) rfl ?_
  intro v2 hz2 hgz2
  have hb2 : Below v1.heap.size v1 v2 := hba.grown hgz2 hba.size (fun k e => by cases e; omega)
  have HH2 := Aside0.mk hz2
  have HG2 := Aside0.mk ((hb2.block rb (blk_lt HG1.out)).trans HG1.out)
  have HF2 := Aside0.mk ((hb2.block f (blk_lt HF1.out)).trans HF1.out)
  have HT2 := Aside0.mk ((hb2.block g (blk_lt HT1.out)).trans HT1.out)
  have HX2 := Aside0.mk (HX1.out.step hb2)
  have HO2 := Aside0.mk (Kd.R_below HO1.out hb2)
  clear hh hva hba hz2 hgz2 hb2 HHA HG1 HF1 HT1 HX1 HO1
  have y0 := (blk_cell HH2.out 0).trans rfl
  have y1 := (blk_cell HH2.out 1).trans rfl
  have y2 := (blk_cell HH2.out 2).trans rfl
  have y3 := (blk_cell HH2.out 3).trans rfl
  have y4 := (blk_cell HH2.out 4).trans rfl
  have y5 := (blk_cell HH2.out 5).trans rfl
  go_wp2_with (with_reducible refine stop_store rfl ?_)
  refine store_blk rfl rfl 24 _ _ rfl (q := g) (i := 1) (cur' := recCells 1 s v k se rq B m cb 0 0 0 0 0 ⟨#[]⟩) [.int .i64 s, .int .i64 v, .int .i64 k, .int .i64 se, .int .i64 rq, .slice B m cb] rfl rfl rfl (by kernel_rfl) (by intro u hu; simp at hu; rcases hu with rfl | rfl | rfl | rfl | rfl | rfl <;> rfl) HT2.out (by simp) rfl ?_
  intro v3 hz hgz
  have HT3 := Aside0.mk hz
  have HF3 := Aside0.mk ((hgz.block f (blk_lt HF2.out) (fun e => HFG.out.1 (Option.some.inj e))).trans HF2.out)
  have HX3 := Aside0.mk (HX2.out.then_ (Frm.of_grown (S := fun k => k = g) hgz (fun k e => (Option.some.inj e).symm)) (fun k hk hlt => by have := HFG.out.2.2; omega))
  have HO3 := Aside0.mk (R40_frm HO2.out HT2.out (by decide) (Frm.of_grown (S := fun k => k = g) hgz (fun k e => (Option.some.inj e).symm)))
  clear hz hgz y0 y1 y2 y3 y4 y5 HT2 HF2 HX2 HO2 HH2 HG2
  have kp0 := (blk_cell HT3.out 0).trans rfl
  have kp1 := (blk_cell HT3.out 1).trans rfl
  have kp2 := (blk_cell HT3.out 2).trans rfl
  have kp3 := (blk_cell HT3.out 3).trans rfl
  have kp4 := (blk_cell HT3.out 4).trans rfl
  have kp5 := (blk_cell HT3.out 5).trans rfl
  have kp6 := (blk_cell HT3.out 6).trans rfl
  have kp7 := (blk_cell HT3.out 7).trans rfl
  have kp8 := (blk_cell HT3.out 8).trans rfl
  have kp9 := (blk_cell HT3.out 9).trans rfl
  have kp10 := (blk_cell HT3.out 10).trans rfl
  have kp11 := (blk_cell HT3.out 11).trans rfl
  have kp12 := (blk_cell HT3.out 12).trans rfl
  go_wp2_with (with_reducible refine stop_store rfl ?_)
  refine store_blk rfl rfl 28 _ _ rfl (q := f) (i := 0) (cur' := recCells 1 s v k se rq B m cb 0 0 0 0 0 ⟨#[]⟩) (recCells 1 s v k se rq B m cb 0 0 0 0 0 ⟨#[]⟩).toList rfl rfl rfl (by kernel_rfl) (by intro u hu; simp at hu; (repeat' (rcases hu with rfl | hu)) <;> first | rfl | (subst hu; rfl)) HF3.out (by simp) rfl ?_
  intro wz hgz hgr
  have HXZ := Aside0.mk (HX3.out.then_ (Frm.of_grown (S := fun k => k = f) hgr (fun k e => (Option.some.inj e).symm)) (fun k hk hlt => by have := HFG.out.2.1; omega))
  have HOZ := Aside0.mk (R40_frm HO3.out HF3.out (by decide) (Frm.of_grown (S := fun k => k = f) hgr (fun k e => (Option.some.inj e).symm)))
  clear hgr kp0 kp1 kp2 kp3 kp4 kp5 kp6 kp7 kp8 kp9 kp10 kp11 kp12
  go_wp2
  (try simp only [Exit.inBlock, Exit.then])
  refine bodyPost_ret (results_cell_row rfl _ _ f 28 (recCells 1 s v k se rq B m cb 0 0 0 0 0 ⟨#[]⟩) (0, 0) _ rfl hgz Try.underlying28 rfl (by kernel_rfl)) rfl ?_
  exact ⟨B, cb, rfl, HOZ.out, HXZ.out⟩
end Go.Proofs.Ytdbniihjkiecbaa.PW
namespace Go.Proofs.Ytdbniihjkiecbaa.PW
open Go.RowKit Go.Proofs.YtdbniihjkiecbaaW.PrintWords Go.Proofs.YtdbniihjkiecbaaW.PrintLast Go.Proofs.YtdbniihjkiecbaaW.PrintMore
set_option linter.unusedVariables false
set_option linter.unusedSimpArgs false

theorem results71_row (tmps : Array Value) (w : World) (p4 p5 p6 : Nat) (cs : Array Value) (m : Int) (b : Bool) (h4 : tmps[4]? = some (.pointer (some ⟨p4, 0, none⟩))) (h5 : tmps[5]? = some (.pointer (some ⟨p5, 0, none⟩))) (h6 : tmps[6]? = some (.pointer (some ⟨p6, 0, none⟩)))
    (hg : w.heap[p4]? = some (.cells cs 28 (0, 0))) (hs : cs.size = 13) (c5 : w.cell? ⟨p5, 0, none⟩ = some (.int .i64 m)) (c6 : w.cell? ⟨p6, 0, none⟩ = some (.bool b)) :
    (results Try.f71 tmps).run Try.prog w = .ok (.tuple #[.agg cs, .int .i64 m, .bool b]) w := by
  have hl := run_loadVar_row (P := Try.prog) w p4 28 28 cs (0, 0) _ hg Try.underlying28 rfl (by rw [hs]; kernel_rfl)
  have hl5 : (loadVar 3 ⟨p5, 0, none⟩).run Try.prog w = .ok (.int .i64 m) w := by simp [go_sem, c5]
  have hl6 : (loadVar 4 ⟨p6, 0, none⟩).run Try.prog w = .ok (.bool b) w := by simp [go_sem, c6]
  simp [results, Try.results71, h4, h5, h6, asAddr, hl, hl5, hl6, Sem.run_bind, Sem.run_pure, Result.andThen_ok]
/-- read returns. -/
theorem door71 {R : Ending → World → Prop} {a : Act} {w : World} {p q r v : Value} (hd : a.defers = [{ target := .fn (.func 82) #[p, q, r], args := #[] }]) (hres : (results Try.f71 a.tmps).run Try.prog w = .ok v w) (hR : R (.returned v) w) :
    bodyPostD Try.prog Try.f71 R Exit.ret a w := by
  show Leaves Try.prog Try.f71 a.tmps R a.defers .returning w
  rw [hd]
  refine leaves_cons (f := 82) (args := #[p, q, r]) (by simp) (by simp [go_sem]) ?_
  refine (read_idle _ _ _ _).mono ?_
  rintro e u' w'' ⟨rfl, rfl, rfl⟩
  exact ⟨v, hres, hR⟩
end Go.Proofs.Ytdbniihjkiecbaa.PW
namespace Go.Proofs.Ytdbniihjkiecbaa.PW
open Go.RowKit Go.Proofs.YtdbniihjkiecbaaW.PrintWords Go.Proofs.YtdbniihjkiecbaaW.PrintLast Go.Proofs.YtdbniihjkiecbaaW.PrintMore
set_option linter.unusedVariables false
set_option linter.unusedSimpArgs false

theorem four_N (A : Option Addr) (n c : Nat) (l : List Int) (r : Int) (w : World) (hn : l.length = n) (hc : n ≤ c) (hC : C8 w A n l) (h : journal_four.f l = some r) :
    Calls Try.prog 83 #[.slice A n c] w fun e w' => e = .returned (.int .i64 r) ∧ Below w.heap.size w w' := by
  subst hn
  refine (journal_four.calls A c l r w hC hc h).mono ?_
  rintro e w' ⟨rfl, hd⟩
  exact ⟨rfl, hd.below⟩
theorem leaves_congr {P : Program} {fn : Func} {t t' : Array Value} {R : Ending → World → Prop} (h : results fn t = results fn t') : ∀ (ds : List Deferred) (u : FrameMode) (w : World), Leaves P fn t R ds u w = Leaves P fn t' R ds u w := by
  intro ds
  induction ds with
  | nil =>
    intro u w
    cases u <;> simp [Leaves, h]
  | cons d ds ih =>
    intro u w
    simp only [Leaves, ih]
theorem hq71 {K K1 : Act → World → Prop} {R : Ending → World → Prop} {N : Option Tmp} {v : Value} (hN : N ≠ some 4 ∧ N ≠ some 5 ∧ N ≠ some 6) (c : List PanicEntry) (a : Act) (w : World) (h : Exit.then K (Exit.then K1 (bodyPostD Try.prog Try.f71 R)) (.panic c) (a.put N v) w) :
    Exit.then K (Exit.then K1 (bodyPostD Try.prog Try.f71 R)) (.panic c) a w := by
  cases N with
  | none => exact h
  | some m =>
    have h' : Leaves Try.prog Try.f71 (a.tmps.setIfInBounds m v) R a.defers (.panicking c) w := h
    have e : results Try.f71 (a.tmps.setIfInBounds m v) = results Try.f71 a.tmps := by
      have h4 : (a.tmps.setIfInBounds m v)[4]? = a.tmps[4]? := Array.getElem?_setIfInBounds_ne (fun e => hN.1 (by rw [e]))
      have h5 : (a.tmps.setIfInBounds m v)[5]? = a.tmps[5]? := Array.getElem?_setIfInBounds_ne (fun e => hN.2.1 (by rw [e]))
      have h6 : (a.tmps.setIfInBounds m v)[6]? = a.tmps[6]? := Array.getElem?_setIfInBounds_ne (fun e => hN.2.2 (by rw [e]))
      simp [results, Try.results71, h4, h5, h6]
    show Leaves Try.prog Try.f71 a.tmps R a.defers (.panicking c) w
    rw [← leaves_congr e]
    exact h'
theorem hq71a {K : Act → World → Prop} {R : Ending → World → Prop} {N : Option Tmp} {v : Value} (hN : N ≠ some 4 ∧ N ≠ some 5 ∧ N ≠ some 6) (c : List PanicEntry) (a : Act) (w : World) (h : Exit.then K (bodyPostD Try.prog Try.f71 R) (.panic c) (a.put N v) w) :
    Exit.then K (bodyPostD Try.prog Try.f71 R) (.panic c) a w := hq71 (K := K) (K1 := K) hN c a w h
/-- A struct stored into a block that is known whole, as an arm of a drawn region. -/
theorem store_arm {oi : Oper} {a : Act} {w : World} {K : Act → World → Prop} {Q : Exit → Act → World → Prop} (t : TypeId) (p x : Operand) (hop : oi.op = .store t p x) {ops : Array Oper} (hw : Region.wanted oi (yielded ops a.tmps) = true) (hN : oi.dst = none) {q i e : Nat} {cur cur' : Array Value} (cs : List Value)
    (haddr : a.eval p = .pointer (some ⟨q, i, none⟩)) (hx : a.eval x = .agg cs.toArray) (hc : (Value.agg cs.toArray).cells.toList = cs) (ht : (Try.prog.info? t).map (·.size) = some cs.length) (h1 : ∀ u ∈ cs, u.oneCell' = true) (hh : w.heap[q]? = some (.cells cur e (0, 0))) (hfit : i + cs.length ≤ cur.size)
    (hcur : cur.toList.take i ++ cs ++ cur.toList.drop (i + cs.length) = cur'.toList) (h : ∀ w1, w1.heap[q]? = some (.cells cur' e (0, 0)) → w.grownBy w1 (some q) → K a w1) :
    if Region.wanted oi (yielded ops a.tmps) = true then Oper.wp Try.prog oi a w K Q else K (a.put none undef) w := by
  obtain ⟨cur2, k1, k2, k3⟩ := setCells_row cs i w cur hh hfit
  have e2 : cur2 = cur' := by
    apply Array.toList_inj.1
    rw [k3, hcur]
  subst e2
  obtain ⟨s1, s2, s3, s4⟩ := setCells_same q cs i w
  have hrun := run_store_run (P := Try.prog) t (.agg cs.toArray) cs hh hc ht hfit h1
  refine skip_ hw hN ?_ (h _ k1 ⟨s1, s2, s3, Nat.le_of_eq s4.symm, fun k _ hk => setCells_far cs i k (fun e => hk (by rw [e]))⟩)
  unfold execOp
  simp only [hop, haddr, hx, Sem.run_bind, Sem.run_pure, Result.andThen_ok, hrun]
theorem cutm8 {A : Option Addr} {n c : Nat} {xs : List Int} (j k : Nat) (hj : j ≤ k) (hk : k ≤ n) (hc : n ≤ c) :
    ∃ A', (∀ W : World, (Instr.slice 29 (.slice A n c) (some (.int .i64 (j : Int))) (some (.int .i64 (k : Int))) none).run Try.prog W = .ok (.slice A' (k - j) (c - j)) W) ∧ ∀ W : World, C8 W A n xs → C8 W A' (k - j) ((xs.take k).drop j) := by
  obtain ⟨i0, hi, hzz⟩ := Option.map_eq_some_iff.1 info5'
  simp only [Prod.mk.injEq] at hzz
  have hrun := cut_mid (P := Try.prog) 29 5 .i64 .i64 Try.underlying29 hi 1 hzz.2.1 A n c (j : Int) (k : Int) (by omega) (by omega) (by omega) hc
  refine ⟨_, hrun, fun W HR => ?_⟩
  obtain rfl : xs.length = n := HR.1
  have hd := Kd.C_mid (lo := j) (hi := k) HR hj hk hc
  rw [List.length_drop, List.length_take, Nat.min_eq_left hk] at hd
  rw [Int.toNat_natCast]
  exact hd
theorem wr_sub20 {n : Nat} (h0 : 20 ≤ n) (h : n ≤ 1000000000000) : wrap64 ((n : Int) - 20) = (n : Int) - 20 := by unfold wrap64; omega
theorem wr_kd {k : Int} (h0 : 0 ≤ k) (h : k < 256) : wrap64 k = k := by unfold wrap64; omega
theorem wr_add16 {n : Nat} (h : n ≤ 1000000000000) : wrap64 (16 + (n : Int)) = 16 + (n : Int) := by unfold wrap64; omega
theorem wr_add20 {n : Nat} (h : n ≤ 1000000000000) : wrap64 ((n : Int) + 20) = (n : Int) + 20 := by unfold wrap64; omega
set_option maxHeartbeats 16000000 in
set_option maxRecDepth 100000 in
theorem read_ok (w : World) (A : Option Addr) (n c : Nat) (l : List Int) (sq : Int) (m : Nat) (kd s v k se rq : Int) (l2 : List S40) (vn vp vb st of : Int) (x : ByteArray) (r1 : List Int)
    (hn : l.length = n) (hc : n ≤ c) (hmx : n ≤ 1000000000000) (hok : bytesOk l = true) (hC : C8 w A n l)
    (h20 : 20 + m ≤ n) (h0 : rd l 0 = 74) (h1 : rd l 1 = 82) (h2 : rd l 2 = kd) (h3 : rd l 3 = 0)
    (h4 : journal_four.f (l.drop 4) = some sq) (h8 : journal_four.f (l.drop 8) = some (m : Int)) (h12 : journal_four.f (l.drop 12) = some (sumW (l.take 12))) (h16 : journal_four.f (l.drop (16 + m)) = some (sumW (l.take (16 + m))))
    (hE : recEnc sq kd s v k se rq l2 vn vp vb st of x = (r1, 0))
    (hrec : ∀ (w1 : World) (rb : Nat) (A' : Option Addr) (c' : Nat), Below w.heap.size w w1 → w.heap.size ≤ rb → m ≤ c' → w1.heap[rb]? = some (.cells #[.slice A' m c', .int .i64 0] 147 (0, 0)) → C8 w A' m ((l.take (16 + m)).drop 16) →
      Calls Try.prog 84 #[.pointer (some ⟨rb, 0, none⟩), .int .i64 kd] w1 fun e w' => ∃ B nb cb, e = .returned (.agg (recCells kd s v k se rq B nb cb vn vp vb st of x)) ∧ l2.length = nb ∧ R40 w' w1.heap.size (.slice B nb cb) l2 ∧ Frm w1 w' (fun k => k = rb)) :
    Calls Try.prog 71 #[.slice A n c, .int .i64 sq] w fun e w' => ∃ B nb cb, e = .returned (.tuple #[.agg (recCells kd s v k se rq B nb cb vn vp vb st of x), .int .i64 ((m : Int) + 20), .bool true]) ∧ l2.length = nb ∧ R40 w' w.heap.size (.slice B nb cb) l2 ∧ Below w.heap.size w w' := by
  have hu28 := Try.underlying28
  have hu26 := Try.underlying26
  have hu24 := Try.underlying24
  have hu147 := Try.underlying147
  have hmf : ∀ (fn : Fn) (first cap : Array Value) (w : World), (Instr.makeFunc fn first cap).run Try.prog w = .ok (.func fn first cap) w := fun _ _ _ _ => rfl
  have hkd := wr_kd (bytesOk_rd hok 2 (by omega)).1 (bytesOk_rd hok 2 (by omega)).2
  replace hkd : wrap64 kd = kd := by rw [← h2]; exact hkd
  have HKD := Aside0.mk hkd
  clear hkd
  obtain ⟨ad, rfl, hb0⟩ := Kd.at_int hC 0 (by decide) (by omega)
  obtain ⟨ad1, e1, hb1⟩ := Kd.at_int hC 1 (by decide) (by omega)
  cases e1
  obtain ⟨ad1, e1, hb2⟩ := Kd.at_int hC 2 (by decide) (by omega)
  cases e1
  obtain ⟨ad1, e1, hb3⟩ := Kd.at_int hC 3 (by decide) (by omega)
  cases e1
  rw [h0] at hb0
  rw [h1] at hb1
  rw [h2] at hb2
  rw [h3] at hb3
  obtain ⟨A4, hc4, hC4⟩ := cutf8 (A := some ad) (n := n) (c := c) (xs := l) 4 (by omega) hc
  obtain ⟨A8, hc8, hC8⟩ := cutf8 (A := some ad) (n := n) (c := c) (xs := l) 8 (by omega) hc
  obtain ⟨A12, hc12, hC12⟩ := cutf8 (A := some ad) (n := n) (c := c) (xs := l) 12 (by omega) hc
  obtain ⟨ht12, hCt12⟩ := cutt8 (A := some ad) (n := n) (c := c) (xs := l) 12 (by omega) hc
  replace hc4 : ∀ (W : World), (Instr.slice 29 (.slice (some ad) n c) (some (.int .i64 4)) none none).run Try.prog W = .ok (.slice A4 (n - 4) (c - 4)) W := hc4
  replace hc8 : ∀ (W : World), (Instr.slice 29 (.slice (some ad) n c) (some (.int .i64 8)) none none).run Try.prog W = .ok (.slice A8 (n - 8) (c - 8)) W := hc8
  replace hc12 : ∀ (W : World), (Instr.slice 29 (.slice (some ad) n c) (some (.int .i64 12)) none none).run Try.prog W = .ok (.slice A12 (n - 12) (c - 12)) W := hc12
  replace ht12 : ∀ (W : World), (Instr.slice 29 (.slice (some ad) n c) none (some (.int .i64 12)) none).run Try.prog W = .ok (.slice (some ad) 12 c) W := ht12
  replace hb0 : w.cell? ad = some (.int .u8 74) := by rw [show ad.add (Int.toNat 0) = ad from by simp [Addr.add]] at hb0; exact hb0
  replace hb1 : w.cell? ⟨ad.block, ad.off + 1, none⟩ = some (.int .u8 82) := by rw [show ad.add (Int.toNat 1) = ⟨ad.block, ad.off + 1, none⟩ from by simp [Addr.add]] at hb1; exact hb1
  replace hb2 : w.cell? ⟨ad.block, ad.off + 2, none⟩ = some (.int .u8 kd) := by rw [show ad.add (Int.toNat 2) = ⟨ad.block, ad.off + 2, none⟩ from by simp [Addr.add]] at hb2; exact hb2
  replace hb3 : w.cell? ⟨ad.block, ad.off + 3, none⟩ = some (.int .u8 0) := by rw [show ad.add (Int.toNat 3) = ⟨ad.block, ad.off + 3, none⟩ from by simp [Addr.add]] at hb3; exact hb3
  have HN := Aside0.mk hn
  have HCC := Aside0.mk hc
  have HC := Aside0.mk hC
  have HOK := Aside0.mk hok
  have HM := Aside0.mk hmx
  have H20 := Aside0.mk h20
  have HC4 := Aside0.mk (hC4 w hC)
  have HC8 := Aside0.mk (hC8 w hC)
  have HC12 := Aside0.mk (hC12 w hC)
  have HCT := Aside0.mk (hCt12 w hC)
  have H4 := Aside0.mk h4
  have H8 := Aside0.mk h8
  have H12 := Aside0.mk h12
  have H16 := Aside0.mk h16
  have HE := Aside0.mk hE
  have HREC := Aside0.mk hrec
  clear hn hc hmx hok hC h20 hC4 hC8 hC12 hCt12 h4 h8 h12 h16 hE hrec h0 h1 h2 h3
  have hd20 : decide ((n : Int) < 20) = false := decide_eq_false (by have := H20.out; omega)
  have hd21 : decide (n < 20) = false := decide_eq_false (by have := H20.out; omega)
  have i0 : (0 < n) = True := eq_true (by have := H20.out; omega)
  have i1 : (1 < n) = True := eq_true (by have := H20.out; omega)
  have i2 : (2 < n) = True := eq_true (by have := H20.out; omega)
  have i3 : (3 < n) = True := eq_true (by have := H20.out; omega)
  have j0 : ((0 : Int) < (n : Int)) = True := eq_true (by have := H20.out; omega)
  have j1 : ((1 : Int) < (n : Int)) = True := eq_true (by have := H20.out; omega)
  have j2 : ((2 : Int) < (n : Int)) = True := eq_true (by have := H20.out; omega)
  have j3 : ((3 : Int) < (n : Int)) = True := eq_true (by have := H20.out; omega)
  go_enter_defers Try.func71, Try.ntmps71
  go_wp2_with fail
  obtain ⟨p4, hp4⟩ : ∃ p4, p4 = w.heap.size := ⟨_, rfl⟩
  obtain ⟨p5, hp5⟩ : ∃ p5, p5 = w.heap.size + 1 := ⟨_, rfl⟩
  obtain ⟨p6, hp6⟩ : ∃ p6, p6 = w.heap.size + 1 + 1 := ⟨_, rfl⟩
  obtain ⟨wa, hwa⟩ : ∃ wa, wa = w.alloc (.cells #[.int .i64 0, .int .i64 0, .int .i64 0, .int .i64 0, .int .i64 0, .int .i64 0, .slice none 0 0, .int .i64 0, .int .i64 0, .int .i64 0, .int .i64 0, .int .i64 0, .string ⟨#[]⟩] 28) := ⟨_, rfl⟩
  obtain ⟨wb, hwb⟩ : ∃ wb, wb = wa.alloc (.cells #[.int .i64 0] 3) := ⟨_, rfl⟩
  obtain ⟨wc, hwc⟩ : ∃ wc, wc = wb.alloc (.cells #[.bool false] 4) := ⟨_, rfl⟩
  rw [← hwa, ← hwb, ← hwc, ← hp6, ← hp5, ← hp4]
  have hza : wa.heap.size = w.heap.size + 1 := by rw [hwa]; simp
  have hzb : wb.heap.size = w.heap.size + 1 + 1 := by rw [hwb, ← hza]; simp
  have hba : Below wa.heap.size wa wb := by rw [hwb]; exact below_alloc (Below.refl _ _) _
  have hbb : Below wb.heap.size wb wc := by rw [hwc]; exact below_alloc (Below.refl _ _) _
  have HB := Aside0.mk (show Below w.heap.size w wc from below_step (below_step (by rw [hwa]; exact below_alloc (Below.refl _ _) _) hba) hbb)
  have HP4 := Aside0.mk (show wc.heap[p4]? = some (.cells #[.int .i64 0, .int .i64 0, .int .i64 0, .int .i64 0, .int .i64 0, .int .i64 0, .slice none 0 0, .int .i64 0, .int .i64 0, .int .i64 0, .int .i64 0, .int .i64 0, .string ⟨#[]⟩] 28 (0, 0)) by
    refine (hbb.block p4 (by omega)).trans ((hba.block p4 (by omega)).trans ?_)
    rw [hwa, hp4]; exact heap_alloc_new w _)
  have HP5 := Aside0.mk (show wc.heap[p5]? = some (.cells #[.int .i64 0] 3 (0, 0)) by
    refine (hbb.block p5 (by omega)).trans ?_
    rw [hwb, hp5, ← hza]; exact heap_alloc_new wa _)
  have HP6 := Aside0.mk (show wc.heap[p6]? = some (.cells #[.bool false] 4 (0, 0)) by rw [hwc, hp6, ← hzb]; exact heap_alloc_new wb _)
  have HPW := Aside0.mk (show w.heap.size ≤ p4 ∧ p4 < p5 ∧ p5 < p6 by omega)
  clear hp4 hp5 hp6 hwa hwb hwc hza hzb hba hbb
  have HB0 := Aside0.mk (pw_cell_below (below_drew1 HB.out) hb0)
  have HB1 := Aside0.mk (pw_cell_below (below_drew1 HB.out) hb1)
  have HB2 := Aside0.mk hb2
  have HB3 := Aside0.mk (pw_cell_below (below_drew1 HB.out) hb3)
  clear hb0 hb1 hb2 hb3
  have c0 := HB0.out
  have c1 := HB1.out
  have c3 := HB3.out
  have HD := Aside0.mk (below_drew1 HB.out)
  refine start_ (n := 37) (S := fun w' => w'.cell? ad = some (.int .u8 74) ∧ w'.cell? ⟨ad.block, ad.off + 1, none⟩ = some (.int .u8 82) ∧ w'.cell? ⟨ad.block, ad.off + 3, none⟩ = some (.int .u8 0)) (ds := []) #[ff, ff, ff, ff, ff, ff, ff, ff, ff, ff, ff, ff, ff, ff, ff, ff, ff, ff, ff, ff, ff, ff, ff, ff, ff, ff, ff, ff, ff, ff, ff, ff, ff, ff, ff, ff, ff] (by kernel_rfl) rfl rfl ⟨c0, c1, c3⟩ (fun hHeld => ?_)
  refine pure_ (i := 0) (N := some 11) (v := ?_) (a' := ?_) #[tt, ff, ff, ff, ff, ff, ff, ff, ff, ff, ff, ff, ff, ff, ff, ff, ff, ff, ff, ff, ff, ff, ff, ff, ff, ff, ff, ff, ff, ff, ff, ff, ff, ff, ff, ff, ff] rfl rfl (by kernel_rfl) (hq71 (by decide)) (Or.inl ⟨by rfl, ?_⟩) ?_ ?_
  rotate_left
  · intro w'
    go_simp
    with_reducible rfl
  rotate_left
  · simp only [Act.put, sx1, sx2, sx3, i64_w, i32_w]
    rfl
  refine pure_ (i := 1) (N := some 12) (v := ?_) (a' := ?_) #[tt, tt, ff, ff, ff, ff, ff, ff, ff, ff, ff, ff, ff, ff, ff, ff, ff, ff, ff, ff, ff, ff, ff, ff, ff, ff, ff, ff, ff, ff, ff, ff, ff, ff, ff, ff, ff] rfl rfl (by kernel_rfl) (hq71 (by decide)) (Or.inl ⟨by rfl, ?_⟩) ?_ ?_
  rotate_left
  · intro w'
    go_simp
    with_reducible rfl
  rotate_left
  · simp only [Act.put, sx1, sx2, sx3, i64_w, i32_w]
    rfl
  refine pure_ (i := 2) (N := some 13) (v := ?_) (a' := ?_) #[tt, tt, tt, ff, ff, ff, ff, ff, ff, ff, ff, ff, ff, ff, ff, ff, ff, ff, ff, ff, ff, ff, ff, ff, ff, ff, ff, ff, ff, ff, ff, ff, ff, ff, ff, ff, ff] rfl rfl (by kernel_rfl) (hq71 (by decide)) (Or.inl ⟨by rfl, ?_⟩) ?_ ?_
  rotate_left
  · intro w'
    go_simp
    with_reducible rfl
  rotate_left
  · simp only [Act.put, sx1, sx2, sx3, i64_w, i32_w]
    rfl
  refine pure_ (i := 3) (N := some 14) (v := ?_) (a' := ?_) #[tt, tt, tt, tt, ff, ff, ff, ff, ff, ff, ff, ff, ff, ff, ff, ff, ff, ff, ff, ff, ff, ff, ff, ff, ff, ff, ff, ff, ff, ff, ff, ff, ff, ff, ff, ff, ff] rfl rfl (by kernel_rfl) (hq71 (by decide)) (Or.inl ⟨by rfl, ?_⟩) ?_ ?_
  rotate_left
  · intro w'
    go_simp
    with_reducible rfl
  rotate_left
  · simp only [Act.put, sx1, sx2, sx3, i64_w, i32_w]
    rfl
  refine pure_ (i := 4) (N := some 15) (v := ?_) (a' := ?_) #[tt, tt, tt, tt, tt, ff, ff, ff, ff, ff, ff, ff, ff, ff, ff, ff, ff, ff, ff, ff, ff, ff, ff, ff, ff, ff, ff, ff, ff, ff, ff, ff, ff, ff, ff, ff, ff] rfl rfl (by kernel_rfl) (hq71 (by decide)) (Or.inl ⟨by rfl, ?_⟩) ?_ ?_
  rotate_left
  · intro w'
    go_simp
    with_reducible rfl
  rotate_left
  · simp only [Act.put, sx1, sx2, sx3, i64_w, i32_w]
    rfl
  refine pure_ (i := 5) (N := some 16) (v := ?_) (a' := ?_) #[tt, tt, tt, tt, tt, tt, ff, ff, ff, ff, ff, ff, ff, ff, ff, ff, ff, ff, ff, ff, ff, ff, ff, ff, ff, ff, ff, ff, ff, ff, ff, ff, ff, ff, ff, ff, ff] rfl rfl (by kernel_rfl) (hq71 (by decide)) (Or.inl ⟨by rfl, ?_⟩) ?_ ?_
  rotate_left
  · intro w'
    go_simp
    with_reducible rfl
  rotate_left
  · simp only [Act.put, sx1, sx2, sx3, i64_w, i32_w]
    rfl
  refine take_ (i := 6) (N := some 17) (v := ?_) (a' := ?_) #[tt, tt, tt, tt, tt, tt, tt, ff, ff, ff, ff, ff, ff, ff, ff, ff, ff, ff, ff, ff, ff, ff, ff, ff, ff, ff, ff, ff, ff, ff, ff, ff, ff, ff, ff, ff, ff] rfl rfl (by kernel_rfl) (hq71 (by decide)) (Or.inl ⟨by rfl, ?_⟩) hHeld ?_ ?_
  rotate_left
  · rintro w' ⟨s0, s1, s2⟩
    go_simp
    with_reducible rfl
  rotate_left
  · simp only [Act.put, sx1, sx2, sx3, i64_w, i32_w]
    rfl
  refine pure_ (i := 7) (N := some 18) (v := ?_) (a' := ?_) #[tt, tt, tt, tt, tt, tt, tt, tt, ff, ff, ff, ff, ff, ff, ff, ff, ff, ff, ff, ff, ff, ff, ff, ff, ff, ff, ff, ff, ff, ff, ff, ff, ff, ff, ff, ff, ff] rfl rfl (by kernel_rfl) (hq71 (by decide)) (Or.inl ⟨by rfl, ?_⟩) ?_ ?_
  rotate_left
  · intro w'
    go_simp
    with_reducible rfl
  rotate_left
  · simp only [Act.put, sx1, sx2, sx3, i64_w, i32_w]
    rfl
  refine pure_ (i := 8) (N := some 19) (v := ?_) (a' := ?_) #[tt, tt, tt, tt, tt, tt, tt, tt, tt, ff, ff, ff, ff, ff, ff, ff, ff, ff, ff, ff, ff, ff, ff, ff, ff, ff, ff, ff, ff, ff, ff, ff, ff, ff, ff, ff, ff] rfl rfl (by kernel_rfl) (hq71 (by decide)) (Or.inl ⟨by rfl, ?_⟩) ?_ ?_
  rotate_left
  · intro w'
    go_simp
    with_reducible rfl
  rotate_left
  · simp only [Act.put, sx1, sx2, sx3, i64_w, i32_w]
    rfl
  refine pure_ (i := 9) (N := some 20) (v := ?_) (a' := ?_) #[tt, tt, tt, tt, tt, tt, tt, tt, tt, tt, ff, ff, ff, ff, ff, ff, ff, ff, ff, ff, ff, ff, ff, ff, ff, ff, ff, ff, ff, ff, ff, ff, ff, ff, ff, ff, ff] rfl rfl (by kernel_rfl) (hq71 (by decide)) (Or.inl ⟨by rfl, ?_⟩) ?_ ?_
  rotate_left
  · intro w'
    go_simp
    with_reducible rfl
  rotate_left
  · simp only [Act.put, sx1, sx2, sx3, i64_w, i32_w]
    rfl
  refine pure_ (i := 10) (N := some 21) (v := ?_) (a' := ?_) #[tt, tt, tt, tt, tt, tt, tt, tt, tt, tt, tt, ff, ff, ff, ff, ff, ff, ff, ff, ff, ff, ff, ff, ff, ff, ff, ff, ff, ff, ff, ff, ff, ff, ff, ff, ff, ff] rfl rfl (by kernel_rfl) (hq71 (by decide)) (Or.inl ⟨by rfl, ?_⟩) ?_ ?_
  rotate_left
  · intro w'
    go_simp
    with_reducible rfl
  rotate_left
  · simp only [Act.put, sx1, sx2, sx3, i64_w, i32_w]
    rfl
  refine pure_ (i := 11) (N := some 22) (v := ?_) (a' := ?_) #[tt, tt, tt, tt, tt, tt, tt, tt, tt, tt, tt, tt, ff, ff, ff, ff, ff, ff, ff, ff, ff, ff, ff, ff, ff, ff, ff, ff, ff, ff, ff, ff, ff, ff, ff, ff, ff] rfl rfl (by kernel_rfl) (hq71 (by decide)) (Or.inl ⟨by rfl, ?_⟩) ?_ ?_
  rotate_left
  · intro w'
    go_simp
    with_reducible rfl
  rotate_left
  · simp only [Act.put, sx1, sx2, sx3, i64_w, i32_w]
    rfl
  refine take_ (i := 12) (N := some 23) (v := ?_) (a' := ?_) #[tt, tt, tt, tt, tt, tt, tt, tt, tt, tt, tt, tt, tt, ff, ff, ff, ff, ff, ff, ff, ff, ff, ff, ff, ff, ff, ff, ff, ff, ff, ff, ff, ff, ff, ff, ff, ff] rfl rfl (by kernel_rfl) (hq71 (by decide)) (Or.inl ⟨by rfl, ?_⟩) hHeld ?_ ?_
  rotate_left
  · rintro w' ⟨s0, s1, s2⟩
    go_simp
    with_reducible rfl
  rotate_left
  · simp only [Act.put, sx1, sx2, sx3, i64_w, i32_w]
    rfl
  refine pure_ (i := 13) (N := some 24) (v := ?_) (a' := ?_) #[tt, tt, tt, tt, tt, tt, tt, tt, tt, tt, tt, tt, tt, tt, ff, ff, ff, ff, ff, ff, ff, ff, ff, ff, ff, ff, ff, ff, ff, ff, ff, ff, ff, ff, ff, ff, ff] rfl rfl (by kernel_rfl) (hq71 (by decide)) (Or.inl ⟨by rfl, ?_⟩) ?_ ?_
  rotate_left
  · intro w'
    go_simp
    with_reducible rfl
  rotate_left
  · simp only [Act.put, sx1, sx2, sx3, i64_w, i32_w]
    rfl
  refine pure_ (i := 14) (N := some 25) (v := ?_) (a' := ?_) #[tt, tt, tt, tt, tt, tt, tt, tt, tt, tt, tt, tt, tt, tt, tt, ff, ff, ff, ff, ff, ff, ff, ff, ff, ff, ff, ff, ff, ff, ff, ff, ff, ff, ff, ff, ff, ff] rfl rfl (by kernel_rfl) (hq71 (by decide)) (Or.inl ⟨by rfl, ?_⟩) ?_ ?_
  rotate_left
  · intro w'
    go_simp
    with_reducible rfl
  rotate_left
  · simp only [Act.put, sx1, sx2, sx3, i64_w, i32_w]
    rfl
  refine pure_ (i := 15) (N := some 26) (v := ?_) (a' := ?_) #[tt, tt, tt, tt, tt, tt, tt, tt, tt, tt, tt, tt, tt, tt, tt, tt, ff, ff, ff, ff, ff, ff, ff, ff, ff, ff, ff, ff, ff, ff, ff, ff, ff, ff, ff, ff, ff] rfl rfl (by kernel_rfl) (hq71 (by decide)) (Or.inl ⟨by rfl, ?_⟩) ?_ ?_
  rotate_left
  · intro w'
    go_simp
    with_reducible rfl
  rotate_left
  · simp only [Act.put, sx1, sx2, sx3, i64_w, i32_w]
    rfl
  refine pure_ (i := 16) (N := some 27) (v := ?_) (a' := ?_) #[tt, tt, tt, tt, tt, tt, tt, tt, tt, tt, tt, tt, tt, tt, tt, tt, tt, ff, ff, ff, ff, ff, ff, ff, ff, ff, ff, ff, ff, ff, ff, ff, ff, ff, ff, ff, ff] rfl rfl (by kernel_rfl) (hq71 (by decide)) (Or.inl ⟨by rfl, ?_⟩) ?_ ?_
  rotate_left
  · intro w'
    go_simp
    with_reducible rfl
  rotate_left
  · simp only [Act.put, sx1, sx2, sx3, i64_w, i32_w]
    rfl
  refine pure_ (i := 17) (N := some 28) (v := ?_) (a' := ?_) #[tt, tt, tt, tt, tt, tt, tt, tt, tt, tt, tt, tt, tt, tt, tt, tt, tt, tt, ff, ff, ff, ff, ff, ff, ff, ff, ff, ff, ff, ff, ff, ff, ff, ff, ff, ff, ff] rfl rfl (by kernel_rfl) (hq71 (by decide)) (Or.inl ⟨by rfl, ?_⟩) ?_ ?_
  rotate_left
  · intro w'
    go_simp
    with_reducible rfl
  rotate_left
  · simp only [Act.put, sx1, sx2, sx3, i64_w, i32_w]
    rfl
  refine take_ (i := 18) (N := some 29) (v := ?_) (a' := ?_) #[tt, tt, tt, tt, tt, tt, tt, tt, tt, tt, tt, tt, tt, tt, tt, tt, tt, tt, tt, ff, ff, ff, ff, ff, ff, ff, ff, ff, ff, ff, ff, ff, ff, ff, ff, ff, ff] rfl rfl (by kernel_rfl) (hq71 (by decide)) (Or.inl ⟨by rfl, ?_⟩) hHeld ?_ ?_
  rotate_left
  · rintro w' ⟨s0, s1, s2⟩
    go_simp
    with_reducible rfl
  rotate_left
  · simp only [Act.put, sx1, sx2, sx3, i64_w, i32_w]
    rfl
  refine pure_ (i := 19) (N := some 30) (v := ?_) (a' := ?_) #[tt, tt, tt, tt, tt, tt, tt, tt, tt, tt, tt, tt, tt, tt, tt, tt, tt, tt, tt, tt, ff, ff, ff, ff, ff, ff, ff, ff, ff, ff, ff, ff, ff, ff, ff, ff, ff] rfl rfl (by kernel_rfl) (hq71 (by decide)) (Or.inl ⟨by rfl, ?_⟩) ?_ ?_
  rotate_left
  · intro w'
    go_simp
    with_reducible rfl
  rotate_left
  · simp only [Act.put, sx1, sx2, sx3, i64_w, i32_w]
    rfl
  refine pure_ (i := 20) (N := some 31) (v := ?_) (a' := ?_) #[tt, tt, tt, tt, tt, tt, tt, tt, tt, tt, tt, tt, tt, tt, tt, tt, tt, tt, tt, tt, tt, ff, ff, ff, ff, ff, ff, ff, ff, ff, ff, ff, ff, ff, ff, ff, ff] rfl rfl (by kernel_rfl) (hq71 (by decide)) (Or.inl ⟨by rfl, ?_⟩) ?_ ?_
  rotate_left
  · intro w'
    go_simp
    with_reducible rfl
  rotate_left
  · simp only [Act.put, sx1, sx2, sx3, i64_w, i32_w]
    rfl
  refine pure_ (i := 21) (N := some 32) (v := ?_) (a' := ?_) #[tt, tt, tt, tt, tt, tt, tt, tt, tt, tt, tt, tt, tt, tt, tt, tt, tt, tt, tt, tt, tt, tt, ff, ff, ff, ff, ff, ff, ff, ff, ff, ff, ff, ff, ff, ff, ff] rfl rfl (by kernel_rfl) (hq71 (by decide)) (Or.inl ⟨by rfl, ?_⟩) ?_ ?_
  rotate_left
  · intro w'
    go_simp
    with_reducible rfl
  rotate_left
  · simp only [Act.put, sx1, sx2, sx3, i64_w, i32_w]
    rfl
  refine pure_ (i := 22) (N := some 33) (v := ?_) (a' := ?_) #[tt, tt, tt, tt, tt, tt, tt, tt, tt, tt, tt, tt, tt, tt, tt, tt, tt, tt, tt, tt, tt, tt, tt, ff, ff, ff, ff, ff, ff, ff, ff, ff, ff, ff, ff, ff, ff] rfl rfl (by kernel_rfl) (hq71 (by decide)) (Or.inl ⟨by rfl, ?_⟩) ?_ ?_
  rotate_left
  · intro w'
    go_simp
    with_reducible rfl
  rotate_left
  · simp only [Act.put, sx1, sx2, sx3, i64_w, i32_w]
    rfl
  refine pure_ (i := 23) (N := some 34) (v := ?_) (a' := ?_) #[tt, tt, tt, tt, tt, tt, tt, tt, tt, tt, tt, tt, tt, tt, tt, tt, tt, tt, tt, tt, tt, tt, tt, tt, ff, ff, ff, ff, ff, ff, ff, ff, ff, ff, ff, ff, ff] rfl rfl (by kernel_rfl) (hq71 (by decide)) (Or.inl ⟨by rfl, ?_⟩) ?_ ?_
  rotate_left
  · intro w'
    go_simp
    with_reducible rfl
  rotate_left
  · simp only [Act.put, sx1, sx2, sx3, i64_w, i32_w]
    rfl
  refine pure_ (i := 25) (N := some 36) (v := ?_) (a' := ?_) #[tt, tt, tt, tt, tt, tt, tt, tt, tt, tt, tt, tt, tt, tt, tt, tt, tt, tt, tt, tt, tt, tt, tt, tt, ff, tt, ff, ff, ff, ff, ff, ff, ff, ff, ff, ff, ff] rfl rfl (by kernel_rfl) (hq71 (by decide)) (Or.inl ⟨by rfl, ?_⟩) ?_ ?_
  rotate_left
  · intro w'
    go_simp
    with_reducible rfl
  rotate_left
  · simp only [Act.put, sx1, sx2, sx3, i64_w, i32_w]
    rfl
  refine one_ (i := 24) (N := some 35) #[tt, tt, tt, tt, tt, tt, tt, tt, tt, tt, tt, tt, tt, tt, tt, tt, tt, tt, tt, tt, tt, tt, tt, tt, tt, tt, ff, ff, ff, ff, ff, ff, ff, ff, ff, ff, ff] rfl rfl (by kernel_rfl) (by decide) (fun K hK => ?_)
  refine goes_ Try.func83 (by kernel_rfl) rfl #[.slice A4 (n - 4) (c - 4)] (by rfl) rfl rfl (by simp only [List.map_toArray, List.map_cons, List.map_nil]; rfl) ?_
  with_reducible refine (four_N A4 (n - 4) (c - 4) (l.drop 4) sq _ (by rw [List.length_drop, HN.out]) (Nat.sub_le_sub_right HCC.out 4) (Kd.C_below HC4.out HD.out) H4.out).mono ?_
  rintro e u1 ⟨rfl, hb⟩
  refine ⟨_, rfl, ?_⟩
  have HU1 := Aside0.mk hb
  have HV1 := Aside0.mk (below_step HD.out hb)
  clear hb
  refine hK.out _ _ ⟨pw_cell_below HU1.out HB0.out, pw_cell_below HU1.out HB1.out, pw_cell_below HU1.out HB3.out⟩ (fun hHeld => ?_)
  clear hK K
  refine norm_ (a' := ?_) ?_ ?_
  rotate_left
  · show Act.put _ (some 35) _ = _
    simp only [Act.put, sx1, sx2, sx3, i64_w, i32_w]
    rfl
  refine pure_ (i := 26) (N := some 37) (v := ?_) (a' := ?_) #[tt, tt, tt, tt, tt, tt, tt, tt, tt, tt, tt, tt, tt, tt, tt, tt, tt, tt, tt, tt, tt, tt, tt, tt, tt, tt, tt, ff, ff, ff, ff, ff, ff, ff, ff, ff, ff] rfl rfl (by kernel_rfl) (hq71 (by decide)) (Or.inl ⟨by rfl, ?_⟩) ?_ ?_
  rotate_left
  · intro w'
    go_simp
    with_reducible rfl
  rotate_left
  · simp only [Act.put, sx1, sx2, sx3, i64_w, i32_w]
    rfl
  refine pure_ (i := 27) (N := some 38) (v := ?_) (a' := ?_) #[tt, tt, tt, tt, tt, tt, tt, tt, tt, tt, tt, tt, tt, tt, tt, tt, tt, tt, tt, tt, tt, tt, tt, tt, tt, tt, tt, tt, ff, ff, ff, ff, ff, ff, ff, ff, ff] rfl rfl (by kernel_rfl) (hq71 (by decide)) (Or.inl ⟨by rfl, ?_⟩) ?_ ?_
  rotate_left
  · intro w'
    go_simp
    with_reducible rfl
  rotate_left
  · simp only [Act.put, sx1, sx2, sx3, i64_w, i32_w]
    rfl
  refine pure_ (i := 28) (N := some 39) (v := ?_) (a' := ?_) #[tt, tt, tt, tt, tt, tt, tt, tt, tt, tt, tt, tt, tt, tt, tt, tt, tt, tt, tt, tt, tt, tt, tt, tt, tt, tt, tt, tt, tt, ff, ff, ff, ff, ff, ff, ff, ff] rfl rfl (by kernel_rfl) (hq71 (by decide)) (Or.inl ⟨by rfl, ?_⟩) ?_ ?_
  rotate_left
  · intro w'
    go_simp
    with_reducible rfl
  rotate_left
  · simp only [Act.put, sx1, sx2, sx3, i64_w, i32_w]
    rfl
  refine pure_ (i := 29) (N := some 40) (v := ?_) (a' := ?_) #[tt, tt, tt, tt, tt, tt, tt, tt, tt, tt, tt, tt, tt, tt, tt, tt, tt, tt, tt, tt, tt, tt, tt, tt, tt, tt, tt, tt, tt, tt, ff, ff, ff, ff, ff, ff, ff] rfl rfl (by kernel_rfl) (hq71 (by decide)) (Or.inl ⟨by rfl, ?_⟩) ?_ ?_
  rotate_left
  · intro w'
    go_simp
    with_reducible rfl
  rotate_left
  · simp only [Act.put, sx1, sx2, sx3, i64_w, i32_w]
    rfl
  refine pure_ (i := 30) (N := some 41) (v := ?_) (a' := ?_) #[tt, tt, tt, tt, tt, tt, tt, tt, tt, tt, tt, tt, tt, tt, tt, tt, tt, tt, tt, tt, tt, tt, tt, tt, tt, tt, tt, tt, tt, tt, tt, ff, ff, ff, ff, ff, ff] rfl rfl (by kernel_rfl) (hq71 (by decide)) (Or.inl ⟨by rfl, ?_⟩) ?_ ?_
  rotate_left
  · intro w'
    go_simp
    with_reducible rfl
  rotate_left
  · simp only [Act.put, sx1, sx2, sx3, i64_w, i32_w]
    rfl
  refine pure_ (i := 32) (N := some 43) (v := ?_) (a' := ?_) #[tt, tt, tt, tt, tt, tt, tt, tt, tt, tt, tt, tt, tt, tt, tt, tt, tt, tt, tt, tt, tt, tt, tt, tt, tt, tt, tt, tt, tt, tt, tt, ff, tt, ff, ff, ff, ff] rfl rfl (by kernel_rfl) (hq71 (by decide)) (Or.inl ⟨by rfl, ?_⟩) ?_ ?_
  rotate_left
  · intro w'
    go_simp
    with_reducible rfl
  rotate_left
  · simp only [Act.put, sx1, sx2, sx3, i64_w, i32_w]
    rfl
  refine pure_ (i := 33) (N := some 44) (v := ?_) (a' := ?_) #[tt, tt, tt, tt, tt, tt, tt, tt, tt, tt, tt, tt, tt, tt, tt, tt, tt, tt, tt, tt, tt, tt, tt, tt, tt, tt, tt, tt, tt, tt, tt, ff, tt, tt, ff, ff, ff] rfl rfl (by kernel_rfl) (hq71 (by decide)) (Or.inl ⟨by rfl, ?_⟩) ?_ ?_
  rotate_left
  · intro w'
    go_simp
    with_reducible rfl
  rotate_left
  · simp only [Act.put, sx1, sx2, sx3, i64_w, i32_w]
    rfl
  refine one_ (i := 31) (N := some 42) #[tt, tt, tt, tt, tt, tt, tt, tt, tt, tt, tt, tt, tt, tt, tt, tt, tt, tt, tt, tt, tt, tt, tt, tt, tt, tt, tt, tt, tt, tt, tt, tt, tt, tt, ff, ff, ff] rfl rfl (by kernel_rfl) (by decide) (fun K hK => ?_)
  refine goes_ Try.func83 (by kernel_rfl) rfl #[.slice A12 (n - 12) (c - 12)] (by rfl) rfl rfl (by simp only [List.map_toArray, List.map_cons, List.map_nil]; rfl) ?_
  with_reducible refine (four_N A12 (n - 12) (c - 12) (l.drop 12) _ _ (by rw [List.length_drop, HN.out]) (Nat.sub_le_sub_right HCC.out 12) (Kd.C_below HC12.out HV1.out) H12.out).mono ?_
  rintro e u2 ⟨rfl, hb⟩
  refine ⟨_, rfl, ?_⟩
  have HU2 := Aside0.mk (below_step HU1.out hb)
  have HV2 := Aside0.mk (below_step HV1.out hb)
  clear hb
  refine hK.out _ _ ⟨pw_cell_below HU2.out HB0.out, pw_cell_below HU2.out HB1.out, pw_cell_below HU2.out HB3.out⟩ (fun hHeld => ?_)
  clear hK K
  refine norm_ (a' := ?_) ?_ ?_
  rotate_left
  · show Act.put _ (some 42) _ = _
    simp only [Act.put, sx1, sx2, sx3, i64_w, i32_w]
    rfl
  refine one_ (i := 34) (N := some 45) #[tt, tt, tt, tt, tt, tt, tt, tt, tt, tt, tt, tt, tt, tt, tt, tt, tt, tt, tt, tt, tt, tt, tt, tt, tt, tt, tt, tt, tt, tt, tt, tt, tt, tt, tt, ff, ff] rfl rfl (by kernel_rfl) (by decide) (fun K hK => ?_)
  refine goes_ Try.func33 (by kernel_rfl) rfl #[.slice (some ad) 12 c] (by rfl) rfl rfl (by simp only [List.map_toArray, List.map_cons, List.map_nil]; rfl) ?_
  with_reducible refine (sum_N (some ad) 12 c (l.take 12) _ (by rw [List.length_take, HN.out]; have := H20.out; omega) (by have := H20.out; have := HCC.out; omega) (Kd.C_below HCT.out HV2.out) (bytesOk_take HOK.out 12)).mono ?_
  rintro e u3 ⟨rfl, hb⟩
  refine ⟨_, rfl, ?_⟩
  have HU3 := Aside0.mk (below_step HU2.out hb)
  have HV3 := Aside0.mk (below_step HV2.out hb)
  clear hb
  refine hK.out _ _ ⟨pw_cell_below HU3.out HB0.out, pw_cell_below HU3.out HB1.out, pw_cell_below HU3.out HB3.out⟩ (fun hHeld => ?_)
  clear hK K
  refine norm_ (a' := ?_) ?_ ?_
  rotate_left
  · show Act.put _ (some 45) _ = _
    simp only [Act.put, sx1, sx2, sx3, i64_w, i32_w]
    rfl
  refine pure_ (i := 35) (N := some 46) (v := ?_) (a' := ?_) #[tt, tt, tt, tt, tt, tt, tt, tt, tt, tt, tt, tt, tt, tt, tt, tt, tt, tt, tt, tt, tt, tt, tt, tt, tt, tt, tt, tt, tt, tt, tt, tt, tt, tt, tt, tt, ff] rfl rfl (by kernel_rfl) (hq71 (by decide)) (Or.inl ⟨by rfl, ?_⟩) ?_ ?_
  rotate_left
  · intro w'
    go_simp
    with_reducible rfl
  rotate_left
  · simp only [Act.put, sx1, sx2, sx3, i64_w, i32_w]
    rfl
  refine pure_ (i := 36) (N := some 47) (v := ?_) (a' := ?_) #[tt, tt, tt, tt, tt, tt, tt, tt, tt, tt, tt, tt, tt, tt, tt, tt, tt, tt, tt, tt, tt, tt, tt, tt, tt, tt, tt, tt, tt, tt, tt, tt, tt, tt, tt, tt, tt] rfl rfl (by kernel_rfl) (hq71 (by decide)) (Or.inl ⟨by rfl, ?_⟩) ?_ ?_
  rotate_left
  · intro w'
    go_simp
    with_reducible rfl
  rotate_left
  · simp only [Act.put, sx1, sx2, sx3, i64_w, i32_w]
    rfl
  refine done_ (by kernel_rfl) ?_
  obtain ⟨A16, hc16, hC16⟩ := cutf8 (A := some ad) (n := n) (c := c) (xs := l) (16 + m) (by have := H20.out; omega) HCC.out
  obtain ⟨ht16, hCt16⟩ := cutt8 (A := some ad) (n := n) (c := c) (xs := l) (16 + m) (by have := H20.out; omega) HCC.out
  obtain ⟨AM, hm16, hCm16⟩ := cutm8 (A := some ad) (n := n) (c := c) (xs := l) 16 (16 + m) (by omega) (by have := H20.out; omega) HCC.out
  have em : 16 + m - 16 = m := by omega
  rw [em] at hCm16
  have ecast : (((16 + m : Nat) : Int)) = 16 + (m : Int) := by omega
  have HC16 := Aside0.mk (hC16 w HC.out)
  have HCT16 := Aside0.mk (hCt16 w HC.out)
  have HCM := Aside0.mk (hCm16 w HC.out)
  replace hc16 : ∀ (W : World), (Instr.slice 29 (.slice (some ad) n c) (some (.int .i64 (16 + (m : Int)))) none none).run Try.prog W = .ok (.slice A16 (n - (16 + m)) (c - (16 + m))) W := fun W => by have := hc16 W; rwa [ecast] at this
  replace ht16 : ∀ (W : World), (Instr.slice 29 (.slice (some ad) n c) none (some (.int .i64 (16 + (m : Int)))) none).run Try.prog W = .ok (.slice (some ad) (16 + m) c) W := fun W => by have := ht16 W; rwa [ecast] at this
  replace hm16 : ∀ (W : World), (Instr.slice 29 (.slice (some ad) n c) (some (.int .i64 16)) (some (.int .i64 (16 + (m : Int)))) none).run Try.prog W = .ok (.slice AM m (c - 16)) W := fun W => by have := hm16 W; rw [ecast, em] at this; exact this
  clear em ecast hC16 hCt16 hCm16 hc4 hc12 ht12 hd20 hd21 c0 c1 c3
  have HP4 := Aside0.mk ((HU3.out.block p4 (blk_lt HP4.out)).trans HP4.out)
  have HP5 := Aside0.mk ((HU3.out.block p5 (blk_lt HP5.out)).trans HP5.out)
  have HP6 := Aside0.mk ((HU3.out.block p6 (blk_lt HP6.out)).trans HP6.out)
  clear HU1 HU2 HU3 HV1 HV2 HB HB0 HB1 HB3 hHeld HD
  go_wp2_with fail
  refine (four_N A8 (n - 8) (c - 8) (l.drop 8) (m : Int) _ (by rw [List.length_drop, HN.out]) (Nat.sub_le_sub_right HCC.out 8) (Kd.C_below HC8.out HV3.out) H8.out).mono ?_
  rintro e4 u4 ⟨rfl, hb⟩
  have HV4 := Aside0.mk (below_step HV3.out hb)
  have HP4 := Aside0.mk ((hb.block p4 (blk_lt HP4.out)).trans HP4.out)
  have HP5 := Aside0.mk ((hb.block p5 (blk_lt HP5.out)).trans HP5.out)
  have HP6 := Aside0.mk ((hb.block p6 (blk_lt HP6.out)).trans HP6.out)
  clear hb HV3 hc8
  have hmo : (n : Int) ≤ 1000000000000 := by have := HM.out; omega
  have hm0 : (m : Int) ≤ 1000000000000 := by have := HM.out; have := H20.out; omega
  have hq5 : decide ((n : Int) - 20 < (m : Int)) = false := decide_eq_false (by have := H20.out; omega)
  go_wp2_with fail
  have HQ2 := Aside0.mk (pw_cell_below (below_drew1 HV4.out) HB2.out)
  have HD := Aside0.mk (below_drew1 HV4.out)
  have c2 := HQ2.out
  have hw20 := wr_sub20 (n := n) (by have := H20.out; omega) HM.out
  have hw16 := wr_add16 (n := m) (by have := H20.out; have := HM.out; omega)
  refine start_ (n := 18) (S := fun w' => w'.cell? ⟨ad.block, ad.off + 2, none⟩ = some (.int .u8 kd)) (ds := []) #[ff, ff, ff, ff, ff, ff, ff, ff, ff, ff, ff, ff, ff, ff, ff, ff, ff, ff] (by kernel_rfl) rfl rfl (c2) (fun hHeld => ?_)
  refine pure_ (i := 0) (N := some 52) (v := ?_) (a' := ?_) #[tt, ff, ff, ff, ff, ff, ff, ff, ff, ff, ff, ff, ff, ff, ff, ff, ff, ff] rfl rfl (by kernel_rfl) (hq71 (by decide)) (Or.inl ⟨by rfl, ?_⟩) ?_ ?_
  rotate_left
  · intro w'
    go_simp
    with_reducible rfl
  rotate_left
  · simp only [Act.put, sx1, sx2, sx3, i64_w, i32_w]
    rfl
  refine pure_ (i := 1) (N := some 53) (v := ?_) (a' := ?_) #[tt, tt, ff, ff, ff, ff, ff, ff, ff, ff, ff, ff, ff, ff, ff, ff, ff, ff] rfl rfl (by kernel_rfl) (hq71 (by decide)) (Or.inl ⟨by rfl, ?_⟩) ?_ ?_
  rotate_left
  · intro w'
    go_simp
    with_reducible rfl
  rotate_left
  · simp only [Act.put, sx1, sx2, sx3, i64_w, i32_w]
    rfl
  refine pure_ (i := 2) (N := some 54) (v := ?_) (a' := ?_) #[tt, tt, tt, ff, ff, ff, ff, ff, ff, ff, ff, ff, ff, ff, ff, ff, ff, ff] rfl rfl (by kernel_rfl) (hq71 (by decide)) (Or.inl ⟨by rfl, ?_⟩) ?_ ?_
  rotate_left
  · intro w'
    go_simp
    with_reducible rfl
  rotate_left
  · simp only [Act.put, sx1, sx2, sx3, i64_w, i32_w]
    rfl
  refine pure_ (i := 3) (N := some 55) (v := ?_) (a' := ?_) #[tt, tt, tt, tt, ff, ff, ff, ff, ff, ff, ff, ff, ff, ff, ff, ff, ff, ff] rfl rfl (by kernel_rfl) (hq71 (by decide)) (Or.inl ⟨by rfl, ?_⟩) ?_ ?_
  rotate_left
  · intro w'
    go_simp
    with_reducible rfl
  rotate_left
  · simp only [Act.put, sx1, sx2, sx3, i64_w, i32_w]
    rfl
  refine pure_ (i := 4) (N := some 56) (v := ?_) (a' := ?_) #[tt, tt, tt, tt, tt, ff, ff, ff, ff, ff, ff, ff, ff, ff, ff, ff, ff, ff] rfl rfl (by kernel_rfl) (hq71 (by decide)) (Or.inl ⟨by rfl, ?_⟩) ?_ ?_
  rotate_left
  · intro w'
    go_simp
    with_reducible rfl
  rotate_left
  · simp only [Act.put, sx1, sx2, sx3, i64_w, i32_w]
    rfl
  refine pure_ (i := 5) (N := some 57) (v := ?_) (a' := ?_) #[tt, tt, tt, tt, tt, tt, ff, ff, ff, ff, ff, ff, ff, ff, ff, ff, ff, ff] rfl rfl (by kernel_rfl) (hq71 (by decide)) (Or.inl ⟨by rfl, ?_⟩) ?_ ?_
  rotate_left
  · intro w'
    go_simp
    with_reducible rfl
  rotate_left
  · simp only [Act.put, sx1, sx2, sx3, i64_w, i32_w]
    rfl
  refine pure_ (i := 6) (N := some 58) (v := ?_) (a' := ?_) #[tt, tt, tt, tt, tt, tt, tt, ff, ff, ff, ff, ff, ff, ff, ff, ff, ff, ff] rfl rfl (by kernel_rfl) (hq71 (by decide)) (Or.inl ⟨by rfl, ?_⟩) ?_ ?_
  rotate_left
  · intro w'
    go_simp
    with_reducible rfl
  rotate_left
  · simp only [Act.put, sx1, sx2, sx3, i64_w, i32_w]
    rfl
  refine pure_ (i := 7) (N := some 59) (v := ?_) (a' := ?_) #[tt, tt, tt, tt, tt, tt, tt, tt, ff, ff, ff, ff, ff, ff, ff, ff, ff, ff] rfl rfl (by kernel_rfl) (hq71 (by decide)) (Or.inl ⟨by rfl, ?_⟩) ?_ ?_
  rotate_left
  · intro w'
    go_simp
    with_reducible rfl
  rotate_left
  · simp only [Act.put, sx1, sx2, sx3, i64_w, i32_w]
    rfl
  refine pure_ (i := 8) (N := some 60) (v := ?_) (a' := ?_) #[tt, tt, tt, tt, tt, tt, tt, tt, tt, ff, ff, ff, ff, ff, ff, ff, ff, ff] rfl rfl (by kernel_rfl) (hq71 (by decide)) (Or.inl ⟨by rfl, ?_⟩) ?_ ?_
  rotate_left
  · intro w'
    go_simp
    with_reducible rfl
  rotate_left
  · simp only [Act.put, sx1, sx2, sx3, i64_w, i32_w]
    rfl
  refine pure_ (i := 9) (N := some 61) (v := ?_) (a' := ?_) #[tt, tt, tt, tt, tt, tt, tt, tt, tt, tt, ff, ff, ff, ff, ff, ff, ff, ff] rfl rfl (by kernel_rfl) (hq71 (by decide)) (Or.inl ⟨by rfl, ?_⟩) ?_ ?_
  rotate_left
  · intro w'
    go_simp
    with_reducible rfl
  rotate_left
  · simp only [Act.put, sx1, sx2, sx3, i64_w, i32_w]
    rfl
  refine pure_ (i := 11) (N := some 63) (v := ?_) (a' := ?_) #[tt, tt, tt, tt, tt, tt, tt, tt, tt, tt, ff, tt, ff, ff, ff, ff, ff, ff] rfl rfl (by kernel_rfl) (hq71 (by decide)) (Or.inl ⟨by rfl, ?_⟩) ?_ ?_
  rotate_left
  · intro w'
    go_simp
    with_reducible rfl
  rotate_left
  · simp only [Act.put, sx1, sx2, sx3, i64_w, i32_w]
    rfl
  refine pure_ (i := 12) (N := some 64) (v := ?_) (a' := ?_) #[tt, tt, tt, tt, tt, tt, tt, tt, tt, tt, ff, tt, tt, ff, ff, ff, ff, ff] rfl rfl (by kernel_rfl) (hq71 (by decide)) (Or.inl ⟨by rfl, ?_⟩) ?_ ?_
  rotate_left
  · intro w'
    go_simp
    with_reducible rfl
  rotate_left
  · simp only [Act.put, sx1, sx2, sx3, i64_w, i32_w]
    rfl
  refine pure_ (i := 13) (N := some 65) (v := ?_) (a' := ?_) #[tt, tt, tt, tt, tt, tt, tt, tt, tt, tt, ff, tt, tt, tt, ff, ff, ff, ff] rfl rfl (by kernel_rfl) (hq71 (by decide)) (Or.inl ⟨by rfl, ?_⟩) ?_ ?_
  rotate_left
  · intro w'
    go_simp
    with_reducible rfl
  rotate_left
  · simp only [Act.put, sx1, sx2, sx3, i64_w, i32_w]
    rfl
  refine pure_ (i := 14) (N := some 66) (v := ?_) (a' := ?_) #[tt, tt, tt, tt, tt, tt, tt, tt, tt, tt, ff, tt, tt, tt, tt, ff, ff, ff] rfl rfl (by kernel_rfl) (hq71 (by decide)) (Or.inl ⟨by rfl, ?_⟩) ?_ ?_
  rotate_left
  · intro w'
    go_simp
    with_reducible rfl
  rotate_left
  · simp only [Act.put, sx1, sx2, sx3, i64_w, i32_w]
    rfl
  refine one_ (i := 10) (N := some 62) #[tt, tt, tt, tt, tt, tt, tt, tt, tt, tt, tt, tt, tt, tt, tt, ff, ff, ff] rfl rfl (by kernel_rfl) (by decide) (fun K hK => ?_)
  refine goes_ Try.func83 (by kernel_rfl) rfl #[.slice A16 (n - (16 + m)) (c - (16 + m))] (by rfl) rfl rfl (by simp only [List.map_toArray, List.map_cons, List.map_nil]; rfl) ?_
  with_reducible refine (four_N A16 (n - (16 + m)) (c - (16 + m)) (l.drop (16 + m)) _ _ (by rw [List.length_drop, HN.out]) (Nat.sub_le_sub_right HCC.out _) (Kd.C_below HC16.out HD.out) H16.out).mono ?_
  rintro e u5 ⟨rfl, hb⟩
  refine ⟨_, rfl, ?_⟩
  have HU5 := Aside0.mk hb
  have HV5 := Aside0.mk (below_step HD.out hb)
  clear hb
  refine hK.out _ _ (pw_cell_below HU5.out HQ2.out) (fun hHeld => ?_)
  clear hK K
  refine norm_ (a' := ?_) ?_ ?_
  rotate_left
  · show Act.put _ (some 62) _ = _
    simp only [Act.put, sx1, sx2, sx3, i64_w, i32_w]
    rfl
  refine one_ (i := 15) (N := some 67) #[tt, tt, tt, tt, tt, tt, tt, tt, tt, tt, tt, tt, tt, tt, tt, tt, ff, ff] rfl rfl (by kernel_rfl) (by decide) (fun K hK => ?_)
  refine goes_ Try.func33 (by kernel_rfl) rfl #[.slice (some ad) (16 + m) c] (by rfl) rfl rfl (by simp only [List.map_toArray, List.map_cons, List.map_nil]; rfl) ?_
  with_reducible refine (sum_N (some ad) (16 + m) c (l.take (16 + m)) _ (by rw [List.length_take, HN.out]; have := H20.out; omega) (by have := H20.out; have := HCC.out; omega) (Kd.C_below HCT16.out HV5.out) (bytesOk_take HOK.out _)).mono ?_
  rintro e u6 ⟨rfl, hb⟩
  refine ⟨_, rfl, ?_⟩
  have HU6 := Aside0.mk (below_step HU5.out hb)
  have HV6 := Aside0.mk (below_step HV5.out hb)
  clear hb
  refine hK.out _ _ (pw_cell_below HU6.out HQ2.out) (fun hHeld => ?_)
  clear hK K
  refine norm_ (a' := ?_) ?_ ?_
  rotate_left
  · show Act.put _ (some 67) _ = _
    simp only [Act.put, sx1, sx2, sx3, i64_w, i32_w]
    rfl
  refine pure_ (i := 16) (N := some 68) (v := ?_) (a' := ?_) #[tt, tt, tt, tt, tt, tt, tt, tt, tt, tt, tt, tt, tt, tt, tt, tt, tt, ff] rfl rfl (by kernel_rfl) (hq71 (by decide)) (Or.inl ⟨by rfl, ?_⟩) ?_ ?_
  rotate_left
  · intro w'
    go_simp
    with_reducible rfl
  rotate_left
  · simp only [Act.put, sx1, sx2, sx3, i64_w, i32_w]
    rfl
  refine pure_ (i := 17) (N := some 69) (v := ?_) (a' := ?_) #[tt, tt, tt, tt, tt, tt, tt, tt, tt, tt, tt, tt, tt, tt, tt, tt, tt, tt] rfl rfl (by kernel_rfl) (hq71 (by decide)) (Or.inl ⟨by rfl, ?_⟩) ?_ ?_
  rotate_left
  · intro w'
    go_simp
    with_reducible rfl
  rotate_left
  · simp only [Act.put, sx1, sx2, sx3, i64_w, i32_w]
    rfl
  refine done_ (by kernel_rfl) ?_
  have HP4 := Aside0.mk ((HU6.out.block p4 (blk_lt HP4.out)).trans HP4.out)
  have HP5 := Aside0.mk ((HU6.out.block p5 (blk_lt HP5.out)).trans HP5.out)
  have HP6 := Aside0.mk ((HU6.out.block p6 (blk_lt HP6.out)).trans HP6.out)
  clear HU5 HU6 HV5 HD hHeld hc16 ht16 hq5 c2 HQ2 HV4
  go_wp2_with fail
  have HQ2 := Aside0.mk (pw_cell_below (below_drew1 HV6.out) HB2.out)
  have HD := Aside0.mk (below_drew1 HV6.out)
  have c2 := HQ2.out
  have hkd := HKD.out
  refine start_ (n := 12) (S := fun w' => w'.cell? ⟨ad.block, ad.off + 2, none⟩ = some (.int .u8 kd)) (ds := [11]) #[ff, ff, ff, ff, ff, ff, ff, ff, ff, ff, ff, ff] (by kernel_rfl) rfl rfl (c2) (fun hHeld => ?_)
  refine pure_ (i := 0) (N := some 71) (v := ?_) (a' := ?_) #[tt, ff, ff, ff, ff, ff, ff, ff, ff, ff, ff, ff] rfl rfl (by kernel_rfl) (hq71a (by decide)) (Or.inl ⟨by rfl, ?_⟩) ?_ ?_
  rotate_left
  · intro w'
    go_simp
    with_reducible rfl
  rotate_left
  · simp only [Act.put, sx1, sx2, sx3, i64_w, i32_w]
    rfl
  refine pure_ (i := 1) (N := some 72) (v := ?_) (a' := ?_) #[tt, tt, ff, ff, ff, ff, ff, ff, ff, ff, ff, ff] rfl rfl (by kernel_rfl) (hq71a (by decide)) (Or.inl ⟨by rfl, ?_⟩) ?_ ?_
  rotate_left
  · intro w'
    go_simp
    with_reducible rfl
  rotate_left
  · simp only [Act.put, sx1, sx2, sx3, i64_w, i32_w]
    rfl
  refine pure_ (i := 2) (N := some 73) (v := ?_) (a' := ?_) #[tt, tt, tt, ff, ff, ff, ff, ff, ff, ff, ff, ff] rfl rfl (by kernel_rfl) (hq71a (by decide)) (Or.inl ⟨by rfl, ?_⟩) ?_ ?_
  rotate_left
  · intro w'
    go_simp
    with_reducible rfl
  rotate_left
  · simp only [Act.put, sx1, sx2, sx3, i64_w, i32_w]
    rfl
  refine pure_ (i := 3) (N := some 74) (v := ?_) (a' := ?_) #[tt, tt, tt, tt, ff, ff, ff, ff, ff, ff, ff, ff] rfl rfl (by kernel_rfl) (hq71a (by decide)) (Or.inl ⟨by rfl, ?_⟩) ?_ ?_
  rotate_left
  · intro w'
    go_simp
    with_reducible rfl
  rotate_left
  · simp only [Act.put, sx1, sx2, sx3, i64_w, i32_w]
    rfl
  refine pure_ (i := 4) (N := some 75) (v := ?_) (a' := ?_) #[tt, tt, tt, tt, tt, ff, ff, ff, ff, ff, ff, ff] rfl rfl (by kernel_rfl) (hq71a (by decide)) (Or.inl ⟨by rfl, ?_⟩) ?_ ?_
  rotate_left
  · intro w'
    go_simp
    with_reducible rfl
  rotate_left
  · simp only [Act.put, sx1, sx2, sx3, i64_w, i32_w]
    rfl
  refine pure_ (i := 6) (N := some 77) (v := ?_) (a' := ?_) #[tt, tt, tt, tt, tt, ff, tt, ff, ff, ff, ff, ff] rfl rfl (by kernel_rfl) (hq71a (by decide)) (Or.inl ⟨by rfl, ?_⟩) ?_ ?_
  rotate_left
  · intro w'
    go_simp
    with_reducible rfl
  rotate_left
  · simp only [Act.put, sx1, sx2, sx3, i64_w, i32_w]
    rfl
  refine pure_ (i := 7) (N := some 78) (v := ?_) (a' := ?_) #[tt, tt, tt, tt, tt, ff, tt, tt, ff, ff, ff, ff] rfl rfl (by kernel_rfl) (hq71a (by decide)) (Or.inl ⟨by rfl, ?_⟩) ?_ ?_
  rotate_left
  · intro w'
    go_simp
    with_reducible rfl
  rotate_left
  · simp only [Act.put, sx1, sx2, sx3, i64_w, i32_w]
    rfl
  refine take_ (i := 8) (N := some 79) (v := ?_) (a' := ?_) #[tt, tt, tt, tt, tt, ff, tt, tt, tt, ff, ff, ff] rfl rfl (by kernel_rfl) (hq71a (by decide)) (Or.inl ⟨by rfl, ?_⟩) hHeld ?_ ?_
  rotate_left
  · intro w' s0
    go_simp
    with_reducible rfl
  rotate_left
  · simp only [Act.put, sx1, sx2, sx3, i64_w, i32_w]
    rfl
  refine pure_ (i := 9) (N := some 80) (v := ?_) (a' := ?_) #[tt, tt, tt, tt, tt, ff, tt, tt, tt, tt, ff, ff] rfl rfl (by kernel_rfl) (hq71a (by decide)) (Or.inl ⟨by rfl, ?_⟩) ?_ ?_
  rotate_left
  · intro w'
    go_simp
    with_reducible rfl
  rotate_left
  · simp only [Act.put, sx1, sx2, sx3, i64_w, i32_w]
    rfl
  refine one_ (i := 5) (N := some 76) #[tt, tt, tt, tt, tt, tt, tt, tt, tt, tt, ff, ff] rfl rfl (by kernel_rfl) (by decide) (fun K hK => ?_)
  refine value_ (w1 := ?_) (v := ?_) (by rfl) rfl ?_ ?_
  rotate_left 2
  · go_simp
    constructor
    · rfl
    · rfl
  obtain ⟨rb, hrb⟩ : ∃ rb, rb = u6.heap.size := ⟨_, rfl⟩
  obtain ⟨u7, hu7⟩ : ∃ u7, u7 = (u6.alloc (.cells #[.slice AM m (c - 16), .int .i64 0] 147)).drew := ⟨_, rfl⟩
  rw [← hu7, ← hrb]
  have HU7 := Aside0.mk (show Below u6.heap.size u6 u7 by rw [hu7]; exact below_drew1 (below_alloc (Below.refl _ _) _))
  have HV7 := Aside0.mk (below_step HV6.out HU7.out)
  have HRB := Aside0.mk (show u7.heap[rb]? = some (.cells #[.slice AM m (c - 16), .int .i64 0] 147 (0, 0)) by rw [hu7, hrb]; exact heap_alloc_new u6 _)
  have HRW := Aside0.mk (show w.heap.size ≤ rb by rw [hrb]; exact HV6.out.size)
  have HRN := Aside0.mk (show p4 ≠ rb ∧ p5 ≠ rb ∧ p6 ≠ rb by have := blk_lt HP4.out; have := blk_lt HP5.out; have := blk_lt HP6.out; omega)
  have HP4 := Aside0.mk ((HU7.out.block p4 (blk_lt HP4.out)).trans HP4.out)
  have HP5 := Aside0.mk ((HU7.out.block p5 (blk_lt HP5.out)).trans HP5.out)
  have HP6 := Aside0.mk ((HU7.out.block p6 (blk_lt HP6.out)).trans HP6.out)
  clear hrb hu7
  refine hK.out _ _ (pw_cell_below HV7.out HB2.out) (fun hHeld => ?_)
  clear hK K
  refine norm_ (a' := ?_) ?_ ?_
  rotate_left
  · show Act.put _ (some 76) _ = _
    simp only [Act.put, sx1, sx2, sx3, i64_w, i32_w]
    rfl
  refine one_ (i := 10) (N := some 81) #[tt, tt, tt, tt, tt, tt, tt, tt, tt, tt, tt, ff] rfl rfl (by kernel_rfl) (by decide) (fun K hK => ?_)
  refine goes_ Try.func84 (by kernel_rfl) rfl #[.pointer (some ⟨rb, 0, none⟩), .int .i64 (wrap64 kd)] (by rfl) rfl rfl (by simp only [List.map_toArray, List.map_cons, List.map_nil]; rfl) ?_
  rw [HKD.out]
  with_reducible refine (HREC.out u7 rb AM (c - 16) HV7.out HRW.out (by have := HCC.out; have := H20.out; omega) HRB.out HCM.out).mono ?_
  rintro e u8 ⟨B, nb, cb, rfl, hl2, hr2, hb⟩
  refine ⟨_, rfl, ?_⟩
  have HL2 := Aside0.mk hl2
  have HR2 := Aside0.mk (Kd.R_lower hr2 HV7.out.size)
  have HV8 := Aside0.mk (below_frm HV7.out hb (N := w.heap.size) (fun k hk => by rw [hk]; exact HRW.out) (Nat.le_refl _))
  have HP4 := Aside0.mk (hb.blk HP4.out HRN.out.1)
  have HP5 := Aside0.mk (hb.blk HP5.out HRN.out.2.1)
  have HP6 := Aside0.mk (hb.blk HP6.out HRN.out.2.2)
  clear hl2 hr2 hb
  refine hK.out _ _ (pw_cell_below HV8.out HB2.out) (fun hHeld => ?_)
  clear hK K
  refine norm_ (a' := ?_) ?_ ?_
  rotate_left
  · show Act.put _ (some 81) _ = _
    simp only [Act.put, sx1, sx2, sx3, i64_w, i32_w]
    rfl
  refine last_ (i := 11) (N := none) #[tt, tt, tt, tt, tt, tt, tt, tt, tt, tt, tt, tt] rfl rfl (by kernel_rfl) (by decide) (fun K hK => ?_)
  refine store_arm 28 _ _ rfl (by rfl) rfl (q := p4) (i := 0) (cur' := recCells kd s v k se rq B nb cb vn vp vb st of x) (recCells kd s v k se rq B nb cb vn vp vb st of x).toList rfl rfl rfl (by kernel_rfl) (by intro u hu; simp at hu; rcases hu with rfl | rfl | rfl | rfl | rfl | rfl | rfl | rfl | rfl | rfl | rfl | rfl | rfl <;> rfl) HP4.out (by simp) rfl ?_
  intro u9 hp9 hg9
  refine hK.out _ _ ?_
  clear hK K
  refine done_ (by kernel_rfl) ?_
  have HP9 := Aside0.mk hp9
  have HV9 := Aside0.mk (HV8.out.grown hg9 HV8.out.size (fun k e => by cases e; exact HPW.out.1))
  have HP5 := Aside0.mk ((hg9.block p5 (blk_lt HP5.out) (fun e => by have := HPW.out; have := Option.some.inj e; omega)).trans HP5.out)
  have HP6 := Aside0.mk ((hg9.block p6 (blk_lt HP6.out) (fun e => by have := HPW.out; have := Option.some.inj e; omega)).trans HP6.out)
  have HR9 := Aside0.mk (R40_other HR2.out HP4.out hg9)
  clear hHeld hm16 c2 HQ2 HV6 HV7 HV8 hp9 hg9 HR2 HRB HD
  have m0 := (blk_cell HP9.out 0).trans rfl
  have m1 := (blk_cell HP9.out 1).trans rfl
  have m2 := (blk_cell HP9.out 2).trans rfl
  have m3 := (blk_cell HP9.out 3).trans rfl
  have m4 := (blk_cell HP9.out 4).trans rfl
  have m5 := (blk_cell HP9.out 5).trans rfl
  have m6 := (blk_cell HP9.out 6).trans rfl
  have m7 := (blk_cell HP9.out 7).trans rfl
  have m8 := (blk_cell HP9.out 8).trans rfl
  have m9 := (blk_cell HP9.out 9).trans rfl
  have m10 := (blk_cell HP9.out 10).trans rfl
  have m11 := (blk_cell HP9.out 11).trans rfl
  have m12 := (blk_cell HP9.out 12).trans rfl
  go_wp2_with fail
  refine (encode_C sq kd s v k se rq B cb nb l2 vn vp vb st of x u9 HL2.out (R40_C HR9.out) (by obtain ⟨A2, n2, c2, e2, _, h2, _⟩ := R40_form HR9.out; cases e2; exact h2) r1 0 HE.out).mono ?_
  rintro e w10 ⟨V, rfl, _, hb⟩
  have HPA := Aside0.mk ((hb.block p4 (blk_lt HP9.out)).trans HP9.out)
  have HP5 := Aside0.mk ((hb.block p5 (blk_lt HP5.out)).trans HP5.out)
  have HP6 := Aside0.mk ((hb.block p6 (blk_lt HP6.out)).trans HP6.out)
  have HVA := Aside0.mk (below_step HV9.out hb)
  have HRA := Aside0.mk (Kd.R_below HR9.out hb)
  clear hb HV9 HR9 HP9 m0 m1 m2 m3 m4 m5 m6 m7 m8 m9 m10 m11 m12
  have m0 := (blk_cell HPA.out 0).trans rfl
  have m1 := (blk_cell HPA.out 1).trans rfl
  have m2 := (blk_cell HPA.out 2).trans rfl
  have m3 := (blk_cell HPA.out 3).trans rfl
  have m4 := (blk_cell HPA.out 4).trans rfl
  have m5 := (blk_cell HPA.out 5).trans rfl
  have m6 := (blk_cell HPA.out 6).trans rfl
  have m7 := (blk_cell HPA.out 7).trans rfl
  have m8 := (blk_cell HPA.out 8).trans rfl
  have m9 := (blk_cell HPA.out 9).trans rfl
  have m10 := (blk_cell HPA.out 10).trans rfl
  have m11 := (blk_cell HPA.out 11).trans rfl
  have m12 := (blk_cell HPA.out 12).trans rfl
  go_wp2_with (with_reducible refine stop_store rfl ?_)
  refine store_blk rfl rfl 28 _ _ rfl (q := p4) (i := 0) (cur' := recCells kd s v k se rq B nb cb vn vp vb st of x) (recCells kd s v k se rq B nb cb vn vp vb st of x).toList rfl rfl rfl (by kernel_rfl) (by intro u hu; simp at hu; rcases hu with rfl | rfl | rfl | rfl | rfl | rfl | rfl | rfl | rfl | rfl | rfl | rfl | rfl <;> rfl) HPA.out (by simp) rfl ?_
  intro w11 hpb hgb
  have HPB := Aside0.mk hpb
  have HVB := Aside0.mk (HVA.out.grown hgb HVA.out.size (fun k e => by cases e; exact HPW.out.1))
  have HP5 := Aside0.mk ((hgb.block p5 (blk_lt HP5.out) (fun e => by have := HPW.out; have := Option.some.inj e; omega)).trans HP5.out)
  have HP6 := Aside0.mk ((hgb.block p6 (blk_lt HP6.out) (fun e => by have := HPW.out; have := Option.some.inj e; omega)).trans HP6.out)
  have HRB2 := Aside0.mk (R40_other HRA.out HPA.out hgb)
  clear hpb hgb HVA HRA HPA m0 m1 m2 m3 m4 m5 m6 m7 m8 m9 m10 m11 m12
  have n5 := (blk_cell HP5.out 0).trans rfl
  have f5 := blk_frozen HP5.out 0
  have n6 := (blk_cell HP6.out 0).trans rfl
  have f6 := blk_frozen HP6.out 0
  have HN56 := Aside0.mk (show p5 ≠ p6 by have := HPW.out; omega)
  have hne := HN56.out
  have hw := wr_add20 (n := m) (by have := H20.out; have := HM.out; omega)
  go_wp2_with fail
  clear hw hne n5 n6 f5 f6
  obtain ⟨wy, hwy⟩ : ∃ wy, wy = w11.setCell ⟨p5, 0, none⟩ (.int .i64 ((m : Int) + 20)) := ⟨_, rfl⟩
  obtain ⟨wz, hwz⟩ : ∃ wz, wz = wy.setCell ⟨p6, 0, none⟩ (.bool true) := ⟨_, rfl⟩
  rw [← hwy, ← hwz]
  have k4 : wz.heap[p4]? = some (.cells (recCells kd s v k se rq B nb cb vn vp vb st of x) 28 (0, 0)) := by
    have := HPW.out
    rw [hwz, Below.heap_setCell wy _ _ p4 (by simp only; omega), hwy, Below.heap_setCell w11 _ _ p4 (by simp only; omega)]
    exact HPB.out
  have k6 : wy.heap[p6]? = some (.cells #[.bool false] 4 (0, 0)) := by
    have := HPW.out
    rw [hwy, Below.heap_setCell w11 _ _ p6 (by simp only; omega)]
    exact HP6.out
  have c5 : wz.cell? ⟨p5, 0, none⟩ = some (.int .i64 ((m : Int) + 20)) := by
    have hy : wy.cell? ⟨p5, 0, none⟩ = some (.int .i64 ((m : Int) + 20)) := by rw [hwy]; exact World.cell?_setCell_same' _ _ _ (by rw [blk_cell HP5.out 0]; rfl)
    have := HPW.out
    have he : wz.heap[p5]? = wy.heap[p5]? := by rw [hwz, Below.heap_setCell wy _ _ p5 (by simp only; omega)]
    simp only [World.cell?, he] at hy ⊢
    exact hy
  have c6 : wz.cell? ⟨p6, 0, none⟩ = some (.bool true) := by rw [hwz]; exact World.cell?_setCell_same' _ _ _ (by rw [blk_cell k6 0]; rfl)
  have hR : R40 wz w.heap.size (.slice B nb cb) l2 := by
    have hy1 : R40 wy w.heap.size (.slice B nb cb) l2 := by rw [hwy]; exact Kd.R_set HRB2.out HP5.out (fun t ht => by rw [k40_only ht]; decide) 0 _
    rw [hwz]
    exact Kd.R_set hy1 k6 (fun t ht => by rw [k40_only ht]; decide) 0 _
  have hBZ : Below w.heap.size w wz := by
    rw [hwz, hwy]
    exact (HVB.out.setCell (p := ⟨p5, 0, none⟩) (by have := HPW.out; simp only; omega) _).setCell (p := ⟨p6, 0, none⟩) (by have := HPW.out; simp only; omega) _
  exact door71 rfl (results71_row _ _ p4 p5 p6 _ _ _ rfl rfl rfl k4 rfl c5 c6) ⟨B, nb, cb, rfl, HL2.out, hR, hBZ⟩
end Go.Proofs.Ytdbniihjkiecbaa.PW
namespace Go.Proofs.Ytdbniihjkiecbaa.PW
open Go.RowKit Go.Proofs.YtdbniihjkiecbaaW.PrintWords Go.Proofs.YtdbniihjkiecbaaW.PrintLast Go.Proofs.YtdbniihjkiecbaaW.PrintMore
set_option linter.unusedVariables false
set_option linter.unusedSimpArgs false

abbrev zeroCells13 : Array Value := recCells 0 0 0 0 0 0 none 0 0 0 0 0 0 0 ⟨#[]⟩
set_option maxHeartbeats 16000000 in
set_option maxRecDepth 100000 in
theorem read_short (w : World) (A : Option Addr) (n c : Nat) (sq : Int) (h20 : n < 20) :
    Calls Try.prog 71 #[.slice A n c, .int .i64 sq] w fun e w' => e = .returned (.tuple #[zeroRec, .int .i64 0, .bool false]) ∧ Below w.heap.size w w' := by
  have hu28 := Try.underlying28
  have hu26 := Try.underlying26
  have hu24 := Try.underlying24
  have hmf : ∀ (fn : Fn) (first cap : Array Value) (w : World), (Instr.makeFunc fn first cap).run Try.prog w = .ok (.func fn first cap) w := fun _ _ _ _ => rfl
  have hd20 : decide ((n : Int) < 20) = true := decide_eq_true (by omega)
  have hd21 : decide (n < 20) = true := decide_eq_true (by omega)
  have H20 := Aside0.mk h20
  clear h20
  go_enter_defers Try.func71, Try.ntmps71
  go_wp2_with fail
  obtain ⟨p4, hp4⟩ : ∃ p4, p4 = w.heap.size := ⟨_, rfl⟩
  obtain ⟨p5, hp5⟩ : ∃ p5, p5 = w.heap.size + 1 := ⟨_, rfl⟩
  obtain ⟨p6, hp6⟩ : ∃ p6, p6 = w.heap.size + 1 + 1 := ⟨_, rfl⟩
  obtain ⟨wa, hwa⟩ : ∃ wa, wa = w.alloc (.cells #[.int .i64 0, .int .i64 0, .int .i64 0, .int .i64 0, .int .i64 0, .int .i64 0, .slice none 0 0, .int .i64 0, .int .i64 0, .int .i64 0, .int .i64 0, .int .i64 0, .string ⟨#[]⟩] 28) := ⟨_, rfl⟩
  obtain ⟨wb, hwb⟩ : ∃ wb, wb = wa.alloc (.cells #[.int .i64 0] 3) := ⟨_, rfl⟩
  obtain ⟨wc, hwc⟩ : ∃ wc, wc = wb.alloc (.cells #[.bool false] 4) := ⟨_, rfl⟩
  rw [← hwa, ← hwb, ← hwc, ← hp6, ← hp5, ← hp4]
  have hza : wa.heap.size = w.heap.size + 1 := by rw [hwa]; simp
  have hzb : wb.heap.size = w.heap.size + 1 + 1 := by rw [hwb, ← hza]; simp
  have hba : Below wa.heap.size wa wb := by rw [hwb]; exact below_alloc (Below.refl _ _) _
  have hbb : Below wb.heap.size wb wc := by rw [hwc]; exact below_alloc (Below.refl _ _) _
  have HB := Aside0.mk (show Below w.heap.size w wc from below_step (below_step (by rw [hwa]; exact below_alloc (Below.refl _ _) _) hba) hbb)
  have HP4 := Aside0.mk (show wc.heap[p4]? = some (.cells #[.int .i64 0, .int .i64 0, .int .i64 0, .int .i64 0, .int .i64 0, .int .i64 0, .slice none 0 0, .int .i64 0, .int .i64 0, .int .i64 0, .int .i64 0, .int .i64 0, .string ⟨#[]⟩] 28 (0, 0)) by
    refine (hbb.block p4 (by omega)).trans ((hba.block p4 (by omega)).trans ?_)
    rw [hwa, hp4]; exact heap_alloc_new w _)
  have HP5 := Aside0.mk (show wc.heap[p5]? = some (.cells #[.int .i64 0] 3 (0, 0)) by
    refine (hbb.block p5 (by omega)).trans ?_
    rw [hwb, hp5, ← hza]; exact heap_alloc_new wa _)
  have HP6 := Aside0.mk (show wc.heap[p6]? = some (.cells #[.bool false] 4 (0, 0)) by rw [hwc, hp6, ← hzb]; exact heap_alloc_new wb _)
  have HPW := Aside0.mk (show w.heap.size ≤ p4 ∧ p4 < p5 ∧ p5 < p6 by omega)
  clear hp4 hp5 hp6 hwa hwb hwc hza hzb hba hbb
  refine start_ (n := 37) (S := fun w' => True) (ds := []) #[ff, ff, ff, ff, ff, ff, ff, ff, ff, ff, ff, ff, ff, ff, ff, ff, ff, ff, ff, ff, ff, ff, ff, ff, ff, ff, ff, ff, ff, ff, ff, ff, ff, ff, ff, ff, ff] (by kernel_rfl) rfl rfl trivial (fun hHeld => ?_)
  refine pure_ (i := 0) (N := some 11) (v := ?_) (a' := ?_) #[tt, ff, ff, ff, ff, ff, ff, ff, ff, ff, ff, ff, ff, ff, ff, ff, ff, ff, ff, ff, ff, ff, ff, ff, ff, ff, ff, ff, ff, ff, ff, ff, ff, ff, ff, ff, ff] rfl rfl (by kernel_rfl) (hq71 (by decide)) (Or.inl ⟨by rfl, ?_⟩) ?_ ?_
  rotate_left
  · intro w'
    go_simp
    with_reducible rfl
  rotate_left
  · simp only [Act.put, sx1, sx2, sx3, i64_w, i32_w]
    rfl
  refine pure_ (i := 1) (N := some 12) (v := ?_) (a' := ?_) #[tt, tt, ff, ff, ff, ff, ff, ff, ff, ff, ff, ff, ff, ff, ff, ff, ff, ff, ff, ff, ff, ff, ff, ff, ff, ff, ff, ff, ff, ff, ff, ff, ff, ff, ff, ff, ff] rfl rfl (by kernel_rfl) (hq71 (by decide)) (Or.inl ⟨by rfl, ?_⟩) ?_ ?_
  rotate_left
  · intro w'
    go_simp
    with_reducible rfl
  rotate_left
  · simp only [Act.put, sx1, sx2, sx3, i64_w, i32_w]
    rfl
  refine pure_ (i := 2) (N := some 13) (v := ?_) (a' := ?_) #[tt, tt, tt, ff, ff, ff, ff, ff, ff, ff, ff, ff, ff, ff, ff, ff, ff, ff, ff, ff, ff, ff, ff, ff, ff, ff, ff, ff, ff, ff, ff, ff, ff, ff, ff, ff, ff] rfl rfl (by kernel_rfl) (hq71 (by decide)) (Or.inl ⟨by rfl, ?_⟩) ?_ ?_
  rotate_left
  · intro w'
    go_simp
    with_reducible rfl
  rotate_left
  · simp only [Act.put, sx1, sx2, sx3, i64_w, i32_w]
    rfl
  refine pure_ (i := 3) (N := some 14) (v := ?_) (a' := ?_) #[tt, tt, tt, tt, ff, ff, ff, ff, ff, ff, ff, ff, ff, ff, ff, ff, ff, ff, ff, ff, ff, ff, ff, ff, ff, ff, ff, ff, ff, ff, ff, ff, ff, ff, ff, ff, ff] rfl rfl (by kernel_rfl) (hq71 (by decide)) (Or.inl ⟨by rfl, ?_⟩) ?_ ?_
  rotate_left
  · intro w'
    go_simp
    with_reducible rfl
  rotate_left
  · simp only [Act.put, sx1, sx2, sx3, i64_w, i32_w]
    rfl
  refine pure_ (i := 4) (N := some 15) (v := undef) (a' := ?_) #[tt, tt, tt, tt, tt, ff, ff, ff, ff, ff, ff, ff, ff, ff, ff, ff, ff, ff, ff, ff, ff, ff, ff, ff, ff, ff, ff, ff, ff, ff, ff, ff, ff, ff, ff, ff, ff] rfl rfl (by kernel_rfl) (hq71 (by decide)) (Or.inr ⟨by rfl, rfl⟩) ?_ ?_
  rotate_left
  · simp only [Act.put, sx1, sx2, sx3, i64_w, i32_w]
    rfl
  refine pure_ (i := 5) (N := some 16) (v := undef) (a' := ?_) #[tt, tt, tt, tt, tt, tt, ff, ff, ff, ff, ff, ff, ff, ff, ff, ff, ff, ff, ff, ff, ff, ff, ff, ff, ff, ff, ff, ff, ff, ff, ff, ff, ff, ff, ff, ff, ff] rfl rfl (by kernel_rfl) (hq71 (by decide)) (Or.inr ⟨by rfl, rfl⟩) ?_ ?_
  rotate_left
  · simp only [Act.put, sx1, sx2, sx3, i64_w, i32_w]
    rfl
  refine pure_ (i := 6) (N := some 17) (v := undef) (a' := ?_) #[tt, tt, tt, tt, tt, tt, tt, ff, ff, ff, ff, ff, ff, ff, ff, ff, ff, ff, ff, ff, ff, ff, ff, ff, ff, ff, ff, ff, ff, ff, ff, ff, ff, ff, ff, ff, ff] rfl rfl (by kernel_rfl) (hq71 (by decide)) (Or.inr ⟨by rfl, rfl⟩) ?_ ?_
  rotate_left
  · simp only [Act.put, sx1, sx2, sx3, i64_w, i32_w]
    rfl
  refine pure_ (i := 7) (N := some 18) (v := undef) (a' := ?_) #[tt, tt, tt, tt, tt, tt, tt, tt, ff, ff, ff, ff, ff, ff, ff, ff, ff, ff, ff, ff, ff, ff, ff, ff, ff, ff, ff, ff, ff, ff, ff, ff, ff, ff, ff, ff, ff] rfl rfl (by kernel_rfl) (hq71 (by decide)) (Or.inr ⟨by rfl, rfl⟩) ?_ ?_
  rotate_left
  · simp only [Act.put, sx1, sx2, sx3, i64_w, i32_w]
    rfl
  refine pure_ (i := 8) (N := some 19) (v := ?_) (a' := ?_) #[tt, tt, tt, tt, tt, tt, tt, tt, tt, ff, ff, ff, ff, ff, ff, ff, ff, ff, ff, ff, ff, ff, ff, ff, ff, ff, ff, ff, ff, ff, ff, ff, ff, ff, ff, ff, ff] rfl rfl (by kernel_rfl) (hq71 (by decide)) (Or.inl ⟨by rfl, ?_⟩) ?_ ?_
  rotate_left
  · intro w'
    go_simp
    with_reducible rfl
  rotate_left
  · simp only [Act.put, sx1, sx2, sx3, i64_w, i32_w]
    rfl
  refine pure_ (i := 9) (N := some 20) (v := ?_) (a' := ?_) #[tt, tt, tt, tt, tt, tt, tt, tt, tt, tt, ff, ff, ff, ff, ff, ff, ff, ff, ff, ff, ff, ff, ff, ff, ff, ff, ff, ff, ff, ff, ff, ff, ff, ff, ff, ff, ff] rfl rfl (by kernel_rfl) (hq71 (by decide)) (Or.inl ⟨by rfl, ?_⟩) ?_ ?_
  rotate_left
  · intro w'
    go_simp
    with_reducible rfl
  rotate_left
  · simp only [Act.put, sx1, sx2, sx3, i64_w, i32_w]
    rfl
  refine pure_ (i := 10) (N := some 21) (v := undef) (a' := ?_) #[tt, tt, tt, tt, tt, tt, tt, tt, tt, tt, tt, ff, ff, ff, ff, ff, ff, ff, ff, ff, ff, ff, ff, ff, ff, ff, ff, ff, ff, ff, ff, ff, ff, ff, ff, ff, ff] rfl rfl (by kernel_rfl) (hq71 (by decide)) (Or.inr ⟨by rfl, rfl⟩) ?_ ?_
  rotate_left
  · simp only [Act.put, sx1, sx2, sx3, i64_w, i32_w]
    rfl
  refine pure_ (i := 11) (N := some 22) (v := undef) (a' := ?_) #[tt, tt, tt, tt, tt, tt, tt, tt, tt, tt, tt, tt, ff, ff, ff, ff, ff, ff, ff, ff, ff, ff, ff, ff, ff, ff, ff, ff, ff, ff, ff, ff, ff, ff, ff, ff, ff] rfl rfl (by kernel_rfl) (hq71 (by decide)) (Or.inr ⟨by rfl, rfl⟩) ?_ ?_
  rotate_left
  · simp only [Act.put, sx1, sx2, sx3, i64_w, i32_w]
    rfl
  refine pure_ (i := 12) (N := some 23) (v := undef) (a' := ?_) #[tt, tt, tt, tt, tt, tt, tt, tt, tt, tt, tt, tt, tt, ff, ff, ff, ff, ff, ff, ff, ff, ff, ff, ff, ff, ff, ff, ff, ff, ff, ff, ff, ff, ff, ff, ff, ff] rfl rfl (by kernel_rfl) (hq71 (by decide)) (Or.inr ⟨by rfl, rfl⟩) ?_ ?_
  rotate_left
  · simp only [Act.put, sx1, sx2, sx3, i64_w, i32_w]
    rfl
  refine pure_ (i := 13) (N := some 24) (v := undef) (a' := ?_) #[tt, tt, tt, tt, tt, tt, tt, tt, tt, tt, tt, tt, tt, tt, ff, ff, ff, ff, ff, ff, ff, ff, ff, ff, ff, ff, ff, ff, ff, ff, ff, ff, ff, ff, ff, ff, ff] rfl rfl (by kernel_rfl) (hq71 (by decide)) (Or.inr ⟨by rfl, rfl⟩) ?_ ?_
  rotate_left
  · simp only [Act.put, sx1, sx2, sx3, i64_w, i32_w]
    rfl
  refine pure_ (i := 14) (N := some 25) (v := ?_) (a' := ?_) #[tt, tt, tt, tt, tt, tt, tt, tt, tt, tt, tt, tt, tt, tt, tt, ff, ff, ff, ff, ff, ff, ff, ff, ff, ff, ff, ff, ff, ff, ff, ff, ff, ff, ff, ff, ff, ff] rfl rfl (by kernel_rfl) (hq71 (by decide)) (Or.inl ⟨by rfl, ?_⟩) ?_ ?_
  rotate_left
  · intro w'
    go_simp
    with_reducible rfl
  rotate_left
  · simp only [Act.put, sx1, sx2, sx3, i64_w, i32_w]
    rfl
  refine pure_ (i := 15) (N := some 26) (v := ?_) (a' := ?_) #[tt, tt, tt, tt, tt, tt, tt, tt, tt, tt, tt, tt, tt, tt, tt, tt, ff, ff, ff, ff, ff, ff, ff, ff, ff, ff, ff, ff, ff, ff, ff, ff, ff, ff, ff, ff, ff] rfl rfl (by kernel_rfl) (hq71 (by decide)) (Or.inl ⟨by rfl, ?_⟩) ?_ ?_
  rotate_left
  · intro w'
    go_simp
    with_reducible rfl
  rotate_left
  · simp only [Act.put, sx1, sx2, sx3, i64_w, i32_w]
    rfl
  refine pure_ (i := 16) (N := some 27) (v := undef) (a' := ?_) #[tt, tt, tt, tt, tt, tt, tt, tt, tt, tt, tt, tt, tt, tt, tt, tt, tt, ff, ff, ff, ff, ff, ff, ff, ff, ff, ff, ff, ff, ff, ff, ff, ff, ff, ff, ff, ff] rfl rfl (by kernel_rfl) (hq71 (by decide)) (Or.inr ⟨by rfl, rfl⟩) ?_ ?_
  rotate_left
  · simp only [Act.put, sx1, sx2, sx3, i64_w, i32_w]
    rfl
  refine pure_ (i := 17) (N := some 28) (v := undef) (a' := ?_) #[tt, tt, tt, tt, tt, tt, tt, tt, tt, tt, tt, tt, tt, tt, tt, tt, tt, tt, ff, ff, ff, ff, ff, ff, ff, ff, ff, ff, ff, ff, ff, ff, ff, ff, ff, ff, ff] rfl rfl (by kernel_rfl) (hq71 (by decide)) (Or.inr ⟨by rfl, rfl⟩) ?_ ?_
  rotate_left
  · simp only [Act.put, sx1, sx2, sx3, i64_w, i32_w]
    rfl
  refine pure_ (i := 18) (N := some 29) (v := undef) (a' := ?_) #[tt, tt, tt, tt, tt, tt, tt, tt, tt, tt, tt, tt, tt, tt, tt, tt, tt, tt, tt, ff, ff, ff, ff, ff, ff, ff, ff, ff, ff, ff, ff, ff, ff, ff, ff, ff, ff] rfl rfl (by kernel_rfl) (hq71 (by decide)) (Or.inr ⟨by rfl, rfl⟩) ?_ ?_
  rotate_left
  · simp only [Act.put, sx1, sx2, sx3, i64_w, i32_w]
    rfl
  refine pure_ (i := 19) (N := some 30) (v := undef) (a' := ?_) #[tt, tt, tt, tt, tt, tt, tt, tt, tt, tt, tt, tt, tt, tt, tt, tt, tt, tt, tt, tt, ff, ff, ff, ff, ff, ff, ff, ff, ff, ff, ff, ff, ff, ff, ff, ff, ff] rfl rfl (by kernel_rfl) (hq71 (by decide)) (Or.inr ⟨by rfl, rfl⟩) ?_ ?_
  rotate_left
  · simp only [Act.put, sx1, sx2, sx3, i64_w, i32_w]
    rfl
  refine pure_ (i := 20) (N := some 31) (v := ?_) (a' := ?_) #[tt, tt, tt, tt, tt, tt, tt, tt, tt, tt, tt, tt, tt, tt, tt, tt, tt, tt, tt, tt, tt, ff, ff, ff, ff, ff, ff, ff, ff, ff, ff, ff, ff, ff, ff, ff, ff] rfl rfl (by kernel_rfl) (hq71 (by decide)) (Or.inl ⟨by rfl, ?_⟩) ?_ ?_
  rotate_left
  · intro w'
    go_simp
    with_reducible rfl
  rotate_left
  · simp only [Act.put, sx1, sx2, sx3, i64_w, i32_w]
    rfl
  refine pure_ (i := 21) (N := some 32) (v := ?_) (a' := ?_) #[tt, tt, tt, tt, tt, tt, tt, tt, tt, tt, tt, tt, tt, tt, tt, tt, tt, tt, tt, tt, tt, tt, ff, ff, ff, ff, ff, ff, ff, ff, ff, ff, ff, ff, ff, ff, ff] rfl rfl (by kernel_rfl) (hq71 (by decide)) (Or.inl ⟨by rfl, ?_⟩) ?_ ?_
  rotate_left
  · intro w'
    go_simp
    with_reducible rfl
  rotate_left
  · simp only [Act.put, sx1, sx2, sx3, i64_w, i32_w]
    rfl
  refine pure_ (i := 22) (N := some 33) (v := undef) (a' := ?_) #[tt, tt, tt, tt, tt, tt, tt, tt, tt, tt, tt, tt, tt, tt, tt, tt, tt, tt, tt, tt, tt, tt, tt, ff, ff, ff, ff, ff, ff, ff, ff, ff, ff, ff, ff, ff, ff] rfl rfl (by kernel_rfl) (hq71 (by decide)) (Or.inr ⟨by rfl, rfl⟩) ?_ ?_
  rotate_left
  · simp only [Act.put, sx1, sx2, sx3, i64_w, i32_w]
    rfl
  refine pure_ (i := 23) (N := some 34) (v := undef) (a' := ?_) #[tt, tt, tt, tt, tt, tt, tt, tt, tt, tt, tt, tt, tt, tt, tt, tt, tt, tt, tt, tt, tt, tt, tt, tt, ff, ff, ff, ff, ff, ff, ff, ff, ff, ff, ff, ff, ff] rfl rfl (by kernel_rfl) (hq71 (by decide)) (Or.inr ⟨by rfl, rfl⟩) ?_ ?_
  rotate_left
  · simp only [Act.put, sx1, sx2, sx3, i64_w, i32_w]
    rfl
  refine pure_ (i := 24) (N := some 35) (v := undef) (a' := ?_) #[tt, tt, tt, tt, tt, tt, tt, tt, tt, tt, tt, tt, tt, tt, tt, tt, tt, tt, tt, tt, tt, tt, tt, tt, tt, ff, ff, ff, ff, ff, ff, ff, ff, ff, ff, ff, ff] rfl rfl (by kernel_rfl) (hq71 (by decide)) (Or.inr ⟨by rfl, rfl⟩) ?_ ?_
  rotate_left
  · simp only [Act.put, sx1, sx2, sx3, i64_w, i32_w]
    rfl
  refine pure_ (i := 25) (N := some 36) (v := undef) (a' := ?_) #[tt, tt, tt, tt, tt, tt, tt, tt, tt, tt, tt, tt, tt, tt, tt, tt, tt, tt, tt, tt, tt, tt, tt, tt, tt, tt, ff, ff, ff, ff, ff, ff, ff, ff, ff, ff, ff] rfl rfl (by kernel_rfl) (hq71 (by decide)) (Or.inr ⟨by rfl, rfl⟩) ?_ ?_
  rotate_left
  · simp only [Act.put, sx1, sx2, sx3, i64_w, i32_w]
    rfl
  refine pure_ (i := 26) (N := some 37) (v := undef) (a' := ?_) #[tt, tt, tt, tt, tt, tt, tt, tt, tt, tt, tt, tt, tt, tt, tt, tt, tt, tt, tt, tt, tt, tt, tt, tt, tt, tt, tt, ff, ff, ff, ff, ff, ff, ff, ff, ff, ff] rfl rfl (by kernel_rfl) (hq71 (by decide)) (Or.inr ⟨by rfl, rfl⟩) ?_ ?_
  rotate_left
  · simp only [Act.put, sx1, sx2, sx3, i64_w, i32_w]
    rfl
  refine pure_ (i := 27) (N := some 38) (v := ?_) (a' := ?_) #[tt, tt, tt, tt, tt, tt, tt, tt, tt, tt, tt, tt, tt, tt, tt, tt, tt, tt, tt, tt, tt, tt, tt, tt, tt, tt, tt, tt, ff, ff, ff, ff, ff, ff, ff, ff, ff] rfl rfl (by kernel_rfl) (hq71 (by decide)) (Or.inl ⟨by rfl, ?_⟩) ?_ ?_
  rotate_left
  · intro w'
    go_simp
    with_reducible rfl
  rotate_left
  · simp only [Act.put, sx1, sx2, sx3, i64_w, i32_w]
    rfl
  refine pure_ (i := 28) (N := some 39) (v := ?_) (a' := ?_) #[tt, tt, tt, tt, tt, tt, tt, tt, tt, tt, tt, tt, tt, tt, tt, tt, tt, tt, tt, tt, tt, tt, tt, tt, tt, tt, tt, tt, tt, ff, ff, ff, ff, ff, ff, ff, ff] rfl rfl (by kernel_rfl) (hq71 (by decide)) (Or.inl ⟨by rfl, ?_⟩) ?_ ?_
  rotate_left
  · intro w'
    go_simp
    with_reducible rfl
  rotate_left
  · simp only [Act.put, sx1, sx2, sx3, i64_w, i32_w]
    rfl
  refine pure_ (i := 29) (N := some 40) (v := undef) (a' := ?_) #[tt, tt, tt, tt, tt, tt, tt, tt, tt, tt, tt, tt, tt, tt, tt, tt, tt, tt, tt, tt, tt, tt, tt, tt, tt, tt, tt, tt, tt, tt, ff, ff, ff, ff, ff, ff, ff] rfl rfl (by kernel_rfl) (hq71 (by decide)) (Or.inr ⟨by rfl, rfl⟩) ?_ ?_
  rotate_left
  · simp only [Act.put, sx1, sx2, sx3, i64_w, i32_w]
    rfl
  refine pure_ (i := 30) (N := some 41) (v := undef) (a' := ?_) #[tt, tt, tt, tt, tt, tt, tt, tt, tt, tt, tt, tt, tt, tt, tt, tt, tt, tt, tt, tt, tt, tt, tt, tt, tt, tt, tt, tt, tt, tt, tt, ff, ff, ff, ff, ff, ff] rfl rfl (by kernel_rfl) (hq71 (by decide)) (Or.inr ⟨by rfl, rfl⟩) ?_ ?_
  rotate_left
  · simp only [Act.put, sx1, sx2, sx3, i64_w, i32_w]
    rfl
  refine pure_ (i := 31) (N := some 42) (v := undef) (a' := ?_) #[tt, tt, tt, tt, tt, tt, tt, tt, tt, tt, tt, tt, tt, tt, tt, tt, tt, tt, tt, tt, tt, tt, tt, tt, tt, tt, tt, tt, tt, tt, tt, tt, ff, ff, ff, ff, ff] rfl rfl (by kernel_rfl) (hq71 (by decide)) (Or.inr ⟨by rfl, rfl⟩) ?_ ?_
  rotate_left
  · simp only [Act.put, sx1, sx2, sx3, i64_w, i32_w]
    rfl
  refine pure_ (i := 32) (N := some 43) (v := undef) (a' := ?_) #[tt, tt, tt, tt, tt, tt, tt, tt, tt, tt, tt, tt, tt, tt, tt, tt, tt, tt, tt, tt, tt, tt, tt, tt, tt, tt, tt, tt, tt, tt, tt, tt, tt, ff, ff, ff, ff] rfl rfl (by kernel_rfl) (hq71 (by decide)) (Or.inr ⟨by rfl, rfl⟩) ?_ ?_
  rotate_left
  · simp only [Act.put, sx1, sx2, sx3, i64_w, i32_w]
    rfl
  refine pure_ (i := 33) (N := some 44) (v := undef) (a' := ?_) #[tt, tt, tt, tt, tt, tt, tt, tt, tt, tt, tt, tt, tt, tt, tt, tt, tt, tt, tt, tt, tt, tt, tt, tt, tt, tt, tt, tt, tt, tt, tt, tt, tt, tt, ff, ff, ff] rfl rfl (by kernel_rfl) (hq71 (by decide)) (Or.inr ⟨by rfl, rfl⟩) ?_ ?_
  rotate_left
  · simp only [Act.put, sx1, sx2, sx3, i64_w, i32_w]
    rfl
  refine pure_ (i := 34) (N := some 45) (v := undef) (a' := ?_) #[tt, tt, tt, tt, tt, tt, tt, tt, tt, tt, tt, tt, tt, tt, tt, tt, tt, tt, tt, tt, tt, tt, tt, tt, tt, tt, tt, tt, tt, tt, tt, tt, tt, tt, tt, ff, ff] rfl rfl (by kernel_rfl) (hq71 (by decide)) (Or.inr ⟨by rfl, rfl⟩) ?_ ?_
  rotate_left
  · simp only [Act.put, sx1, sx2, sx3, i64_w, i32_w]
    rfl
  refine pure_ (i := 35) (N := some 46) (v := undef) (a' := ?_) #[tt, tt, tt, tt, tt, tt, tt, tt, tt, tt, tt, tt, tt, tt, tt, tt, tt, tt, tt, tt, tt, tt, tt, tt, tt, tt, tt, tt, tt, tt, tt, tt, tt, tt, tt, tt, ff] rfl rfl (by kernel_rfl) (hq71 (by decide)) (Or.inr ⟨by rfl, rfl⟩) ?_ ?_
  rotate_left
  · simp only [Act.put, sx1, sx2, sx3, i64_w, i32_w]
    rfl
  refine pure_ (i := 36) (N := some 47) (v := ?_) (a' := ?_) #[tt, tt, tt, tt, tt, tt, tt, tt, tt, tt, tt, tt, tt, tt, tt, tt, tt, tt, tt, tt, tt, tt, tt, tt, tt, tt, tt, tt, tt, tt, tt, tt, tt, tt, tt, tt, tt] rfl rfl (by kernel_rfl) (hq71 (by decide)) (Or.inl ⟨by rfl, ?_⟩) ?_ ?_
  rotate_left
  · intro w'
    go_simp
    with_reducible rfl
  rotate_left
  · simp only [Act.put, sx1, sx2, sx3, i64_w, i32_w]
    rfl
  refine done_ (by kernel_rfl) ?_
  have HV := Aside0.mk (below_drew1 HB.out)
  have HP4 := Aside0.mk (show wc.drew.heap[p4]? = _ from HP4.out)
  have HP5 := Aside0.mk (show wc.drew.heap[p5]? = _ from HP5.out)
  have HP6 := Aside0.mk (show wc.drew.heap[p6]? = _ from HP6.out)
  clear HB hHeld
  go_wp2_with (with_reducible refine stop_store rfl ?_)
  refine store_blk rfl rfl 28 _ _ rfl (q := p4) (i := 0) (cur' := zeroCells13) zeroCells13.toList rfl rfl rfl (by kernel_rfl) (by intro u hu; simp at hu; rcases hu with rfl | rfl | rfl | rfl <;> rfl) HP4.out (by simp) rfl ?_
  intro w11 hpb hgb
  have HPB := Aside0.mk hpb
  have HVB := Aside0.mk (HV.out.grown hgb HV.out.size (fun k e => by cases e; exact HPW.out.1))
  have HP5 := Aside0.mk ((hgb.block p5 (blk_lt HP5.out) (fun e => by have := HPW.out; have := Option.some.inj e; omega)).trans HP5.out)
  have HP6 := Aside0.mk ((hgb.block p6 (blk_lt HP6.out) (fun e => by have := HPW.out; have := Option.some.inj e; omega)).trans HP6.out)
  clear hpb hgb HV
  have n5 := (blk_cell HP5.out 0).trans rfl
  have f5 := blk_frozen HP5.out 0
  have n6 := (blk_cell HP6.out 0).trans rfl
  have f6 := blk_frozen HP6.out 0
  have HN56 := Aside0.mk (show p5 ≠ p6 by have := HPW.out; omega)
  have hne := HN56.out
  go_wp2_with fail
  clear hne n5 n6 f5 f6
  obtain ⟨wy, hwy⟩ : ∃ wy, wy = w11.setCell ⟨p5, 0, none⟩ (.int .i64 0) := ⟨_, rfl⟩
  obtain ⟨wz, hwz⟩ : ∃ wz, wz = wy.setCell ⟨p6, 0, none⟩ (.bool false) := ⟨_, rfl⟩
  rw [← hwy, ← hwz]
  have k4 : wz.heap[p4]? = some (.cells zeroCells13 28 (0, 0)) := by
    have := HPW.out
    rw [hwz, Below.heap_setCell wy _ _ p4 (by simp only; omega), hwy, Below.heap_setCell w11 _ _ p4 (by simp only; omega)]
    exact HPB.out
  have k6 : wy.heap[p6]? = some (.cells #[.bool false] 4 (0, 0)) := by
    have := HPW.out
    rw [hwy, Below.heap_setCell w11 _ _ p6 (by simp only; omega)]
    exact HP6.out
  have c5 : wz.cell? ⟨p5, 0, none⟩ = some (.int .i64 0) := by
    have hy : wy.cell? ⟨p5, 0, none⟩ = some (.int .i64 0) := by rw [hwy]; exact World.cell?_setCell_same' _ _ _ (by rw [blk_cell HP5.out 0]; rfl)
    have := HPW.out
    have he : wz.heap[p5]? = wy.heap[p5]? := by rw [hwz, Below.heap_setCell wy _ _ p5 (by simp only; omega)]
    simp only [World.cell?, he] at hy ⊢
    exact hy
  have c6 : wz.cell? ⟨p6, 0, none⟩ = some (.bool false) := by rw [hwz]; exact World.cell?_setCell_same' _ _ _ (by rw [blk_cell k6 0]; rfl)
  have hBZ : Below w.heap.size w wz := by
    rw [hwz, hwy]
    exact (HVB.out.setCell (p := ⟨p5, 0, none⟩) (by have := HPW.out; simp only; omega) _).setCell (p := ⟨p6, 0, none⟩) (by have := HPW.out; simp only; omega) _
  exact door71 rfl (results71_row _ _ p4 p5 p6 _ _ _ rfl rfl rfl k4 rfl c5 c6) ⟨rfl, hBZ⟩
end Go.Proofs.Ytdbniihjkiecbaa.PW
namespace Go.Proofs.Ytdbniihjkiecbaa.PW
open Go.RowKit Go.Proofs.YtdbniihjkiecbaaW.PrintWords Go.Proofs.YtdbniihjkiecbaaW.PrintLast Go.Proofs.YtdbniihjkiecbaaW.PrintMore
set_option linter.unusedVariables false
set_option linter.unusedSimpArgs false

theorem wr_small {a : Int} (h0 : 0 ≤ a) (h1 : a < 256) : wrap64 a = a ∧ wrap64 (a * 16777216) = a * 16777216 ∧ wrap64 (a * 65536) = a * 65536 ∧ wrap64 (a * 256) = a * 256 := by unfold wrap64; omega
theorem four_bytes (a b c d : Int) (t : List Int) (ha : 0 ≤ a ∧ a < 256) (hb : 0 ≤ b ∧ b < 256) (hc : 0 ≤ c ∧ c < 256) (hd : 0 ≤ d ∧ d < 256) : journal_four.f (a :: b :: c :: d :: t) = some (a * 16777216 + b * 65536 + c * 256 + d) := by
  unfold journal_four.f
  rw [if_pos (by simp only [List.length_cons]; omega), if_pos (by simp only [List.length_cons]; omega), if_pos (by simp only [List.length_cons]; omega), if_pos (by simp only [List.length_cons]; omega)]
  have e0 : rd (a :: b :: c :: d :: t) 0 = a := rfl
  have e1 : rd (a :: b :: c :: d :: t) 1 = b := rfl
  have e2 : rd (a :: b :: c :: d :: t) 2 = c := rfl
  have e3 : rd (a :: b :: c :: d :: t) 3 = d := rfl
  obtain ⟨a1, a2, a3, a4⟩ := wr_small ha.1 ha.2
  obtain ⟨b1, b2, b3, b4⟩ := wr_small hb.1 hb.2
  obtain ⟨c1, c2, c3, c4⟩ := wr_small hc.1 hc.2
  obtain ⟨d1, d2, d3, d4⟩ := wr_small hd.1 hd.2
  rw [e0, e1, e2, e3, a1, b1, c1, d1, a2, b3, c4, word_join .i64 (by decide) (fun n h0 h1 => wr_i64 n h0 (by omega)) a b c d ha hb hc hd]
theorem four_val (v : Int) (h0 : 0 ≤ v) (h1 : v < 4294967296) (t : List Int) : journal_four.f (four4 v ++ t) = some v := by
  have h := four_bytes ((v / 16777216) % 256) ((v / 65536) % 256) ((v / 256) % 256) (v % 256) t (by omega) (by omega) (by omega) (by omega)
  show journal_four.f (((v / 16777216) % 256) :: ((v / 65536) % 256) :: ((v / 256) % 256) :: (v % 256) :: t) = some v
  rw [h]
  congr 1
  omega
/-- A record's bytes, by their parts. -/
theorem rec_parts (sq kd : Int) (b t : List Int) : recBytes sq kd b ++ t = (withSum (recHead sq kd b.length) ++ b) ++ (four4 (sumW (withSum (recHead sq kd b.length) ++ b)) ++ t) := by
  unfold recBytes
  rw [show withSum (withSum (recHead sq kd b.length) ++ b) = (withSum (recHead sq kd b.length) ++ b) ++ four4 (sumW (withSum (recHead sq kd b.length) ++ b)) from rfl, List.append_assoc]
theorem withHead_len (sq kd : Int) (m : Nat) : (withSum (recHead sq kd m)).length = 16 := by rw [withSum_len, recHead_len]
theorem recBytes_len (sq kd : Int) (b : List Int) : (recBytes sq kd b).length = b.length + 20 := by
  unfold recBytes
  rw [withSum_len, List.length_append, withHead_len]
  omega
set_option maxHeartbeats 4000000 in
set_option maxRecDepth 100000 in
theorem rd_body (sq kd s v k se rq : Int) (l2 : List S40) (vn vp vb st of : Int) (x : ByteArray) (b t : List Int) (hsq : 1 ≤ sq ∧ sq ≤ 2147483647) (hE : recEnc sq kd s v k se rq l2 vn vp vb st of x = (recBytes sq kd b, 0)) (hb : bytesOk b = true) (hbl : b.length ≤ 3000000) (hkd : 0 ≤ kd ∧ kd < 256) (ht : bytesOk t = true) (hmx : (recBytes sq kd b ++ t).length ≤ 1000000000)
    (hrec : ∀ (w w1 : World) (rb : Nat) (A' : Option Addr) (c' : Nat), Below w.heap.size w w1 → w.heap.size ≤ rb → b.length ≤ c' → w1.heap[rb]? = some (.cells #[.slice A' b.length c', .int .i64 0] 147 (0, 0)) → C8 w A' b.length b →
      Calls Try.prog 84 #[.pointer (some ⟨rb, 0, none⟩), .int .i64 kd] w1 fun e w' => ∃ B nb cb, e = .returned (.agg (recCells kd s v k se rq B nb cb vn vp vb st of x)) ∧ l2.length = nb ∧ R40 w' w1.heap.size (.slice B nb cb) l2 ∧ Frm w1 w' (fun k => k = rb))
    (w : World) (A : Option Addr) (n c : Nat) (hn : (recBytes sq kd b ++ t).length = n) (hc : n ≤ c) (hC : C8 w A n (recBytes sq kd b ++ t)) :
    Calls Try.prog 71 #[.slice A n c, .int .i64 sq] w fun e w' => ∃ B nb cb, e = .returned (.tuple #[.agg (recCells kd s v k se rq B nb cb vn vp vb st of x), .int .i64 ((b.length : Int) + 20), .bool true]) ∧ l2.length = nb ∧ R40 w' w.heap.size (.slice B nb cb) l2 ∧ Below w.heap.size w w' := by
  obtain ⟨m, hm⟩ : ∃ m, m = b.length := ⟨_, rfl⟩
  obtain ⟨L, hL⟩ : ∃ L, L = recBytes sq kd b ++ t := ⟨_, rfl⟩
  have hp := rec_parts sq kd b t
  rw [← hL] at hp hn hC hmx
  have hH : (withSum (recHead sq kd b.length) ++ b).length = 16 + m := by rw [List.length_append, withHead_len, hm]
  have hlen : L.length = 20 + m + t.length := by rw [hp, List.length_append, hH, List.length_append, four4_len]; omega
  have hk : kd % 256 = kd := by omega
  have hLx : L = 74 :: 82 :: (kd % 256) :: 0 :: (four4 sq ++ (four4 (b.length : Int) ++ (four4 (sumW (recHead sq kd b.length)) ++ (b ++ (four4 (sumW (withSum (recHead sq kd b.length) ++ b)) ++ t))))) := by
    rw [hp]
    simp only [withSum, recHead, List.append_assoc, List.cons_append, List.nil_append]
  have h12 : L.take 12 = recHead sq kd b.length := by
    rw [hp]
    rw [show withSum (recHead sq kd b.length) = recHead sq kd b.length ++ four4 (sumW (recHead sq kd b.length)) from rfl, List.append_assoc, List.append_assoc]
    exact List.take_left' (recHead_len ..)
  have hs1 := sumW_range (recHead sq kd b.length) (recHead_ok ..)
  have hok2 : bytesOk (withSum (recHead sq kd b.length) ++ b) = true := bytesOk_append (withSum_ok (recHead_ok ..)) hb
  have hs2 := sumW_range _ hok2
  have hLok : bytesOk L = true := by rw [hp]; exact bytesOk_append hok2 (bytesOk_append (four4_ok _) ht)
  have e0 : rd L 0 = 74 := by rw [hLx]; rfl
  have e1 : rd L 1 = 82 := by rw [hLx]; rfl
  have e2 : rd L 2 = kd := by rw [hLx]; exact hk
  have e3 : rd L 3 = 0 := by rw [hLx]; rfl
  have d4 : journal_four.f (L.drop 4) = some sq := by rw [hLx]; exact four_val sq (by omega) (by omega) _
  have d8 : journal_four.f (L.drop 8) = some (m : Int) := by rw [hLx, hm]; exact four_val (b.length : Int) (by omega) (by omega) _
  have d12 : journal_four.f (L.drop 12) = some (sumW (L.take 12)) := by rw [h12, hLx]; exact four_val _ hs1.1 hs1.2 _
  have dt : L.take (16 + m) = withSum (recHead sq kd b.length) ++ b := by rw [hp]; exact List.take_left' hH
  have dd : L.drop (16 + m) = four4 (sumW (withSum (recHead sq kd b.length) ++ b)) ++ t := by rw [hp]; exact List.drop_left' hH
  have d16 : journal_four.f (L.drop (16 + m)) = some (sumW (L.take (16 + m))) := by rw [dd, dt]; exact four_val _ hs2.1 hs2.2 _
  have db : (L.take (16 + m)).drop 16 = b := by rw [dt]; exact List.drop_left' (withHead_len _ _ _)
  rw [← hm]
  refine read_ok w A n c L sq m kd s v k se rq l2 vn vp vb st of x _ hn hc (by omega) hLok hC (by omega) e0 e1 e2 e3 d4 d8 d12 d16 hE ?_
  intro w1 rb A' c' h1 h2 h3 h4 h5
  rw [db] at h5
  rw [hm] at h3 h4 h5
  exact hrec w w1 rb A' c' h1 h2 h3 h4 h5
end Go.Proofs.Ytdbniihjkiecbaa.PW
namespace Go.Proofs.Ytdbniihjkiecbaa.PW
open Go.RowKit Go.Proofs.YtdbniihjkiecbaaW.PrintWords Go.Proofs.YtdbniihjkiecbaaW.PrintLast Go.Proofs.YtdbniihjkiecbaaW.PrintMore
set_option linter.unusedVariables false
set_option linter.unusedSimpArgs false

theorem str_bytes (s : ByteArray) : strOfNums (bytesOf s) = s := by
  unfold strOfNums bytesOf
  apply ByteArray.ext
  have e : ((fun n : Int => UInt8.ofNat n.toNat) ∘ fun b : UInt8 => (b.toNat : Int)) = id := by funext b; simp
  simp [e]
theorem empty_str {x : ByteArray} (h : x.toList = []) : x = ⟨#[]⟩ := by
  apply ByteArray.ext
  apply Array.toList_inj.1
  rw [ByteArray.toList_eq] at h
  exact h
/-- Where the next thing stands. -/
theorem step_at {l a t : List Int} {i : Nat} (hi : i ≤ l.length) (h : l.drop i = a ++ t) : i + a.length ≤ l.length ∧ l.drop (i + a.length) = t := ⟨drop_le rfl hi h, drop_next h⟩
theorem op_at {l t : List Int} {i : Nat} {o : S40} (hi : i ≤ l.length) (h : l.drop i = opEnc o ++ t) (ho : opOk o = true) : OpAt l (i : Int) o ((i + (opEnc o).length : Nat) : Int) := by
  obtain ⟨⟨a0, a1⟩, ⟨b0, b1⟩, h3, hs1, hs2⟩ := opOk_parts ho
  unfold opEnc at h ⊢
  by_cases e3 : o.f3 = -1
  · rw [if_pos e3] at h ⊢
    simp only [List.append_assoc] at h
    have r0 := readNum_drop a0 a1 hi h
    obtain ⟨hi1, h1⟩ := step_at hi h
    have r1 := readText_drop (by omega) hi1 h1
    obtain ⟨hi2, h2⟩ := step_at hi1 h1
    have r2 := readText_drop (by omega) hi2 h2
    obtain ⟨hi3, h3⟩ := step_at hi2 h2
    have r3 := readNum_drop (by omega) (by omega) hi3 h3
    obtain ⟨hi4, h4⟩ := step_at hi3 h3
    have r4 := readNum_drop b0 b1 hi4 h4
    refine ⟨_, _, _, _, _, _, r0, r1, str_bytes _, r2, str_bytes _, .inl ⟨e3, r3, ?_⟩⟩
    rw [r4]
    simp only [List.length_append]
    congr 3
    omega
  · rw [if_neg e3] at h ⊢
    have h3' : 0 ≤ o.f3 ∧ o.f3 ≤ 2147483647 := h3.resolve_left e3
    simp only [List.append_assoc] at h
    have r0 := readNum_drop a0 a1 hi h
    obtain ⟨hi1, h1⟩ := step_at hi h
    have r1 := readText_drop (by omega) hi1 h1
    obtain ⟨hi2, h2⟩ := step_at hi1 h1
    have r2 := readText_drop (by omega) hi2 h2
    obtain ⟨hi3, h3⟩ := step_at hi2 h2
    have r3 := readNum_drop (by omega) (by omega) hi3 h3
    obtain ⟨hi4, h4⟩ := step_at hi3 h3
    have r4 := readNum_drop h3'.1 h3'.2 hi4 h4
    obtain ⟨hi5, h5⟩ := step_at hi4 h4
    have r5 := readNum_drop b0 b1 hi5 h5
    refine ⟨_, _, _, _, _, _, r0, r1, str_bytes _, r2, str_bytes _, .inr ⟨_, r3, r4, ?_⟩⟩
    rw [r5]
    simp only [List.length_append]
    congr 3
    omega
theorem ops_at {l : List Int} : ∀ (ops : List S40) {t : List Int} {i : Nat}, i ≤ l.length → l.drop i = opsEncs ops ++ t → ops.all opOk = true → OpsAt l (i : Int) ops ((i + (opsEncs ops).length : Nat) : Int)
  | [], t, i, hi, h, ho => by simp [OpsAt, opsEncs]
  | o :: os, t, i, hi, h, ho => by
    rw [List.all_cons, Bool.and_eq_true] at ho
    have e : opsEncs (o :: os) = opEnc o ++ opsEncs os := by simp [opsEncs]
    rw [e, List.append_assoc] at h
    obtain ⟨hi1, h1⟩ := step_at hi h
    refine ⟨_, op_at hi h ho.1, ?_⟩
    have := ops_at os hi1 h1 ho.2
    rw [e, List.length_append, ← Nat.add_assoc]
    exact this
theorem ent_at (s v k se rq : Int) (ops : List S40) (h : entOk s v k se rq ops = true) : EntAt (entBytes s v k se rq ops) 0 s v k se rq ops ((entBytes s v k se rq ops).length : Int) := by
  obtain ⟨hx, hl, ho⟩ := entOk_parts h
  have hs := hx s (by simp)
  have hv := hx v (by simp)
  have hk := hx k (by simp)
  have he := hx se (by simp)
  have hq := hx rq (by simp)
  obtain ⟨L, hL⟩ : ∃ L, L = entBytes s v k se rq ops := ⟨_, rfl⟩
  rw [← hL]
  have h0 : L.drop 0 = (numEnc s).1 ++ ((numEnc v).1 ++ ((numEnc k).1 ++ ((numEnc se).1 ++ ((numEnc rq).1 ++ ((numEnc (ops.length : Int)).1 ++ (opsEncs ops ++ [])))))) := by
    rw [hL]
    simp [entBytes, opsEnc, List.append_assoc]
  have hi0 : 0 ≤ L.length := Nat.zero_le _
  have r0 := readNum_drop hs.1 hs.2 hi0 h0
  obtain ⟨hi1, h1⟩ := step_at hi0 h0
  have r1 := readNum_drop hv.1 hv.2 hi1 h1
  obtain ⟨hi2, h2⟩ := step_at hi1 h1
  have r2 := readNum_drop hk.1 hk.2 hi2 h2
  obtain ⟨hi3, h3⟩ := step_at hi2 h2
  have r3 := readNum_drop he.1 he.2 hi3 h3
  obtain ⟨hi4, h4⟩ := step_at hi3 h3
  have r4 := readNum_drop hq.1 hq.2 hi4 h4
  obtain ⟨hi5, h5⟩ := step_at hi4 h4
  have r5 := readNum_drop (by omega) (by omega) hi5 h5
  obtain ⟨hi6, h6⟩ := step_at hi5 h5
  have r6 := ops_at ops hi6 h6 ho
  refine ⟨_, _, _, _, _, _, r0, r1, r2, r3, r4, r5, ?_⟩
  have hlen := congrArg List.length h0
  simp only [List.drop_zero, List.length_append, List.length_nil] at hlen
  rw [show (L.length : Int) = ((0 + (numEnc s).1.length + (numEnc v).1.length + (numEnc k).1.length + (numEnc se).1.length + (numEnc rq).1.length + (numEnc (ops.length : Int)).1.length + (opsEncs ops).length : Nat) : Int) from by congr 1; omega]
  exact r6
theorem opEnc_small {o : S40} (h : opOk o = true) : (opEnc o).length ≤ 550 := by
  obtain ⟨_, _, _, hs1, hs2⟩ := opOk_parts h
  have t1 : (textEnc o.f1).1.length ≤ 5 + 256 := by
    unfold textEnc
    rw [if_neg (by omega), List.length_append, bytesOf_length]
    have := numBytes_len 4 (o.f1.size : Int)
    omega
  have t2 : (textEnc o.f2).1.length ≤ 5 + 256 := by
    unfold textEnc
    rw [if_neg (by omega), List.length_append, bytesOf_length]
    have := numBytes_len 4 (o.f2.size : Int)
    omega
  have n0 := numEnc_len o.f0
  have n4 := numEnc_len o.f4
  have n3 := numEnc_len o.f3
  have z0 := numEnc_len 0
  have z1 := numEnc_len 1
  unfold opEnc
  simp only [List.length_append]
  split
  · omega
  · rw [List.length_append]; omega
theorem opsEncs_small : ∀ (ops : List S40), ops.all opOk = true → (opsEncs ops).length ≤ 550 * ops.length
  | [], _ => by simp [opsEncs]
  | o :: os, h => by
    rw [List.all_cons, Bool.and_eq_true] at h
    have h1 := opEnc_small h.1
    have h2 := opsEncs_small os h.2
    have e : opsEncs (o :: os) = opEnc o ++ opsEncs os := by simp [opsEncs]
    rw [e, List.length_append, List.length_cons]
    omega
theorem entBytes_small {s v k se rq : Int} {ops : List S40} (h : entOk s v k se rq ops = true) : (entBytes s v k se rq ops).length ≤ 3000 := by
  obtain ⟨hx, hl, ho⟩ := entOk_parts h
  have h1 := numEnc_len s
  have h2 := numEnc_len v
  have h3 := numEnc_len k
  have h4 := numEnc_len se
  have h5 := numEnc_len rq
  have h6 := numEnc_len (ops.length : Int)
  have h7 := opsEncs_small ops ho
  unfold entBytes opsEnc
  simp only [List.length_append, List.length_nil]
  omega
end Go.Proofs.Ytdbniihjkiecbaa.PW
namespace Go.Proofs.Ytdbniihjkiecbaa.PW
open Go.RowKit Go.Proofs.YtdbniihjkiecbaaW.PrintWords Go.Proofs.YtdbniihjkiecbaaW.PrintLast Go.Proofs.YtdbniihjkiecbaaW.PrintMore
set_option linter.unusedVariables false
set_option linter.unusedSimpArgs false

def Num (v : Int) : Prop := 0 ≤ v ∧ v ≤ 2147483647
theorem nums1 {a : Int} (ha : Num a) : readNum (numsEnc [a]) 0 = (a, ((numsEnc [a]).length : Int), 0) := by
  obtain ⟨L, hL⟩ : ∃ L, L = numsEnc [a] := ⟨_, rfl⟩
  rw [← hL]
  have h0 : L.drop 0 = (numEnc a).1 ++ [] := by rw [hL]; simp [numsEnc]
  have hi0 : 0 ≤ L.length := Nat.zero_le _
  have r0 := readNum_drop ha.1 ha.2 hi0 h0
  have hlen := congrArg List.length h0
  simp only [List.drop_zero, List.length_append, List.length_nil] at hlen
  rw [show (L.length : Int) = ((0 + (numEnc a).1.length : Nat) : Int) from by congr 1; omega]
  exact r0
theorem nums3 {a b c : Int} (ha : Num a) (hb : Num b) (hc : Num c) : ∃ q1 q2, readNum (numsEnc [a, b, c]) 0 = (a, q1, 0) ∧ readNum (numsEnc [a, b, c]) q1 = (b, q2, 0) ∧ readNum (numsEnc [a, b, c]) q2 = (c, ((numsEnc [a, b, c]).length : Int), 0) := by
  obtain ⟨L, hL⟩ : ∃ L, L = numsEnc [a, b, c] := ⟨_, rfl⟩
  rw [← hL]
  have h0 : L.drop 0 = (numEnc a).1 ++ ((numEnc b).1 ++ ((numEnc c).1 ++ [])) := by rw [hL]; simp [numsEnc]
  have hi0 : 0 ≤ L.length := Nat.zero_le _
  have r0 := readNum_drop ha.1 ha.2 hi0 h0
  obtain ⟨hi1, h1⟩ := step_at hi0 h0
  have r1 := readNum_drop hb.1 hb.2 hi1 h1
  obtain ⟨hi2, h2⟩ := step_at hi1 h1
  have r2 := readNum_drop hc.1 hc.2 hi2 h2
  refine ⟨_, _, r0, r1, ?_⟩
  have hlen := congrArg List.length h0
  simp only [List.drop_zero, List.length_append, List.length_nil] at hlen
  rw [show (L.length : Int) = ((0 + (numEnc a).1.length + (numEnc b).1.length + (numEnc c).1.length : Nat) : Int) from by congr 1; omega]
  exact r2
theorem nums2t {a b : Int} {x : ByteArray} (ha : Num a) (hb : Num b) (hx : x.size ≤ 262144) : ∃ q1 q2, readNum (numsEnc [a, b] ++ (textEnc x).1) 0 = (a, q1, 0) ∧ readNum (numsEnc [a, b] ++ (textEnc x).1) q1 = (b, q2, 0) ∧ readText (numsEnc [a, b] ++ (textEnc x).1) q2 = (bytesOf x, ((numsEnc [a, b] ++ (textEnc x).1).length : Int), 0) := by
  obtain ⟨L, hL⟩ : ∃ L, L = numsEnc [a, b] ++ (textEnc x).1 := ⟨_, rfl⟩
  rw [← hL]
  have h0 : L.drop 0 = (numEnc a).1 ++ ((numEnc b).1 ++ ((textEnc x).1 ++ [])) := by rw [hL]; simp [numsEnc]
  have hi0 : 0 ≤ L.length := Nat.zero_le _
  have r0 := readNum_drop ha.1 ha.2 hi0 h0
  obtain ⟨hi1, h1⟩ := step_at hi0 h0
  have r1 := readNum_drop hb.1 hb.2 hi1 h1
  obtain ⟨hi2, h2⟩ := step_at hi1 h1
  have r2 := readText_drop hx hi2 h2
  refine ⟨_, _, r0, r1, ?_⟩
  have hlen := congrArg List.length h0
  simp only [List.drop_zero, List.length_append, List.length_nil] at hlen
  rw [show (L.length : Int) = ((0 + (numEnc a).1.length + (numEnc b).1.length + (textEnc x).1.length : Nat) : Int) from by congr 1; omega]
  exact r2
theorem nums3t {a b c : Int} {x : ByteArray} (ha : Num a) (hb : Num b) (hc : Num c) (hx : x.size ≤ 262144) : ∃ q0 q1 q2, readNum (numsEnc [a, b, c] ++ (textEnc x).1) 0 = (a, q0, 0) ∧ readNum (numsEnc [a, b, c] ++ (textEnc x).1) q0 = (b, q1, 0) ∧ readNum (numsEnc [a, b, c] ++ (textEnc x).1) q1 = (c, q2, 0) ∧ readText (numsEnc [a, b, c] ++ (textEnc x).1) q2 = (bytesOf x, ((numsEnc [a, b, c] ++ (textEnc x).1).length : Int), 0) := by
  obtain ⟨L, hL⟩ : ∃ L, L = numsEnc [a, b, c] ++ (textEnc x).1 := ⟨_, rfl⟩
  rw [← hL]
  have h0 : L.drop 0 = (numEnc a).1 ++ ((numEnc b).1 ++ ((numEnc c).1 ++ ((textEnc x).1 ++ []))) := by rw [hL]; simp [numsEnc]
  have hi0 : 0 ≤ L.length := Nat.zero_le _
  have r0 := readNum_drop ha.1 ha.2 hi0 h0
  obtain ⟨hi1, h1⟩ := step_at hi0 h0
  have r1 := readNum_drop hb.1 hb.2 hi1 h1
  obtain ⟨hi2, h2⟩ := step_at hi1 h1
  have r2 := readNum_drop hc.1 hc.2 hi2 h2
  obtain ⟨hi3, h3⟩ := step_at hi2 h2
  have r3 := readText_drop hx hi3 h3
  refine ⟨_, _, _, r0, r1, r2, ?_⟩
  have hlen := congrArg List.length h0
  simp only [List.drop_zero, List.length_append, List.length_nil] at hlen
  rw [show (L.length : Int) = ((0 + (numEnc a).1.length + (numEnc b).1.length + (numEnc c).1.length + (textEnc x).1.length : Nat) : Int) from by congr 1; omega]
  exact r3
theorem blankE_parts {s v k se rq : Int} {l : List S40} (h : blankE s v k se rq l = true) : s = 0 ∧ v = 0 ∧ k = 0 ∧ se = 0 ∧ rq = 0 ∧ l = [] := by
  unfold blankE at h
  simp only [Bool.and_eq_true, beq_iff_eq, decide_eq_true_eq, List.length_eq_zero_iff] at h
  exact h
theorem noState_parts {of : Int} {x : ByteArray} (h : noState of x = true) : x = ⟨#[]⟩ ∧ of = 0 := by
  unfold noState at h
  simp only [Bool.and_eq_true, beq_iff_eq, decide_eq_true_eq] at h
  exact ⟨empty_str h.1, h.2⟩
theorem noView_parts {a b c : Int} (h : noView a b c = true) : a = 0 ∧ b = 0 ∧ c = 0 := by
  unfold noView at h
  simpa only [Bool.and_eq_true, beq_iff_eq] using h
theorem vMay_parts {a b c : Int} (h : vMay a b c = true) : Num a ∧ Num b ∧ Num c ∧ 1 ≤ a := by
  unfold vMay at h
  simp only [Bool.and_eq_true, decide_eq_true_eq] at h
  unfold Num
  omega
theorem nMay_parts {a b c : Int} (h : nMay a b c = true) : Num a ∧ b = 0 ∧ c = 0 ∧ 1 ≤ a := by
  unfold nMay at h
  simp only [Bool.and_eq_true, decide_eq_true_eq, beq_iff_eq] at h
  unfold Num
  omega
/-- What Encode writes, by the kind. -/
theorem recEnc_parts {sq kd s v k se rq : Int} {l : List S40} {vn vp vb st of : Int} {x : ByteArray} {r1 : List Int} (h : recEnc sq kd s v k se rq l vn vp vb st of x = (r1, 0)) :
    r1 = recBytes sq kd (recBody kd s v k se rq l vn vp vb st of x).1 ∧ (recBody kd s v k se rq l vn vp vb st of x).2 = true ∧ (1 ≤ sq ∧ sq ≤ 2147483647) ∧ x.size ≤ 200000 := by
  unfold recEnc at h
  by_cases hx : (x.size : Int) > 200000
  · rw [if_pos hx] at h; cases h
  · rw [if_neg hx] at h
    by_cases hb : ((recBody kd s v k se rq l vn vp vb st of x).2 && seqOk sq) = true
    · rw [if_pos hb] at h
      rw [Bool.and_eq_true] at hb
      have hs := hb.2
      unfold seqOk at hs
      simp only [Bool.and_eq_true, decide_eq_true_eq] at hs
      exact ⟨(Prod.mk.inj h).1.symm, hb.1, hs, by omega⟩
    · rw [if_neg hb] at h; cases h
set_option maxRecDepth 100000 in
theorem rd_valid (sq : Int) (y : JR) (r1 : List Int) (hE : recEnc sq y.kd y.s y.v y.k y.se y.rq y.ops y.vn y.vp y.vb y.st y.of y.x = (r1, 0)) (t : List Int) (ht : bytesOk t = true) (hmx : (r1 ++ t).length ≤ 1000000000) : RdSpec (r1 ++ t) sq (some (y, r1.length)) := by
  obtain ⟨kd, s, v, k, se, rq, ops, vn, vp, vb, st, of, x⟩ := y
  simp only at hE
  obtain ⟨h1, h2, hsq, hx⟩ := recEnc_parts hE
  subst h1
  have hbok := recBody_ok kd s v k se rq ops vn vp vb st of x
  have hbl := recBody_len kd s v k se rq ops vn vp vb st of x
  have key := rd_body sq kd s v k se rq ops vn vp vb st of x _ t hsq hE hbok hbl
  have fin : (0 ≤ kd ∧ kd < 256) → (∀ (w w1 : World) (rb : Nat) (A' : Option Addr) (c' : Nat), Below w.heap.size w w1 → w.heap.size ≤ rb → (recBody kd s v k se rq ops vn vp vb st of x).1.length ≤ c' → w1.heap[rb]? = some (.cells #[.slice A' (recBody kd s v k se rq ops vn vp vb st of x).1.length c', .int .i64 0] 147 (0, 0)) → C8 w A' (recBody kd s v k se rq ops vn vp vb st of x).1.length (recBody kd s v k se rq ops vn vp vb st of x).1 →
      Calls Try.prog 84 #[.pointer (some ⟨rb, 0, none⟩), .int .i64 kd] w1 fun e w' => ∃ B nb cb, e = .returned (.agg (recCells kd s v k se rq B nb cb vn vp vb st of x)) ∧ ops.length = nb ∧ R40 w' w1.heap.size (.slice B nb cb) ops ∧ Frm w1 w' (fun k => k = rb)) → RdSpec (recBytes sq kd (recBody kd s v k se rq ops vn vp vb st of x).1 ++ t) sq (some (⟨kd, s, v, k, se, rq, ops, vn, vp, vb, st, of, x⟩, (recBytes sq kd (recBody kd s v k se rq ops vn vp vb st of x).1).length)) := by
    intro hkd hrec w A n c hn hc hC
    refine (key hkd ht hmx hrec w A n c hn hc hC).mono ?_
    rintro e w' ⟨B, nb, cb, rfl, rfl, hr, hb⟩
    exact ⟨B, cb, by rw [recBytes_len]; rfl, hr, hb⟩
  clear key
  by_cases k1 : kd = 1
  · subst k1
    have e1 : (recBody 1 s v k se rq ops vn vp vb st of x).2 = (entOk s v k se rq ops && (noView vn vp vb && ((st == 0) && noState of x))) := rfl
    rw [e1] at h2
    simp only [Bool.and_eq_true, beq_iff_eq] at h2
    obtain ⟨hok, hv, rfl, hs⟩ := h2
    obtain ⟨rfl, rfl, rfl⟩ := noView_parts hv
    obtain ⟨rfl, rfl⟩ := noState_parts hs
    refine fin (by omega) ?_
    have eb : (recBody 1 s v k se rq ops 0 0 0 0 0 ⟨#[]⟩).1 = entBytes s v k se rq ops := by
      show (if entOk s v k se rq ops = true then entBytes s v k se rq ops else []) = _
      rw [if_pos hok]
    rw [eb] at hbok ⊢
    have hsm := entBytes_small hok
    have hl := (entOk_parts hok).2.1
    intro w w1 rb A' c' hB hrb hc' hg hC
    refine (rd_entry w w1 rb _ c' A' (entBytes s v k se rq ops) s v k se rq ops ops.length rfl (by omega) rfl hc' hbok (by omega) hC hB hrb hg (ent_at s v k se rq ops hok) hok).mono ?_
    rintro e w' ⟨B, cb, rfl, hr, hf⟩
    exact ⟨B, _, cb, rfl, rfl, hr, hf⟩
  by_cases k2 : kd = 2
  · subst k2
    have e1 : (recBody 2 s v k se rq ops vn vp vb st of x).2 = (vMay vn vp vb && (blankE s v k se rq ops && ((st == 0) && noState of x))) := rfl
    rw [e1] at h2
    simp only [Bool.and_eq_true, beq_iff_eq] at h2
    obtain ⟨hv, hbk, rfl, hs⟩ := h2
    obtain ⟨rfl, rfl, rfl, rfl, rfl, rfl⟩ := blankE_parts hbk
    obtain ⟨rfl, rfl⟩ := noState_parts hs
    obtain ⟨p1, p2, p3, _⟩ := vMay_parts hv
    refine fin (by omega) ?_
    have eb : (recBody 2 0 0 0 0 0 [] vn vp vb 0 0 ⟨#[]⟩).1 = numsEnc [vn, vp, vb] := rfl
    rw [eb] at hbok hbl ⊢
    obtain ⟨q1, q2, r0, r1, r2⟩ := nums3 p1 p2 p3
    intro w w1 rb A' c' hB hrb hc' hg hC
    refine (rd_view w w1 rb _ c' A' (numsEnc [vn, vp, vb]) vn q1 vp q2 vb rfl hc' hbok (by omega) hC hB hrb hg r0 r1 r2).mono ?_
    rintro e w' ⟨rfl, hf⟩
    exact ⟨none, 0, 0, rfl, rfl, Kd.R_nil _ _ _ _ _, hf⟩
  by_cases k3 : kd = 3
  · subst k3
    have e1 : (recBody 3 s v k se rq ops vn vp vb st of x).2 = (nMay vn vp vb && (blankE s v k se rq ops && ((st == 0) && noState of x))) := rfl
    rw [e1] at h2
    simp only [Bool.and_eq_true, beq_iff_eq] at h2
    obtain ⟨hv, hbk, rfl, hs⟩ := h2
    obtain ⟨rfl, rfl, rfl, rfl, rfl, rfl⟩ := blankE_parts hbk
    obtain ⟨rfl, rfl⟩ := noState_parts hs
    obtain ⟨p1, rfl, rfl, _⟩ := nMay_parts hv
    refine fin (by omega) ?_
    have eb : (recBody 3 0 0 0 0 0 [] vn 0 0 0 0 ⟨#[]⟩).1 = numsEnc [vn] := rfl
    rw [eb] at hbok hbl ⊢
    intro w w1 rb A' c' hB hrb hc' hg hC
    refine (rd_matched w w1 rb _ c' A' (numsEnc [vn]) vn rfl hc' hbok (by omega) hC hB hrb hg (nums1 p1)).mono ?_
    rintro e w' ⟨rfl, hf⟩
    exact ⟨none, 0, 0, rfl, rfl, Kd.R_nil _ _ _ _ _, hf⟩
  by_cases k4 : kd = 4
  · subst k4
    have e1 : (recBody 4 s v k se rq ops vn vp vb st of x).2 = (nMay vn vp vb && (blankE s v k se rq ops && (numOk st && numOk of))) := rfl
    rw [e1] at h2
    simp only [Bool.and_eq_true, beq_iff_eq] at h2
    obtain ⟨hv, hbk, hst, hof⟩ := h2
    obtain ⟨rfl, rfl, rfl, rfl, rfl, rfl⟩ := blankE_parts hbk
    obtain ⟨p1, rfl, rfl, _⟩ := nMay_parts hv
    refine fin (by omega) ?_
    have eb : (recBody 4 0 0 0 0 0 [] vn 0 0 st of x).1 = numsEnc [vn, st, of] ++ (textEnc x).1 := rfl
    rw [eb] at hbok hbl ⊢
    obtain ⟨q0, q1, q2, r0, r1, r2, r3⟩ := nums3t p1 (numOk_iff hst) (numOk_iff hof) (show x.size ≤ 262144 by omega)
    intro w w1 rb A' c' hB hrb hc' hg hC
    refine (rd_reset w w1 rb _ c' A' (numsEnc [vn, st, of] ++ (textEnc x).1) vn st of q0 q1 q2 (bytesOf x) x rfl hc' hbok (by omega) hC hB hrb hg r0 r1 r2 r3 (str_bytes x)).mono ?_
    rintro e w' ⟨rfl, hf⟩
    exact ⟨none, 0, 0, rfl, rfl, Kd.R_nil _ _ _ _ _, hf⟩
  by_cases k5 : kd = 5
  · subst k5
    have e1 : (recBody 5 s v k se rq ops vn vp vb st of x).2 = (noView vn vp vb && (blankE s v k se rq ops && (numOk st && numOk of))) := rfl
    rw [e1] at h2
    simp only [Bool.and_eq_true, beq_iff_eq] at h2
    obtain ⟨hv, hbk, hst, hof⟩ := h2
    obtain ⟨rfl, rfl, rfl, rfl, rfl, rfl⟩ := blankE_parts hbk
    obtain ⟨rfl, rfl, rfl⟩ := noView_parts hv
    refine fin (by omega) ?_
    have eb : (recBody 5 0 0 0 0 0 [] 0 0 0 st of x).1 = numsEnc [st, of] ++ (textEnc x).1 := rfl
    rw [eb] at hbok hbl ⊢
    obtain ⟨q1, q2, r0, r1, r2⟩ := nums2t (numOk_iff hst) (numOk_iff hof) (show x.size ≤ 262144 by omega)
    intro w w1 rb A' c' hB hrb hc' hg hC
    refine (rd_save w w1 rb _ c' A' (numsEnc [st, of] ++ (textEnc x).1) st of q1 q2 (bytesOf x) x rfl hc' hbok (by omega) hC hB hrb hg r0 r1 r2 (str_bytes x)).mono ?_
    rintro e w' ⟨rfl, hf⟩
    exact ⟨none, 0, 0, rfl, rfl, Kd.R_nil _ _ _ _ _, hf⟩
  by_cases k6 : kd = 6
  · subst k6
    have e1 : (recBody 6 s v k se rq ops vn vp vb st of x).2 = (numOk st && (blankE s v k se rq ops && (noState of x && noView vn vp vb))) := rfl
    rw [e1] at h2
    simp only [Bool.and_eq_true, beq_iff_eq] at h2
    obtain ⟨hst, hbk, hs, hv⟩ := h2
    obtain ⟨rfl, rfl, rfl, rfl, rfl, rfl⟩ := blankE_parts hbk
    obtain ⟨rfl, rfl, rfl⟩ := noView_parts hv
    obtain ⟨rfl, rfl⟩ := noState_parts hs
    refine fin (by omega) ?_
    have eb : (recBody 6 0 0 0 0 0 [] 0 0 0 st 0 ⟨#[]⟩).1 = numsEnc [st] := rfl
    rw [eb] at hbok hbl ⊢
    intro w w1 rb A' c' hB hrb hc' hg hC
    refine (rd_commit w w1 rb _ c' A' (numsEnc [st]) st rfl hc' hbok (by omega) hC hB hrb hg (nums1 (numOk_iff hst))).mono ?_
    rintro e w' ⟨rfl, hf⟩
    exact ⟨none, 0, 0, rfl, rfl, Kd.R_nil _ _ _ _ _, hf⟩
  · exfalso
    unfold recBody at h2
    rw [if_neg k1, if_neg k2, if_neg k3, if_neg k4, if_neg k5, if_neg k6] at h2
    cases h2
end Go.Proofs.Ytdbniihjkiecbaa.PW
namespace Go.Proofs.Ytdbniihjkiecbaa.PW
open Go.RowKit Go.Proofs.YtdbniihjkiecbaaW.PrintWords Go.Proofs.YtdbniihjkiecbaaW.PrintLast Go.Proofs.YtdbniihjkiecbaaW.PrintMore
set_option linter.unusedVariables false
set_option linter.unusedSimpArgs false

set_option maxHeartbeats 16000000 in
set_option maxRecDepth 100000 in
theorem read_other (w : World) (A : Option Addr) (n c : Nat) (l : List Int) (sq sq' : Int)
    (hn : l.length = n) (hc : n ≤ c) (hmx : n ≤ 1000000000000) (hok : bytesOk l = true) (hC : C8 w A n l)
    (h20 : 20 ≤ n) (h0 : rd l 0 = 74) (h1 : rd l 1 = 82) (h3 : rd l 3 = 0)
    (h4 : journal_four.f (l.drop 4) = some sq') (hne : (sq' == sq) = false) :
    Calls Try.prog 71 #[.slice A n c, .int .i64 sq] w fun e w' => e = .returned (.tuple #[zeroRec, .int .i64 0, .bool false]) ∧ Below w.heap.size w w' := by
  have hu28 := Try.underlying28
  have hne2 : decide (sq' = sq) = false := decide_eq_false (by simpa using hne)
  have hne3 : (sq' != sq) = true := by simpa using hne
  have hu26 := Try.underlying26
  have hu24 := Try.underlying24
  have hu147 := Try.underlying147
  have hmf : ∀ (fn : Fn) (first cap : Array Value) (w : World), (Instr.makeFunc fn first cap).run Try.prog w = .ok (.func fn first cap) w := fun _ _ _ _ => rfl
  obtain ⟨ad, rfl, hb0⟩ := Kd.at_int hC 0 (by decide) (by omega)
  obtain ⟨ad1, e1, hb1⟩ := Kd.at_int hC 1 (by decide) (by omega)
  cases e1
  obtain ⟨ad1, e1, hb3⟩ := Kd.at_int hC 3 (by decide) (by omega)
  cases e1
  rw [h0] at hb0
  rw [h1] at hb1
  rw [h3] at hb3
  obtain ⟨A4, hc4, hC4⟩ := cutf8 (A := some ad) (n := n) (c := c) (xs := l) 4 (by omega) hc
  replace hc4 : ∀ (W : World), (Instr.slice 29 (.slice (some ad) n c) (some (.int .i64 4)) none none).run Try.prog W = .ok (.slice A4 (n - 4) (c - 4)) W := hc4
  replace hb0 : w.cell? ad = some (.int .u8 74) := by rw [show ad.add (Int.toNat 0) = ad from by simp [Addr.add]] at hb0; exact hb0
  replace hb1 : w.cell? ⟨ad.block, ad.off + 1, none⟩ = some (.int .u8 82) := by rw [show ad.add (Int.toNat 1) = ⟨ad.block, ad.off + 1, none⟩ from by simp [Addr.add]] at hb1; exact hb1
  replace hb3 : w.cell? ⟨ad.block, ad.off + 3, none⟩ = some (.int .u8 0) := by rw [show ad.add (Int.toNat 3) = ⟨ad.block, ad.off + 3, none⟩ from by simp [Addr.add]] at hb3; exact hb3
  have HN := Aside0.mk hn
  have HCC := Aside0.mk hc
  have HC := Aside0.mk hC
  have HOK := Aside0.mk hok
  have HM := Aside0.mk hmx
  have H20 := Aside0.mk h20
  have HC4 := Aside0.mk (hC4 w hC)
  have H4 := Aside0.mk h4
  clear hn hc hmx hok hC h20 hC4 h4 h0 h1 h3
  have hd20 : decide ((n : Int) < 20) = false := decide_eq_false (by have := H20.out; omega)
  have hd21 : decide (n < 20) = false := decide_eq_false (by have := H20.out; omega)
  have i0 : (0 < n) = True := eq_true (by have := H20.out; omega)
  have i1 : (1 < n) = True := eq_true (by have := H20.out; omega)
  have i3 : (3 < n) = True := eq_true (by have := H20.out; omega)
  have j0 : ((0 : Int) < (n : Int)) = True := eq_true (by have := H20.out; omega)
  have j1 : ((1 : Int) < (n : Int)) = True := eq_true (by have := H20.out; omega)
  have j3 : ((3 : Int) < (n : Int)) = True := eq_true (by have := H20.out; omega)
  go_enter_defers Try.func71, Try.ntmps71
  go_wp2_with fail
  obtain ⟨p4, hp4⟩ : ∃ p4, p4 = w.heap.size := ⟨_, rfl⟩
  obtain ⟨p5, hp5⟩ : ∃ p5, p5 = w.heap.size + 1 := ⟨_, rfl⟩
  obtain ⟨p6, hp6⟩ : ∃ p6, p6 = w.heap.size + 1 + 1 := ⟨_, rfl⟩
  obtain ⟨wa, hwa⟩ : ∃ wa, wa = w.alloc (.cells #[.int .i64 0, .int .i64 0, .int .i64 0, .int .i64 0, .int .i64 0, .int .i64 0, .slice none 0 0, .int .i64 0, .int .i64 0, .int .i64 0, .int .i64 0, .int .i64 0, .string ⟨#[]⟩] 28) := ⟨_, rfl⟩
  obtain ⟨wb, hwb⟩ : ∃ wb, wb = wa.alloc (.cells #[.int .i64 0] 3) := ⟨_, rfl⟩
  obtain ⟨wc, hwc⟩ : ∃ wc, wc = wb.alloc (.cells #[.bool false] 4) := ⟨_, rfl⟩
  rw [← hwa, ← hwb, ← hwc, ← hp6, ← hp5, ← hp4]
  have hza : wa.heap.size = w.heap.size + 1 := by rw [hwa]; simp
  have hzb : wb.heap.size = w.heap.size + 1 + 1 := by rw [hwb, ← hza]; simp
  have hba : Below wa.heap.size wa wb := by rw [hwb]; exact below_alloc (Below.refl _ _) _
  have hbb : Below wb.heap.size wb wc := by rw [hwc]; exact below_alloc (Below.refl _ _) _
  have HB := Aside0.mk (show Below w.heap.size w wc from below_step (below_step (by rw [hwa]; exact below_alloc (Below.refl _ _) _) hba) hbb)
  have HP4 := Aside0.mk (show wc.heap[p4]? = some (.cells #[.int .i64 0, .int .i64 0, .int .i64 0, .int .i64 0, .int .i64 0, .int .i64 0, .slice none 0 0, .int .i64 0, .int .i64 0, .int .i64 0, .int .i64 0, .int .i64 0, .string ⟨#[]⟩] 28 (0, 0)) by
    refine (hbb.block p4 (by omega)).trans ((hba.block p4 (by omega)).trans ?_)
    rw [hwa, hp4]; exact heap_alloc_new w _)
  have HP5 := Aside0.mk (show wc.heap[p5]? = some (.cells #[.int .i64 0] 3 (0, 0)) by
    refine (hbb.block p5 (by omega)).trans ?_
    rw [hwb, hp5, ← hza]; exact heap_alloc_new wa _)
  have HP6 := Aside0.mk (show wc.heap[p6]? = some (.cells #[.bool false] 4 (0, 0)) by rw [hwc, hp6, ← hzb]; exact heap_alloc_new wb _)
  have HPW := Aside0.mk (show w.heap.size ≤ p4 ∧ p4 < p5 ∧ p5 < p6 by omega)
  clear hp4 hp5 hp6 hwa hwb hwc hza hzb hba hbb
  have HB0 := Aside0.mk (pw_cell_below (below_drew1 HB.out) hb0)
  have HB1 := Aside0.mk (pw_cell_below (below_drew1 HB.out) hb1)
  have HB3 := Aside0.mk (pw_cell_below (below_drew1 HB.out) hb3)
  clear hb0 hb1 hb3
  have c0 := HB0.out
  have c1 := HB1.out
  have c3 := HB3.out
  have HD := Aside0.mk (below_drew1 HB.out)
  refine start_ (n := 37) (S := fun w' => w'.cell? ad = some (.int .u8 74) ∧ w'.cell? ⟨ad.block, ad.off + 1, none⟩ = some (.int .u8 82) ∧ w'.cell? ⟨ad.block, ad.off + 3, none⟩ = some (.int .u8 0)) (ds := []) #[ff, ff, ff, ff, ff, ff, ff, ff, ff, ff, ff, ff, ff, ff, ff, ff, ff, ff, ff, ff, ff, ff, ff, ff, ff, ff, ff, ff, ff, ff, ff, ff, ff, ff, ff, ff, ff] (by kernel_rfl) rfl rfl ⟨c0, c1, c3⟩ (fun hHeld => ?_)
  refine pure_ (i := 0) (N := some 11) (v := ?_) (a' := ?_) #[tt, ff, ff, ff, ff, ff, ff, ff, ff, ff, ff, ff, ff, ff, ff, ff, ff, ff, ff, ff, ff, ff, ff, ff, ff, ff, ff, ff, ff, ff, ff, ff, ff, ff, ff, ff, ff] rfl rfl (by kernel_rfl) (hq71 (by decide)) (Or.inl ⟨by rfl, ?_⟩) ?_ ?_
  rotate_left
  · intro w'
    go_simp
    with_reducible rfl
  rotate_left
  · simp only [Act.put, sx1, sx2, sx3, i64_w, i32_w]
    rfl
  refine pure_ (i := 1) (N := some 12) (v := ?_) (a' := ?_) #[tt, tt, ff, ff, ff, ff, ff, ff, ff, ff, ff, ff, ff, ff, ff, ff, ff, ff, ff, ff, ff, ff, ff, ff, ff, ff, ff, ff, ff, ff, ff, ff, ff, ff, ff, ff, ff] rfl rfl (by kernel_rfl) (hq71 (by decide)) (Or.inl ⟨by rfl, ?_⟩) ?_ ?_
  rotate_left
  · intro w'
    go_simp
    with_reducible rfl
  rotate_left
  · simp only [Act.put, sx1, sx2, sx3, i64_w, i32_w]
    rfl
  refine pure_ (i := 2) (N := some 13) (v := ?_) (a' := ?_) #[tt, tt, tt, ff, ff, ff, ff, ff, ff, ff, ff, ff, ff, ff, ff, ff, ff, ff, ff, ff, ff, ff, ff, ff, ff, ff, ff, ff, ff, ff, ff, ff, ff, ff, ff, ff, ff] rfl rfl (by kernel_rfl) (hq71 (by decide)) (Or.inl ⟨by rfl, ?_⟩) ?_ ?_
  rotate_left
  · intro w'
    go_simp
    with_reducible rfl
  rotate_left
  · simp only [Act.put, sx1, sx2, sx3, i64_w, i32_w]
    rfl
  refine pure_ (i := 3) (N := some 14) (v := ?_) (a' := ?_) #[tt, tt, tt, tt, ff, ff, ff, ff, ff, ff, ff, ff, ff, ff, ff, ff, ff, ff, ff, ff, ff, ff, ff, ff, ff, ff, ff, ff, ff, ff, ff, ff, ff, ff, ff, ff, ff] rfl rfl (by kernel_rfl) (hq71 (by decide)) (Or.inl ⟨by rfl, ?_⟩) ?_ ?_
  rotate_left
  · intro w'
    go_simp
    with_reducible rfl
  rotate_left
  · simp only [Act.put, sx1, sx2, sx3, i64_w, i32_w]
    rfl
  refine pure_ (i := 4) (N := some 15) (v := ?_) (a' := ?_) #[tt, tt, tt, tt, tt, ff, ff, ff, ff, ff, ff, ff, ff, ff, ff, ff, ff, ff, ff, ff, ff, ff, ff, ff, ff, ff, ff, ff, ff, ff, ff, ff, ff, ff, ff, ff, ff] rfl rfl (by kernel_rfl) (hq71 (by decide)) (Or.inl ⟨by rfl, ?_⟩) ?_ ?_
  rotate_left
  · intro w'
    go_simp
    with_reducible rfl
  rotate_left
  · simp only [Act.put, sx1, sx2, sx3, i64_w, i32_w]
    rfl
  refine pure_ (i := 5) (N := some 16) (v := ?_) (a' := ?_) #[tt, tt, tt, tt, tt, tt, ff, ff, ff, ff, ff, ff, ff, ff, ff, ff, ff, ff, ff, ff, ff, ff, ff, ff, ff, ff, ff, ff, ff, ff, ff, ff, ff, ff, ff, ff, ff] rfl rfl (by kernel_rfl) (hq71 (by decide)) (Or.inl ⟨by rfl, ?_⟩) ?_ ?_
  rotate_left
  · intro w'
    go_simp
    with_reducible rfl
  rotate_left
  · simp only [Act.put, sx1, sx2, sx3, i64_w, i32_w]
    rfl
  refine take_ (i := 6) (N := some 17) (v := ?_) (a' := ?_) #[tt, tt, tt, tt, tt, tt, tt, ff, ff, ff, ff, ff, ff, ff, ff, ff, ff, ff, ff, ff, ff, ff, ff, ff, ff, ff, ff, ff, ff, ff, ff, ff, ff, ff, ff, ff, ff] rfl rfl (by kernel_rfl) (hq71 (by decide)) (Or.inl ⟨by rfl, ?_⟩) hHeld ?_ ?_
  rotate_left
  · rintro w' ⟨s0, s1, s2⟩
    go_simp
    with_reducible rfl
  rotate_left
  · simp only [Act.put, sx1, sx2, sx3, i64_w, i32_w]
    rfl
  refine pure_ (i := 7) (N := some 18) (v := ?_) (a' := ?_) #[tt, tt, tt, tt, tt, tt, tt, tt, ff, ff, ff, ff, ff, ff, ff, ff, ff, ff, ff, ff, ff, ff, ff, ff, ff, ff, ff, ff, ff, ff, ff, ff, ff, ff, ff, ff, ff] rfl rfl (by kernel_rfl) (hq71 (by decide)) (Or.inl ⟨by rfl, ?_⟩) ?_ ?_
  rotate_left
  · intro w'
    go_simp
    with_reducible rfl
  rotate_left
  · simp only [Act.put, sx1, sx2, sx3, i64_w, i32_w]
    rfl
  refine pure_ (i := 8) (N := some 19) (v := ?_) (a' := ?_) #[tt, tt, tt, tt, tt, tt, tt, tt, tt, ff, ff, ff, ff, ff, ff, ff, ff, ff, ff, ff, ff, ff, ff, ff, ff, ff, ff, ff, ff, ff, ff, ff, ff, ff, ff, ff, ff] rfl rfl (by kernel_rfl) (hq71 (by decide)) (Or.inl ⟨by rfl, ?_⟩) ?_ ?_
  rotate_left
  · intro w'
    go_simp
    with_reducible rfl
  rotate_left
  · simp only [Act.put, sx1, sx2, sx3, i64_w, i32_w]
    rfl
  refine pure_ (i := 9) (N := some 20) (v := ?_) (a' := ?_) #[tt, tt, tt, tt, tt, tt, tt, tt, tt, tt, ff, ff, ff, ff, ff, ff, ff, ff, ff, ff, ff, ff, ff, ff, ff, ff, ff, ff, ff, ff, ff, ff, ff, ff, ff, ff, ff] rfl rfl (by kernel_rfl) (hq71 (by decide)) (Or.inl ⟨by rfl, ?_⟩) ?_ ?_
  rotate_left
  · intro w'
    go_simp
    with_reducible rfl
  rotate_left
  · simp only [Act.put, sx1, sx2, sx3, i64_w, i32_w]
    rfl
  refine pure_ (i := 10) (N := some 21) (v := ?_) (a' := ?_) #[tt, tt, tt, tt, tt, tt, tt, tt, tt, tt, tt, ff, ff, ff, ff, ff, ff, ff, ff, ff, ff, ff, ff, ff, ff, ff, ff, ff, ff, ff, ff, ff, ff, ff, ff, ff, ff] rfl rfl (by kernel_rfl) (hq71 (by decide)) (Or.inl ⟨by rfl, ?_⟩) ?_ ?_
  rotate_left
  · intro w'
    go_simp
    with_reducible rfl
  rotate_left
  · simp only [Act.put, sx1, sx2, sx3, i64_w, i32_w]
    rfl
  refine pure_ (i := 11) (N := some 22) (v := ?_) (a' := ?_) #[tt, tt, tt, tt, tt, tt, tt, tt, tt, tt, tt, tt, ff, ff, ff, ff, ff, ff, ff, ff, ff, ff, ff, ff, ff, ff, ff, ff, ff, ff, ff, ff, ff, ff, ff, ff, ff] rfl rfl (by kernel_rfl) (hq71 (by decide)) (Or.inl ⟨by rfl, ?_⟩) ?_ ?_
  rotate_left
  · intro w'
    go_simp
    with_reducible rfl
  rotate_left
  · simp only [Act.put, sx1, sx2, sx3, i64_w, i32_w]
    rfl
  refine take_ (i := 12) (N := some 23) (v := ?_) (a' := ?_) #[tt, tt, tt, tt, tt, tt, tt, tt, tt, tt, tt, tt, tt, ff, ff, ff, ff, ff, ff, ff, ff, ff, ff, ff, ff, ff, ff, ff, ff, ff, ff, ff, ff, ff, ff, ff, ff] rfl rfl (by kernel_rfl) (hq71 (by decide)) (Or.inl ⟨by rfl, ?_⟩) hHeld ?_ ?_
  rotate_left
  · rintro w' ⟨s0, s1, s2⟩
    go_simp
    with_reducible rfl
  rotate_left
  · simp only [Act.put, sx1, sx2, sx3, i64_w, i32_w]
    rfl
  refine pure_ (i := 13) (N := some 24) (v := ?_) (a' := ?_) #[tt, tt, tt, tt, tt, tt, tt, tt, tt, tt, tt, tt, tt, tt, ff, ff, ff, ff, ff, ff, ff, ff, ff, ff, ff, ff, ff, ff, ff, ff, ff, ff, ff, ff, ff, ff, ff] rfl rfl (by kernel_rfl) (hq71 (by decide)) (Or.inl ⟨by rfl, ?_⟩) ?_ ?_
  rotate_left
  · intro w'
    go_simp
    with_reducible rfl
  rotate_left
  · simp only [Act.put, sx1, sx2, sx3, i64_w, i32_w]
    rfl
  refine pure_ (i := 14) (N := some 25) (v := ?_) (a' := ?_) #[tt, tt, tt, tt, tt, tt, tt, tt, tt, tt, tt, tt, tt, tt, tt, ff, ff, ff, ff, ff, ff, ff, ff, ff, ff, ff, ff, ff, ff, ff, ff, ff, ff, ff, ff, ff, ff] rfl rfl (by kernel_rfl) (hq71 (by decide)) (Or.inl ⟨by rfl, ?_⟩) ?_ ?_
  rotate_left
  · intro w'
    go_simp
    with_reducible rfl
  rotate_left
  · simp only [Act.put, sx1, sx2, sx3, i64_w, i32_w]
    rfl
  refine pure_ (i := 15) (N := some 26) (v := ?_) (a' := ?_) #[tt, tt, tt, tt, tt, tt, tt, tt, tt, tt, tt, tt, tt, tt, tt, tt, ff, ff, ff, ff, ff, ff, ff, ff, ff, ff, ff, ff, ff, ff, ff, ff, ff, ff, ff, ff, ff] rfl rfl (by kernel_rfl) (hq71 (by decide)) (Or.inl ⟨by rfl, ?_⟩) ?_ ?_
  rotate_left
  · intro w'
    go_simp
    with_reducible rfl
  rotate_left
  · simp only [Act.put, sx1, sx2, sx3, i64_w, i32_w]
    rfl
  refine pure_ (i := 16) (N := some 27) (v := ?_) (a' := ?_) #[tt, tt, tt, tt, tt, tt, tt, tt, tt, tt, tt, tt, tt, tt, tt, tt, tt, ff, ff, ff, ff, ff, ff, ff, ff, ff, ff, ff, ff, ff, ff, ff, ff, ff, ff, ff, ff] rfl rfl (by kernel_rfl) (hq71 (by decide)) (Or.inl ⟨by rfl, ?_⟩) ?_ ?_
  rotate_left
  · intro w'
    go_simp
    with_reducible rfl
  rotate_left
  · simp only [Act.put, sx1, sx2, sx3, i64_w, i32_w]
    rfl
  refine pure_ (i := 17) (N := some 28) (v := ?_) (a' := ?_) #[tt, tt, tt, tt, tt, tt, tt, tt, tt, tt, tt, tt, tt, tt, tt, tt, tt, tt, ff, ff, ff, ff, ff, ff, ff, ff, ff, ff, ff, ff, ff, ff, ff, ff, ff, ff, ff] rfl rfl (by kernel_rfl) (hq71 (by decide)) (Or.inl ⟨by rfl, ?_⟩) ?_ ?_
  rotate_left
  · intro w'
    go_simp
    with_reducible rfl
  rotate_left
  · simp only [Act.put, sx1, sx2, sx3, i64_w, i32_w]
    rfl
  refine take_ (i := 18) (N := some 29) (v := ?_) (a' := ?_) #[tt, tt, tt, tt, tt, tt, tt, tt, tt, tt, tt, tt, tt, tt, tt, tt, tt, tt, tt, ff, ff, ff, ff, ff, ff, ff, ff, ff, ff, ff, ff, ff, ff, ff, ff, ff, ff] rfl rfl (by kernel_rfl) (hq71 (by decide)) (Or.inl ⟨by rfl, ?_⟩) hHeld ?_ ?_
  rotate_left
  · rintro w' ⟨s0, s1, s2⟩
    go_simp
    with_reducible rfl
  rotate_left
  · simp only [Act.put, sx1, sx2, sx3, i64_w, i32_w]
    rfl
  refine pure_ (i := 19) (N := some 30) (v := ?_) (a' := ?_) #[tt, tt, tt, tt, tt, tt, tt, tt, tt, tt, tt, tt, tt, tt, tt, tt, tt, tt, tt, tt, ff, ff, ff, ff, ff, ff, ff, ff, ff, ff, ff, ff, ff, ff, ff, ff, ff] rfl rfl (by kernel_rfl) (hq71 (by decide)) (Or.inl ⟨by rfl, ?_⟩) ?_ ?_
  rotate_left
  · intro w'
    go_simp
    with_reducible rfl
  rotate_left
  · simp only [Act.put, sx1, sx2, sx3, i64_w, i32_w]
    rfl
  refine pure_ (i := 20) (N := some 31) (v := ?_) (a' := ?_) #[tt, tt, tt, tt, tt, tt, tt, tt, tt, tt, tt, tt, tt, tt, tt, tt, tt, tt, tt, tt, tt, ff, ff, ff, ff, ff, ff, ff, ff, ff, ff, ff, ff, ff, ff, ff, ff] rfl rfl (by kernel_rfl) (hq71 (by decide)) (Or.inl ⟨by rfl, ?_⟩) ?_ ?_
  rotate_left
  · intro w'
    go_simp
    with_reducible rfl
  rotate_left
  · simp only [Act.put, sx1, sx2, sx3, i64_w, i32_w]
    rfl
  refine pure_ (i := 21) (N := some 32) (v := ?_) (a' := ?_) #[tt, tt, tt, tt, tt, tt, tt, tt, tt, tt, tt, tt, tt, tt, tt, tt, tt, tt, tt, tt, tt, tt, ff, ff, ff, ff, ff, ff, ff, ff, ff, ff, ff, ff, ff, ff, ff] rfl rfl (by kernel_rfl) (hq71 (by decide)) (Or.inl ⟨by rfl, ?_⟩) ?_ ?_
  rotate_left
  · intro w'
    go_simp
    with_reducible rfl
  rotate_left
  · simp only [Act.put, sx1, sx2, sx3, i64_w, i32_w]
    rfl
  refine pure_ (i := 22) (N := some 33) (v := ?_) (a' := ?_) #[tt, tt, tt, tt, tt, tt, tt, tt, tt, tt, tt, tt, tt, tt, tt, tt, tt, tt, tt, tt, tt, tt, tt, ff, ff, ff, ff, ff, ff, ff, ff, ff, ff, ff, ff, ff, ff] rfl rfl (by kernel_rfl) (hq71 (by decide)) (Or.inl ⟨by rfl, ?_⟩) ?_ ?_
  rotate_left
  · intro w'
    go_simp
    with_reducible rfl
  rotate_left
  · simp only [Act.put, sx1, sx2, sx3, i64_w, i32_w]
    rfl
  refine pure_ (i := 23) (N := some 34) (v := ?_) (a' := ?_) #[tt, tt, tt, tt, tt, tt, tt, tt, tt, tt, tt, tt, tt, tt, tt, tt, tt, tt, tt, tt, tt, tt, tt, tt, ff, ff, ff, ff, ff, ff, ff, ff, ff, ff, ff, ff, ff] rfl rfl (by kernel_rfl) (hq71 (by decide)) (Or.inl ⟨by rfl, ?_⟩) ?_ ?_
  rotate_left
  · intro w'
    go_simp
    with_reducible rfl
  rotate_left
  · simp only [Act.put, sx1, sx2, sx3, i64_w, i32_w]
    rfl
  refine pure_ (i := 25) (N := some 36) (v := ?_) (a' := ?_) #[tt, tt, tt, tt, tt, tt, tt, tt, tt, tt, tt, tt, tt, tt, tt, tt, tt, tt, tt, tt, tt, tt, tt, tt, ff, tt, ff, ff, ff, ff, ff, ff, ff, ff, ff, ff, ff] rfl rfl (by kernel_rfl) (hq71 (by decide)) (Or.inl ⟨by rfl, ?_⟩) ?_ ?_
  rotate_left
  · intro w'
    go_simp
    with_reducible rfl
  rotate_left
  · simp only [Act.put, sx1, sx2, sx3, i64_w, i32_w]
    rfl
  refine one_ (i := 24) (N := some 35) #[tt, tt, tt, tt, tt, tt, tt, tt, tt, tt, tt, tt, tt, tt, tt, tt, tt, tt, tt, tt, tt, tt, tt, tt, tt, tt, ff, ff, ff, ff, ff, ff, ff, ff, ff, ff, ff] rfl rfl (by kernel_rfl) (by decide) (fun K hK => ?_)
  refine goes_ Try.func83 (by kernel_rfl) rfl #[.slice A4 (n - 4) (c - 4)] (by rfl) rfl rfl (by simp only [List.map_toArray, List.map_cons, List.map_nil]; rfl) ?_
  with_reducible refine (four_N A4 (n - 4) (c - 4) (l.drop 4) sq' _ (by rw [List.length_drop, HN.out]) (Nat.sub_le_sub_right HCC.out 4) (Kd.C_below HC4.out HD.out) H4.out).mono ?_
  rintro e u1 ⟨rfl, hb⟩
  refine ⟨_, rfl, ?_⟩
  have HU1 := Aside0.mk hb
  have HV1 := Aside0.mk (below_step HD.out hb)
  clear hb
  refine hK.out _ _ ⟨pw_cell_below HU1.out HB0.out, pw_cell_below HU1.out HB1.out, pw_cell_below HU1.out HB3.out⟩ (fun hHeld => ?_)
  clear hK K
  refine norm_ (a' := ?_) ?_ ?_
  rotate_left
  · show Act.put _ (some 35) _ = _
    simp only [Act.put, sx1, sx2, sx3, i64_w, i32_w]
    rfl
  refine pure_ (i := 26) (N := some 37) (v := ?_) (a' := ?_) #[tt, tt, tt, tt, tt, tt, tt, tt, tt, tt, tt, tt, tt, tt, tt, tt, tt, tt, tt, tt, tt, tt, tt, tt, tt, tt, tt, ff, ff, ff, ff, ff, ff, ff, ff, ff, ff] rfl rfl (by kernel_rfl) (hq71 (by decide)) (Or.inl ⟨by rfl, ?_⟩) ?_ ?_
  rotate_left
  · intro w'
    go_simp
    with_reducible rfl
  rotate_left
  · simp only [Act.put, sx1, sx2, sx3, i64_w, i32_w]
    rfl
  refine pure_ (i := 27) (N := some 38) (v := ?_) (a' := ?_) #[tt, tt, tt, tt, tt, tt, tt, tt, tt, tt, tt, tt, tt, tt, tt, tt, tt, tt, tt, tt, tt, tt, tt, tt, tt, tt, tt, tt, ff, ff, ff, ff, ff, ff, ff, ff, ff] rfl rfl (by kernel_rfl) (hq71 (by decide)) (Or.inl ⟨by rfl, ?_⟩) ?_ ?_
  rotate_left
  · intro w'
    go_simp
    with_reducible rfl
  rotate_left
  · simp only [Act.put, sx1, sx2, sx3, i64_w, i32_w]
    rfl
  refine pure_ (i := 28) (N := some 39) (v := ?_) (a' := ?_) #[tt, tt, tt, tt, tt, tt, tt, tt, tt, tt, tt, tt, tt, tt, tt, tt, tt, tt, tt, tt, tt, tt, tt, tt, tt, tt, tt, tt, tt, ff, ff, ff, ff, ff, ff, ff, ff] rfl rfl (by kernel_rfl) (hq71 (by decide)) (Or.inl ⟨by rfl, ?_⟩) ?_ ?_
  rotate_left
  · intro w'
    go_simp
    with_reducible rfl
  rotate_left
  · simp only [Act.put, sx1, sx2, sx3, i64_w, i32_w]
    rfl
  refine pure_ (i := 29) (N := some 40) (v := undef) (a' := ?_) #[tt, tt, tt, tt, tt, tt, tt, tt, tt, tt, tt, tt, tt, tt, tt, tt, tt, tt, tt, tt, tt, tt, tt, tt, tt, tt, tt, tt, tt, tt, ff, ff, ff, ff, ff, ff, ff] rfl rfl (by kernel_rfl) (hq71 (by decide)) (Or.inr ⟨by rfl, rfl⟩) ?_ ?_
  rotate_left
  · simp only [Act.put, sx1, sx2, sx3, i64_w, i32_w]
    rfl
  refine pure_ (i := 30) (N := some 41) (v := undef) (a' := ?_) #[tt, tt, tt, tt, tt, tt, tt, tt, tt, tt, tt, tt, tt, tt, tt, tt, tt, tt, tt, tt, tt, tt, tt, tt, tt, tt, tt, tt, tt, tt, tt, ff, ff, ff, ff, ff, ff] rfl rfl (by kernel_rfl) (hq71 (by decide)) (Or.inr ⟨by rfl, rfl⟩) ?_ ?_
  rotate_left
  · simp only [Act.put, sx1, sx2, sx3, i64_w, i32_w]
    rfl
  refine pure_ (i := 31) (N := some 42) (v := undef) (a' := ?_) #[tt, tt, tt, tt, tt, tt, tt, tt, tt, tt, tt, tt, tt, tt, tt, tt, tt, tt, tt, tt, tt, tt, tt, tt, tt, tt, tt, tt, tt, tt, tt, tt, ff, ff, ff, ff, ff] rfl rfl (by kernel_rfl) (hq71 (by decide)) (Or.inr ⟨by rfl, rfl⟩) ?_ ?_
  rotate_left
  · simp only [Act.put, sx1, sx2, sx3, i64_w, i32_w]
    rfl
  refine pure_ (i := 32) (N := some 43) (v := undef) (a' := ?_) #[tt, tt, tt, tt, tt, tt, tt, tt, tt, tt, tt, tt, tt, tt, tt, tt, tt, tt, tt, tt, tt, tt, tt, tt, tt, tt, tt, tt, tt, tt, tt, tt, tt, ff, ff, ff, ff] rfl rfl (by kernel_rfl) (hq71 (by decide)) (Or.inr ⟨by rfl, rfl⟩) ?_ ?_
  rotate_left
  · simp only [Act.put, sx1, sx2, sx3, i64_w, i32_w]
    rfl
  refine pure_ (i := 33) (N := some 44) (v := undef) (a' := ?_) #[tt, tt, tt, tt, tt, tt, tt, tt, tt, tt, tt, tt, tt, tt, tt, tt, tt, tt, tt, tt, tt, tt, tt, tt, tt, tt, tt, tt, tt, tt, tt, tt, tt, tt, ff, ff, ff] rfl rfl (by kernel_rfl) (hq71 (by decide)) (Or.inr ⟨by rfl, rfl⟩) ?_ ?_
  rotate_left
  · simp only [Act.put, sx1, sx2, sx3, i64_w, i32_w]
    rfl
  refine pure_ (i := 34) (N := some 45) (v := undef) (a' := ?_) #[tt, tt, tt, tt, tt, tt, tt, tt, tt, tt, tt, tt, tt, tt, tt, tt, tt, tt, tt, tt, tt, tt, tt, tt, tt, tt, tt, tt, tt, tt, tt, tt, tt, tt, tt, ff, ff] rfl rfl (by kernel_rfl) (hq71 (by decide)) (Or.inr ⟨by rfl, rfl⟩) ?_ ?_
  rotate_left
  · simp only [Act.put, sx1, sx2, sx3, i64_w, i32_w]
    rfl
  refine pure_ (i := 35) (N := some 46) (v := undef) (a' := ?_) #[tt, tt, tt, tt, tt, tt, tt, tt, tt, tt, tt, tt, tt, tt, tt, tt, tt, tt, tt, tt, tt, tt, tt, tt, tt, tt, tt, tt, tt, tt, tt, tt, tt, tt, tt, tt, ff] rfl rfl (by kernel_rfl) (hq71 (by decide)) (Or.inr ⟨by rfl, rfl⟩) ?_ ?_
  rotate_left
  · simp only [Act.put, sx1, sx2, sx3, i64_w, i32_w]
    rfl
  refine pure_ (i := 36) (N := some 47) (v := ?_) (a' := ?_) #[tt, tt, tt, tt, tt, tt, tt, tt, tt, tt, tt, tt, tt, tt, tt, tt, tt, tt, tt, tt, tt, tt, tt, tt, tt, tt, tt, tt, tt, tt, tt, tt, tt, tt, tt, tt, tt] rfl rfl (by kernel_rfl) (hq71 (by decide)) (Or.inl ⟨by rfl, ?_⟩) ?_ ?_
  rotate_left
  · intro w'
    go_simp
    with_reducible rfl
  rotate_left
  · simp only [Act.put, sx1, sx2, sx3, i64_w, i32_w]
    rfl
  refine done_ (by kernel_rfl) ?_
  have HV := HV1
  have HP4 := Aside0.mk ((HU1.out.block p4 (blk_lt HP4.out)).trans HP4.out)
  have HP5 := Aside0.mk ((HU1.out.block p5 (blk_lt HP5.out)).trans HP5.out)
  have HP6 := Aside0.mk ((HU1.out.block p6 (blk_lt HP6.out)).trans HP6.out)
  clear HB hHeld HU1 c0 c1 c3 HB0 HB1 HB3 HD
  go_wp2_with (with_reducible refine stop_store rfl ?_)
  refine store_blk rfl rfl 28 _ _ rfl (q := p4) (i := 0) (cur' := zeroCells13) zeroCells13.toList rfl rfl rfl (by kernel_rfl) (by intro u hu; simp at hu; rcases hu with rfl | rfl | rfl | rfl <;> rfl) HP4.out (by simp) rfl ?_
  intro w11 hpb hgb
  have HPB := Aside0.mk hpb
  have HVB := Aside0.mk (HV.out.grown hgb HV.out.size (fun k e => by cases e; exact HPW.out.1))
  have HP5 := Aside0.mk ((hgb.block p5 (blk_lt HP5.out) (fun e => by have := HPW.out; have := Option.some.inj e; omega)).trans HP5.out)
  have HP6 := Aside0.mk ((hgb.block p6 (blk_lt HP6.out) (fun e => by have := HPW.out; have := Option.some.inj e; omega)).trans HP6.out)
  clear hpb hgb HV
  have n5 := (blk_cell HP5.out 0).trans rfl
  have f5 := blk_frozen HP5.out 0
  have n6 := (blk_cell HP6.out 0).trans rfl
  have f6 := blk_frozen HP6.out 0
  have HN56 := Aside0.mk (show p5 ≠ p6 by have := HPW.out; omega)
  have hne := HN56.out
  go_wp2_with fail
  clear hne n5 n6 f5 f6
  obtain ⟨wy, hwy⟩ : ∃ wy, wy = w11.setCell ⟨p5, 0, none⟩ (.int .i64 0) := ⟨_, rfl⟩
  obtain ⟨wz, hwz⟩ : ∃ wz, wz = wy.setCell ⟨p6, 0, none⟩ (.bool false) := ⟨_, rfl⟩
  rw [← hwy, ← hwz]
  have k4 : wz.heap[p4]? = some (.cells zeroCells13 28 (0, 0)) := by
    have := HPW.out
    rw [hwz, Below.heap_setCell wy _ _ p4 (by simp only; omega), hwy, Below.heap_setCell w11 _ _ p4 (by simp only; omega)]
    exact HPB.out
  have k6 : wy.heap[p6]? = some (.cells #[.bool false] 4 (0, 0)) := by
    have := HPW.out
    rw [hwy, Below.heap_setCell w11 _ _ p6 (by simp only; omega)]
    exact HP6.out
  have c5 : wz.cell? ⟨p5, 0, none⟩ = some (.int .i64 0) := by
    have hy : wy.cell? ⟨p5, 0, none⟩ = some (.int .i64 0) := by rw [hwy]; exact World.cell?_setCell_same' _ _ _ (by rw [blk_cell HP5.out 0]; rfl)
    have := HPW.out
    have he : wz.heap[p5]? = wy.heap[p5]? := by rw [hwz, Below.heap_setCell wy _ _ p5 (by simp only; omega)]
    simp only [World.cell?, he] at hy ⊢
    exact hy
  have c6 : wz.cell? ⟨p6, 0, none⟩ = some (.bool false) := by rw [hwz]; exact World.cell?_setCell_same' _ _ _ (by rw [blk_cell k6 0]; rfl)
  have hBZ : Below w.heap.size w wz := by
    rw [hwz, hwy]
    exact (HVB.out.setCell (p := ⟨p5, 0, none⟩) (by have := HPW.out; simp only; omega) _).setCell (p := ⟨p6, 0, none⟩) (by have := HPW.out; simp only; omega) _
  exact door71 rfl (results71_row _ _ p4 p5 p6 _ _ _ rfl rfl rfl k4 rfl c5 c6) ⟨rfl, hBZ⟩
end Go.Proofs.Ytdbniihjkiecbaa.PW
namespace Go.Proofs.Ytdbniihjkiecbaa.PW
open Go.RowKit Go.Proofs.YtdbniihjkiecbaaW.PrintWords Go.Proofs.YtdbniihjkiecbaaW.PrintLast Go.Proofs.YtdbniihjkiecbaaW.PrintMore
set_option linter.unusedVariables false
set_option linter.unusedSimpArgs false

/-- d is what Encode writes of the records ys, numbered from k + 1 on. -/
def Enc : Nat → List JR → List Int → Prop
  | _, [], d => d = []
  | k, y :: ys, d => ∃ r1 d', y.enc ((k : Int) + 1) = (r1, 0) ∧ d = r1 ++ d' ∧ Enc (k + 1) ys d'
/-- ys are those of xs, in order, that Encode takes as number k + 1 and on, as far as it went. -/
def Pick : Nat → List JR → List JR → Prop
  | _, _, [] => True
  | _, [], _ :: _ => False
  | k, x :: xs, y :: ys => if (x.enc ((k : Int) + 1)).2 = 0 then x = y ∧ Pick (k + 1) xs ys else Pick k xs (y :: ys)
theorem enc_ok {y : JR} {sq : Int} {r1 : List Int} (h : y.enc sq = (r1, 0)) : bytesOk r1 = true ∧ 20 ≤ r1.length := by
  obtain ⟨h1, _⟩ := recEnc_parts h
  rw [h1, recBytes_len]
  refine ⟨?_, by omega⟩
  unfold recBytes
  exact withSum_ok (bytesOk_append (withSum_ok (recHead_ok ..)) (recBody_ok ..))
theorem Enc_snoc : ∀ (ys : List JR) (k : Nat) (d r1 : List Int) (y : JR), Enc k ys d → y.enc (((k + ys.length : Nat) : Int) + 1) = (r1, 0) → Enc k (ys ++ [y]) (d ++ r1)
  | [], k, d, r1, y, h, hr => by
    obtain rfl : d = [] := h
    exact ⟨r1, [], by simpa using hr, by simp, rfl⟩
  | z :: ys, k, d, r1, y, h, hr => by
    obtain ⟨r2, d', h1, rfl, h3⟩ := h
    refine ⟨r2, d' ++ r1, h1, by rw [List.append_assoc], Enc_snoc ys (k + 1) d' r1 y h3 ?_⟩
    rw [show k + 1 + ys.length = k + (z :: ys).length by rw [List.length_cons]; omega]
    exact hr
theorem Enc_ok : ∀ (ys : List JR) (k : Nat) (d : List Int), Enc k ys d → bytesOk d = true ∧ 20 * ys.length ≤ d.length
  | [], k, d, h => by
    obtain rfl : d = [] := h
    exact ⟨rfl, by simp⟩
  | z :: ys, k, d, h => by
    obtain ⟨r2, d', h1, rfl, h3⟩ := h
    obtain ⟨h4, h5⟩ := Enc_ok ys (k + 1) d' h3
    obtain ⟨h6, h7⟩ := enc_ok h1
    exact ⟨bytesOk_append h6 h4, by rw [List.length_append, List.length_cons]; omega⟩
theorem Enc_walks : ∀ (ys : List JR) (k : Nat) (pre d : List Int), Enc k ys d → (pre ++ d).length ≤ 1000000000 → Walks (pre ++ d) pre.length k ys
  | [], k, pre, d, h, hm => by
    obtain rfl : d = [] := h
    show RdSpec ((pre ++ []).drop pre.length) _ none
    rw [List.drop_left]
    intro w A n c hn hc hC
    obtain rfl : 0 = n := hn
    exact read_short w A 0 c _ (by omega)
  | z :: ys, k, pre, d, h, hm => by
    have h0 := h
    obtain ⟨r2, d', h1, rfl, h3⟩ := h
    obtain ⟨h4, h5⟩ := Enc_ok ys (k + 1) d' h3
    obtain ⟨h6, h7⟩ := enc_ok h1
    have hl : (pre ++ (r2 ++ d')).length = pre.length + r2.length + d'.length := by simp only [List.length_append]; omega
    refine ⟨r2.length, ?_, h7, by rw [hl]; omega, ?_⟩
    · rw [List.drop_left]
      exact rd_valid _ z r2 h1 d' h4 (by rw [List.length_append]; omega)
    · have := Enc_walks ys (k + 1) (pre ++ r2) d' h3 (by rw [List.append_assoc]; exact hm)
      rw [List.append_assoc, List.length_append] at this
      exact this
theorem wrGo_pick : ∀ (l : List JR) (d es : List Int) (ys : List JR), es.length = ys.length → Enc 0 ys d → ∃ zs, (wrGo l (d, es, ys)).2.2 = ys ++ zs ∧ Pick ys.length l zs ∧ Enc 0 (ys ++ zs) (wrGo l (d, es, ys)).1 ∧ (wrGo l (d, es, ys)).2.1.length = (ys ++ zs).length
  | [], d, es, ys, he, hE => ⟨[], by simp [wrGo], trivial, by simpa [wrGo] using hE, by simpa [wrGo] using he⟩
  | y :: l, d, es, ys, he, hE => by
    unfold wrGo
    by_cases h6 : d.length < 60000
    · rw [if_pos h6]
      by_cases h0 : (y.enc ((es.length : Int) + 1)).2 = 0
      · rw [if_pos h0]
        have hE2 : Enc 0 (ys ++ [y]) (d ++ (y.enc ((es.length : Int) + 1)).1) := Enc_snoc ys 0 d _ y hE (by rw [Nat.zero_add, ← he]; exact Prod.ext rfl h0)
        obtain ⟨zs, h1, h2, h3, h4⟩ := wrGo_pick l (d ++ (y.enc ((es.length : Int) + 1)).1) (es ++ [((d.length + (y.enc ((es.length : Int) + 1)).1.length : Nat) : Int)]) (ys ++ [y]) (by simp [he]) hE2
        refine ⟨y :: zs, by rw [h1]; simp, ?_, by rw [show ys ++ y :: zs = ys ++ [y] ++ zs by simp]; exact h3, by rw [h4]; simp⟩
        show (if (y.enc ((ys.length : Int) + 1)).2 = 0 then _ else _)
        rw [← he, if_pos h0]
        rw [List.length_append] at h2
        rw [he]
        exact ⟨rfl, h2⟩
      · rw [if_neg h0]
        obtain ⟨zs, h1, h2, h3, h4⟩ := wrGo_pick l d es ys he hE
        refine ⟨zs, h1, ?_, h3, h4⟩
        cases zs with
        | nil => trivial
        | cons z zs =>
          show (if (y.enc ((ys.length : Int) + 1)).2 = 0 then _ else _)
          rw [← he, if_neg h0, he]
          exact h2
    · rw [if_neg h6]
      exact ⟨[], by simp, trivial, by simpa using hE, by simpa using he⟩
theorem wrGo_len : ∀ (l : List JR) (d es : List Int) (ys : List JR), d.length ≤ 4100000 → (wrGo l (d, es, ys)).1.length ≤ 4100000
  | [], d, es, ys, h => h
  | y :: l, d, es, ys, h => by
    unfold wrGo
    by_cases h6 : d.length < 60000
    · rw [if_pos h6]
      by_cases h0 : (y.enc ((es.length : Int) + 1)).2 = 0
      · rw [if_pos h0]
        have := enc_len y ((es.length : Int) + 1)
        exact wrGo_len l _ _ _ (by rw [List.length_append]; omega)
      · rw [if_neg h0]
        exact wrGo_len l _ _ _ h
    · rw [if_neg h6]
      exact h
/-- A record that bears another number is not read. -/
theorem other_walks (y : JR) (sq : Int) (r1 : List Int) (h : y.enc sq = (r1, 0)) (hne : sq ≠ 1) : Walks r1 0 0 [] := by
  show RdSpec (r1.drop 0) 1 none
  rw [List.drop_zero]
  obtain ⟨h1, _, hsq, _⟩ := recEnc_parts h
  obtain ⟨hok, h20⟩ := enc_ok h
  intro w A n c hn hc hC
  obtain ⟨b, hb⟩ : ∃ b, b = (recBody y.kd y.s y.v y.k y.se y.rq y.ops y.vn y.vp y.vb y.st y.of y.x).1 := ⟨_, rfl⟩
  rw [← hb] at h1
  have hLx : r1 = 74 :: 82 :: (y.kd % 256) :: 0 :: (four4 sq ++ (four4 (b.length : Int) ++ (four4 (sumW (recHead sq y.kd b.length)) ++ (b ++ (four4 (sumW (withSum (recHead sq y.kd b.length) ++ b)) ++ []))))) := by
    have hp := rec_parts sq y.kd b []
    rw [List.append_nil] at hp
    rw [h1, hp]
    simp only [withSum, recHead, List.append_assoc, List.cons_append, List.nil_append]
  have hbl : n ≤ 4000000 := by
    have h9 : r1.length ≤ 4000000 := by
      have := enc_len y sq
      rw [h] at this
      exact this
    omega
  refine read_other w A n c r1 1 sq hn hc (by omega) hok hC (by omega) (by rw [hLx]; rfl) (by rw [hLx]; rfl) (by rw [hLx]; rfl) (by rw [hLx]; exact four_val sq (by omega) (by omega) _) (by simpa using hne)
end Go.Proofs.Ytdbniihjkiecbaa.PW
namespace Go.Proofs.Ytdbniihjkiecbaa.PW
open Go.RowKit Go.Proofs.YtdbniihjkiecbaaW.PrintWords Go.Proofs.YtdbniihjkiecbaaW.PrintLast Go.Proofs.YtdbniihjkiecbaaW.PrintMore
set_option linter.unusedVariables false
set_option linter.unusedSimpArgs false

abbrev b23 : List Int := [74, 82, 2, 0, 0, 0, 0, 1, 0, 0, 0, 3, 33, 207, 85, 44, 1, 1, 2, 223, 77, 86, 173]
set_option maxRecDepth 100000 in
theorem b23_enc : recEnc 1 2 0 0 0 0 0 [] 1 1 2 0 0 ⟨#[]⟩ = (b23, 0) := by
  decide +kernel
abbrev y23 : JR := ⟨2, 0, 0, 0, 0, 0, [], 1, 1, 2, 0, 0, ⟨#[]⟩⟩
theorem b23_rd1 : RdSpec b23 1 (some (y23, 23)) := by
  intro w A n c hn hc hC
  have h0 : (23 : Nat) = n := hn
  subst h0
  refine (read_ok w A 23 c b23 1 3 2 0 0 0 0 0 [] 1 1 2 0 0 ⟨#[]⟩ b23 rfl hc (by omega) (by decide +kernel) hC (by omega) (by decide) (by decide) (by decide) (by decide) (by decide +kernel) (by decide +kernel) (by decide +kernel) (by decide +kernel) b23_enc ?_).mono ?_
  · intro w1 rb A' c' hb hrb hc' hg hC'
    refine (rd_view w w1 rb 3 c' A' [1, 1, 2] 1 1 1 2 2 rfl hc' (by decide) (by omega) hC' hb hrb hg (by decide +kernel) (by decide +kernel) (by decide +kernel)).mono ?_
    rintro e w' ⟨rfl, hf⟩
    exact ⟨none, 0, 0, rfl, rfl, Kd.R_nil _ _ _ _ _, hf⟩
  · rintro e w' ⟨B, nb, cb, rfl, hl, hr, hb⟩
    obtain rfl : 0 = nb := hl
    exact ⟨B, cb, rfl, hr, hb⟩
theorem b23_rd2 : RdSpec [] 2 none := by
  intro w A n c hn hc hC
  obtain rfl : 0 = n := hn
  exact read_short w A 0 c 2 (by omega)
theorem b23_walks : Walks b23 0 0 [y23] := ⟨23, b23_rd1, by omega, by decide, b23_rd2⟩
end Go.Proofs.Ytdbniihjkiecbaa.PW
namespace Go.Proofs.Ytdbniihjkiecbaa.PW
open Go.RowKit Go.Proofs.YtdbniihjkiecbaaW.PrintWords Go.Proofs.YtdbniihjkiecbaaW.PrintLast Go.Proofs.YtdbniihjkiecbaaW.PrintMore
set_option linter.unusedVariables false
set_option linter.unusedSimpArgs false

/-- I speaks of cells, none of them in T, and abides new blocks and the turn of a block from B on that is no cells; what is new, and what it spoke not of, may be barred from then on. -/
def TOwn {σ : Type} (B : Nat) (I : (Nat → Prop) → σ → World → Prop) : Prop :=
  ∀ T s W W' row T', I T s W → W.grownBy W' row → (∀ r, row = some r → B ≤ r ∧ ∃ o : Obj, W.heap[r]? = some o ∧ o.isCells = false) → (∀ k, T' k → T k ∨ (W.heap.size ≤ k ∧ k < W'.heap.size)) → I T' s W'
section
variable {σ : Type} {B B' : Nat} {I : (Nat → Prop) → σ → World → Prop} {T T' : Nat → Prop} {s : σ} {W : World}
theorem TOwn.weak (h : TOwn B I) (hB : B ≤ B') : TOwn B' I := fun T s W W' row T' hs hg hr hT => h T s W W' row T' hs hg (fun r e => ⟨Nat.le_trans hB (hr r e).1, (hr r e).2⟩) hT
theorem TOwn.alloc (h : TOwn B I) (o : Obj) (hs : I T s W) (hT : ∀ k, T' k → T k ∨ k = W.heap.size) : I T' s (W.alloc o) := h T s W _ none T' hs (World.grownBy_alloc W o none) (fun r e => by cases e) (fun k hk => (hT k hk).imp_right (fun e => by rw [World.size_alloc]; omega))
theorem TOwn.drew (h : TOwn B I) (hs : I T s W) : I T s W.drew := h T s W W.drew none T hs ⟨rfl, rfl, rfl, Nat.le_refl _, fun _ _ _ => rfl⟩ (fun r e => by cases e) (fun k hk => .inl hk)
theorem TOwn.less (h : TOwn B I) (hs : I T s W) (hT : ∀ k, T' k → T k) : I T' s W := h T s W W none T' hs ⟨rfl, rfl, rfl, Nat.le_refl _, fun _ _ _ => rfl⟩ (fun r e => by cases e) (fun k hk => .inl (hT k hk))
theorem TOwn.putObj (h : TOwn B I) {l : Nat} {o : Obj} (o' : Obj) (hs : I T s W) (hB : B ≤ l) (hl : W.heap[l]? = some o) (ho : o.isCells = false) : I T s (W.putObj l o') :=
  h T s W _ (some l) T hs (grownBy_putObj' W l o') (fun r e => by cases e; exact ⟨hB, o, hl, ho⟩) (fun k hk => .inl hk)
end
/-- How the body of a round may be left. -/
def strPost (T : Nat → Prop) (good : World → Prop) (Ix : Code → World → Prop) (W : World) : Exit → Act → World → Prop
  | .normal, _, W' => (∀ k, T k → W'.heap[k]? = W.heap[k]?) ∧ good W'
  | .ret, _, W' => (∀ k, T k → W'.heap[k]? = W.heap[k]?) ∧ Ix .ret W'
  | .exit id, _, W' => (∀ k, T k → W'.heap[k]? = W.heap[k]?) ∧ Ix (.exit id) W'
  | .goto t, _, W' => (∀ k, T k → W'.heap[k]? = W.heap[k]?) ∧ Ix (.goto t) W'
  | .panic _, _, _ => False
  | .outgrown, _, _ => False

theorem OwnFrom.weak {β : Type} {B B' : Nat} {I : β → World → Prop} (h : OwnFrom B I) (hB : B ≤ B') : OwnFrom B' I := fun s W W' row hs hg hr => h s W W' row hs hg (fun r e => ⟨Nat.le_trans hB (hr r e).1, (hr r e).2⟩)
/-- In a round an operation that is no defer is carried out as everywhere (the wide fence). -/
theorem wpListIn_of {P : Program} {ops : Array Oper} {Q : Exit → Act → World → Prop} {n : Nat} (l₀ : Nat) : ∀ (L : List Oper) (a : Act) (w : World), ¬ LetsOut Q → (∀ o ∈ L, ∀ c, o.op ≠ .defer c) → wpList P ops Q L a w → wpListIn (Fence.wide.inRound l₀) n P ops Q L a w := by
  intro L
  induction L with
  | nil => intro a w _ _ h; exact h
  | cons o L ih =>
    intro a w hno hd h
    have hd' : ∀ o ∈ L, ∀ c, o.op ≠ .defer c := fun o ho => hd o (List.mem_cons_of_mem _ ho)
    unfold wpListIn
    unfold wpList at h
    split
    · rename_i hw
      rw [if_pos hw] at h
      refine ⟨fun _ _ => trivial, ?_⟩
      have hs : o.semAt (Fence.wide.inRound l₀).round a.eval = execOp a.eval o := Oper.semAt_some l₀ _ _ (hd o List.mem_cons_self)
      rw [hs]
      replace h := h.resolve_right (fun h2 => hno h2.2)
      unfold Oper.wp at h
      revert h
      cases hr : (execOp a.eval o).run P w with
      | ok x w' =>
        cases x with
        | value v => intro h; exact ih _ _ hno hd' h
        | skip => intro h; exact ih _ _ hno hd' h
        | defer d => intro h; exact ih _ _ hno hd' h
        | enter f args =>
          intro h
          refine ⟨fun h => by simp [Fence.wide, Fence.inRound] at h, CallsIn.inRound l₀ (callsIn_wide.2 (Calls.mono h ?_))⟩
          rintro (v | c | _) w'' h2
          · exact ih _ _ hno hd' h2
          · exact h2
          · exact h2
        | row r args => intro h; exact ⟨fun h => by simp [Fence.wide, Fence.inRound] at h, fun c cs _ => let ⟨v, w', r, s⟩ := h c cs; ⟨v, w', ih _ _ hno hd' r, stepsIn_wide.2 s⟩⟩
        | _ => intro h; exact h.elim
      | halt e w' =>
        cases e with
        | panic v => intro h; exact h
        | _ => intro h; exact h.elim
    · rename_i hw
      rw [if_neg hw] at h
      exact ⟨fun _ _ => trivial, ih _ _ hno hd' h⟩

/-- One operation that yields a value, under a wide fence. -/
theorem listIn_value {P : Program} {ops : Array Oper} {Q : Exit → Act → World → Prop} {n : Nat} {r : Option Nat} {o : Oper} {rest : List Oper} {a : Act} {W W1 : World} {v : Value} (hgd : o.guard = none) (hnd : ∀ c, o.op ≠ .defer c) (hrun : (execOp a.eval o).run P W = .ok (.value v) W1)
    (h : wpListIn { Fence.wide with round := r } n P ops Q rest (a.put o.dst v) W1) : wpListIn { Fence.wide with round := r } n P ops Q (o :: rest) a W := by
  refine wpListIn_plain hgd fun K hK => ⟨fun _ _ => trivial, ?_⟩
  have hs : o.semAt r a.eval = execOp a.eval o := by
    cases r with
    | none => rfl
    | some l₀ => exact Oper.semAt_some l₀ _ _ hnd
  show o.uponIn _ n P a K Q ((o.semAt r a.eval).run P W)
  rw [hs, hrun]
  exact hK _ _ h
theorem OwnFrom.drew {β : Type} {B : Nat} {I : β → World → Prop} (h : OwnFrom B I) {s : β} {W : World} (hs : I s W) : I s W.drew := h s W W.drew none hs ⟨rfl, rfl, rfl, Nat.le_refl _, fun _ _ _ => rfl⟩ (fun r e => by cases e)

/-- A plain region in a round (the wide fence). -/
theorem region_round {P : Program} {id : Nat} {L : List Oper} {Q : Exit → Act → World → Prop} {a : Act} {w : World} (l₀ : Nat) (hno : ¬ LetsOut Q) (hd : ∀ o ∈ L, ∀ c, o.op ≠ .defer c) (h : wpList P L.toArray Q L a w) : (Code.region id L.toArray false).wpIn (Fence.wide.inRound l₀) 0 P Q a w :=
  wpIn_region_lit (wpListIn_of l₀ L a w hno hd h)

/-- One operation, in a round. -/
theorem operIn_of {P : Program} {Q : Exit → Act → World → Prop} {n : Nat} (l₀ : Nat) {o : Oper} {a : Act} {w : World} {K K' : Act → World → Prop} (hd : ∀ c, o.op ≠ .defer c) (hK : ∀ a w, K a w → K' a w) (h : o.wp P a w K Q) : o.wpIn (Fence.wide.inRound l₀) n P a w K' Q := by
  refine ⟨fun _ _ => trivial, ?_⟩
  have hs : o.semAt (Fence.wide.inRound l₀).round a.eval = execOp a.eval o := Oper.semAt_some l₀ _ _ hd
  rw [hs]
  unfold Oper.wp at h
  revert h
  cases hr : (execOp a.eval o).run P w with
  | ok x w' =>
    cases x with
    | value v => intro h; exact hK _ _ h
    | skip => intro h; exact hK _ _ h
    | defer d => intro h; exact hK _ _ h
    | enter f args =>
      intro h
      refine ⟨fun h => by simp [Fence.wide, Fence.inRound] at h, CallsIn.inRound l₀ (callsIn_wide.2 (Calls.mono h ?_))⟩
      rintro (v | c | _) w'' h2
      · exact hK _ _ h2
      · exact h2
      · exact h2
    | row r args => intro h; exact ⟨fun h => by simp [Fence.wide, Fence.inRound] at h, fun c cs _ => let ⟨v, w', r, s⟩ := h c cs; ⟨v, w', hK _ _ r, stepsIn_wide.2 s⟩⟩
    | _ => intro h; exact h.elim
  | halt e w' =>
    cases e with
    | panic v => intro h; exact h
    | _ => intro h; exact h.elim
theorem wpAnyIn_of {P : Program} {md : Region.Mode} {ops : Array Oper} {Q : Exit → Act → World → Prop} {n : Nat} (l₀ : Nat) (hno : ¬ LetsOut Q) (hd : ∀ o ∈ ops, ∀ c, o.op ≠ .defer c) : ∀ (fuel : Nat) (listed : Array Bool) (a : Act) (w : World), wpAny P md ops Q fuel listed a w → wpAnyIn (Fence.wide.inRound l₀) n P md ops Q fuel listed a w := by
  intro fuel
  induction fuel with
  | zero => intro listed a w h; exact h
  | succ fuel ih =>
    intro listed a w h
    refine ⟨h.1, fun i hi => ?_⟩
    have h2 := h.2 i hi
    unfold wpOp at h2
    unfold wpOpIn
    cases ho : ops[i]? with
    | none => rw [ho] at h2; exact ih _ _ _ h2
    | some o =>
      rw [ho] at h2
      simp only at h2 ⊢
      split
      · rename_i hw
        rw [if_pos hw] at h2
        exact operIn_of l₀ (hd o (Array.mem_of_getElem? ho)) (fun a w => ih _ a w) (h2.resolve_right (fun h3 => hno h3.2))
      · rename_i hw
        rw [if_neg hw] at h2
        exact ⟨fun _ _ => trivial, ih _ _ _ h2⟩
theorem startIn_ {P : Program} {ops : Array Oper} {Q : Exit → Act → World → Prop} {S : World → Prop} {ds : List Nat} {id n : Nat} {a : Act} {w : World} (l₀ : Nat) (hno : ¬ LetsOut Q) (hd : ∀ o ∈ ops, ∀ c, o.op ≠ .defer c) (l : Array Bool) (hm : P.follows .mixedOrders = true) (hn : ops.size = n) (hl : Array.replicate n false = l) (hS : S w.drew)
    (h : S w.drew → wpAnyLast P .any ops Q S ds n l a w.drew) : (Code.region id ops true).wpIn (Fence.wide.inRound l₀) 0 P Q a w := by
  subst hn
  subst hl
  exact wpIn_region_any hm (wpAnyIn_of l₀ hno hd _ _ _ _ (wpAny_of_last _ _ _ _ (h hS)))


/-- What a round is handed: record y, its list of ops in blocks okx, which nobody else has. -/
def Handed (n0 : Nat) (T : Nat → Prop) (y : JR) (A : Option Addr) (c : Nat) (okx : Nat → Prop) (W : World) : Prop :=
  Kd.R k40 40 W n0 okx (.slice A y.ops.length c) y.ops ∧ (∀ j, okx j → ¬ T j ∧ n0 ≤ j ∧ j < W.heap.size)
/-- An iterator that hands the records of L on, each in new memory: function g, whose captured variable is block Bn. -/
def ItWalk (P : Program) (g Bn : Nat) (D : World → Prop) (L : List JR) (W : World) : Prop :=
  ∀ (l : Nat) (J : (Nat → Prop) → Nat → World → Prop) (Jx : World → Prop) (T0 : Nat → Prop), TOwn W.heap.size J → OwnFrom W.heap.size (fun (_ : Unit) => Jx) → (∀ j, T0 j → j < W.heap.size) → (∀ T k W, J T k W → D W) →
    (∀ T k y A c okx W1, (∀ j, T0 j → T j) → (∀ j, T j → j < W1.heap.size) → L[k]? = some y → J (fun j => T j ∨ okx j) k W1 → Handed W.heap.size T y A c okx W1 →
      YieldAt Fence.wide 0 P l (jargs k y A c) W1 fun e W' => ((e = .returned (.bool true) ∧ J T (k + 1) W') ∨ (e = .returned (.bool false) ∧ Jx W')) ∧ ∀ j, T j → W.heap.size ≤ j → j < W1.heap.size → W'.heap[j]? = W1.heap[j]?) →
    J T0 0 W →
    Calls P g #[.func (.yield l) #[] #[], .pointer (some ⟨Bn, 0, none⟩)] W fun e W' => (∃ v, e = .returned v) ∧ (J T0 L.length W' ∨ Jx W')
variable {P : Program}
/-- The loop over such an iterator, in a frame that is no round. -/
theorem rangeWalk {g : Operand} {ps : Array Tmp} {assign body : Code} {Q : Exit → Act → World → Prop} {a : Act} {w : World} {gf Bn : Nat} (a₁ : Nat → JR → Option Addr → Nat → Nat → Act) (D : World → Prop) (L : List JR)
    (hg : a.eval g = .func (.func gf) #[] #[.pointer (some ⟨Bn, 0, none⟩)]) (eg : ∀ args w, (callFunc gf args).run P w = .ok (.enter gf args) w)
    (hps : ps.size = 2)
    (I : (Nat → Prop) → Nat → World → Prop) (Ix : Code → World → Prop) (T0 : Nat → Prop) (hI : TOwn w.heap.size I) (hIx : ∀ c, OwnFrom w.heap.size (fun (_ : Unit) => Ix c)) (h0 : I T0 0 w) (hT0 : ∀ j, T0 j → j < w.heap.size)
    (hD : ∀ T k W, I T k W → D W) (hit : ∀ T W, I T 0 W → ItWalk P gf Bn D L W)
    (hassign : ∀ (l : Nat) (k : Nat) (y : JR) (A : Option Addr) (c : Nat) (W : World) (K : Act → World → Prop), K (a₁ k y A c W.heap.size) (W.alloc (.cells (y.cells A c) 28)) →
      assign.wpIn (Fence.wide.inRound l) 0 P (Exit.then K (fun _ _ _ => False)) { tmps := (ps.zip (jargs k y A c)).foldl (fun t (p, v) => t.setIfInBounds p v) a.tmps, defers := [] } W)
    (hbody : ∀ (T : Nat → Prop) (l k : Nat) (y : JR) (A : Option Addr) (c : Nat) (okx : Nat → Prop) (B : Nat) (W : World), (∀ k, T0 k → T k) → (∀ j, T j → j < W.heap.size) → T l → w.heap.size ≤ l → (∃ r, W.heap[l]? = some (.loop r)) → L[k]? = some y → I (fun j => T j ∨ okx j) k W → Handed w.heap.size T y A c okx W →
      w.heap.size ≤ B → W.heap[B]? = some (.cells (y.cells A c) 28 (0, 0)) →
      body.wpIn (Fence.wide.inRound l) 0 P (strPost (fun k => T k ∧ w.heap.size ≤ k) (fun W' => I T (k + 1) W') Ix W) (a₁ k y A c B) W)
    (hdone : ∀ (D : Nat) (W : World), w.heap.size ≤ D → I T0 L.length W → W.heap[D]? = some (.deferred (some [])) → Q .normal { a with defers := { target := .collected D, args := #[] } :: a.defers } W)
    (hstop : ∀ (D : Nat) (c : Code) (W : World), w.heap.size ≤ D → Ix c W → W.heap[D]? = some (.deferred (some [])) → c.wp P Q { a with defers := { target := .collected D, args := #[] } :: a.defers } W) :
    (Code.rangeFunc g ps assign body).wp P Q a w := by
  refine (wpIn_wide (n := 0)).1 ?_
  refine wpIn_rangeFunc ?_
  intro fn hfn
  show ∃ (l : Nat) (mark : List Deferred) (w₁ : World) (d : Deferred) (w₁' : World) (f : FuncId) (args : Array Value) (w₂ : World),
      (Instr.enterLoop fn a.tmps ps assign body none).run P w = .ok (l, mark) w₁ ∧ _
  obtain ⟨rec, hrec⟩ : ∃ rec : LoopState → Option Code → Loop, rec = fun st pe => { state := st, pending := pe, fn, tmps := a.tmps, params := ps, assign, body, defers := w.heap.size } := ⟨_, rfl⟩
  obtain ⟨W1, hW1⟩ : ∃ W1, (w.alloc (.deferred (some []))).alloc (.loop (rec .ready none)) = W1 := ⟨_, rfl⟩
  have hs1 : W1.heap.size = w.heap.size + 2 := by rw [← hW1]; simp
  have hL1 : W1.heap[w.heap.size + 1]? = some (.loop (rec .ready none)) := by
    rw [← hW1]; have := World.alloc_heap_new (w.alloc (.deferred (some []))) (.loop (rec .ready none)); rwa [World.size_alloc] at this
  have hK1 : W1.heap[w.heap.size]? = some (.deferred (some [])) := by
    rw [← hW1]; exact (Below.heap_alloc _ _ _ (by simp)).trans (World.alloc_heap_new w _)
  obtain ⟨T1, hT1⟩ : ∃ T1 : Nat → Prop, T1 = fun k => T0 k ∨ k = w.heap.size ∨ k = w.heap.size + 1 := ⟨_, rfl⟩
  have hI1 : I T1 0 W1 := by rw [← hW1, hT1]; exact hI.alloc (T := fun k => T0 k ∨ k = w.heap.size) _ (hI.alloc _ h0 (fun k hk => hk)) (fun k hk => by simp only [World.size_alloc]; rcases hk with h | h | h; exact .inl (.inl h); exact .inl (.inr h); exact .inr h)
  refine ⟨w.heap.size + 1, [{ target := .collected w.heap.size, args := #[] }], W1, { target := .fn (.func gf) #[.pointer (some ⟨Bn, 0, none⟩)], args := #[.func (.yield (w.heap.size + 1)) #[] #[]] }, W1, gf,
    #[.func (.yield (w.heap.size + 1)) #[] #[]] ++ #[.pointer (some ⟨Bn, 0, none⟩)], W1, ?_, ?_, ?_, ?_, fun h => by simp [Fence.wide] at h, ?_⟩
  · rw [← hW1, hrec]; exact run_enterLoop_outer _ _ _ _ _
  · simp only [resolve, hg]
    simp [go_sem]
  · intro f' hf'; trivial
  · simp [invoke, go_sem, eg]
  · have hR : ∀ {A B : World} {row : Option Nat} {k : Nat} {o : Obj}, A.grownBy B row → (∀ r, row = some r → W1.heap.size ≤ r ∧ ∃ o : Obj, A.heap[r]? = some o ∧ o.isCells = false) → k < w.heap.size + 2 → A.heap[k]? = some o → B.heap[k]? = some o :=
      fun hg' hr hk ho => (hg'.block _ (blk_lt ho) (fun e => by have := (hr _ e.symm).1; omega)).trans ho
    refine (callsIn_wide.2 (hit T1 W1 hI1 (w.heap.size + 1)
      (fun T s W => I T s W ∧ W.heap[w.heap.size + 1]? = some (.loop (rec .ready none)) ∧ W.heap[w.heap.size]? = some (.deferred (some [])))
      (fun W => ∃ c, Ix c W ∧ W.heap[w.heap.size + 1]? = some (.loop (rec .done (some c))) ∧ W.heap[w.heap.size]? = some (.deferred (some []))) T1
      (fun T s A B row T' hs hg' hr hT => ⟨TOwn.weak hI (by omega) T s A B row T' hs.1 hg' hr hT, hR hg' hr (by omega) hs.2.1, hR hg' hr (by omega) hs.2.2⟩)
      (fun s A B row hs hg' hr => by
        obtain ⟨c, hc, hl, hk⟩ := hs
        exact ⟨c, OwnFrom.weak (hIx c) (by omega) () A B row hc hg' hr, hR hg' hr (by omega) hl, hR hg' hr (by omega) hk⟩)
      (fun j hj => by rw [hT1] at hj; rcases hj with h | h | h <;> first | (have := hT0 j h; omega) | omega) (fun T k W hs => hD T k W hs.1) ?_ ⟨hI1, hL1, hK1⟩)).mono ?_
    · -- ONE ROUND
      rintro T s y A c okx W hT0' hTlt hy0 ⟨hi, hl, hk⟩ hhand
      have hTl : T (w.heap.size + 1) := hT0' _ (by rw [hT1]; exact .inr (.inr rfl))
      have hTd : T w.heap.size := hT0' _ (by rw [hT1]; exact .inr (.inl rfl))
      have hTT : ∀ k, T0 k → T k := fun k hk => hT0' k (by rw [hT1]; exact .inl hk)
      have hlt : w.heap.size + 1 < W.heap.size := (Array.getElem?_eq_some_iff.1 hl).1
      have hy := run_yield (P := P) (args := (jargs s y A c)) hl (by rw [hrec]; simp [hps])
      rw [hrec] at hy
      refine ⟨fn, _, assign, body, hy, roundIn_of_wpIn hfn (hassign _ s y A c W _ ?_)⟩
      obtain ⟨WB, hWB⟩ : ∃ WB, WB = W.alloc (.cells (y.cells A c) 28) := ⟨_, rfl⟩
      rw [← hWB]
      have hBb : Below W.heap.size W WB := by rw [hWB]; exact below_alloc (Below.refl _ _) _
      have hlB : WB.heap[w.heap.size + 1]? = some (.loop (rec .ready none)) := (hBb.block _ hlt).trans hl
      have hkB : WB.heap[w.heap.size]? = some (.deferred (some [])) := (hBb.block _ (by omega)).trans hk
      have hnB : WB.heap[W.heap.size]? = some (.cells (y.cells A c) 28 (0, 0)) := by rw [hWB]; exact heap_alloc_new _ _
      have hiB : I (fun j => T j ∨ okx j) s WB := by rw [hWB]; exact hI.alloc _ hi (fun k hk => .inl hk)
      have hltB : w.heap.size + 1 < WB.heap.size := blk_lt hlB
      refine ⟨_, run_beginRound hlB (by rw [hrec]), ?_⟩
      have hl2 : (WB.putObj (w.heap.size + 1) (.loop { rec .ready none with state := .busy })).heap[w.heap.size + 1]? = some (.loop { rec .ready none with state := .busy }) := World.putObj_heap_same hltB
      have hk2 : (WB.putObj (w.heap.size + 1) (.loop { rec .ready none with state := .busy })).heap[w.heap.size]? = some (.deferred (some [])) := (World.putObj_heap_other (by omega)).trans hkB
      have hn2 : (WB.putObj (w.heap.size + 1) (.loop { rec .ready none with state := .busy })).heap[W.heap.size]? = some (.cells (y.cells A c) 28 (0, 0)) := (World.putObj_heap_other (by omega)).trans hnB
      have hsz2 : (WB.putObj (w.heap.size + 1) (.loop { rec .ready none with state := .busy })).heap.size = WB.heap.size := by simp [World.putObj]
      have hhand2 : Handed w.heap.size T y A c okx (WB.putObj (w.heap.size + 1) (.loop { rec .ready none with state := .busy })) := by
        obtain ⟨h1, h2⟩ := hhand
        refine ⟨Kd.R_lower (Kd.R_step h1 (fun k hk hlt2 => ?_)) (by omega), fun j hj => ⟨(h2 j hj).1, by have := (h2 j hj).2.1; omega, by rw [hsz2]; exact Nat.lt_of_lt_of_le (h2 j hj).2.2 hBb.size⟩⟩
        exact (World.putObj_heap_other (fun e => (h2 k hk).1 (by rw [e]; exact hTl))).trans (hBb.block k hlt2)
      refine wpIn_mono (hbody T _ s y A c okx W.heap.size _ hTT (fun j hj => by rw [hsz2]; exact Nat.lt_of_lt_of_le (hTlt j hj) hBb.size) hTl (by omega) ⟨_, hl2⟩ hy0 (hI.putObj _ hiB (by omega) hlB rfl) hhand2 (by omega) hn2) ?_
      have fin : ∀ (jump : Option Code) (W3 : World), (∀ k, T k ∧ w.heap.size ≤ k → W3.heap[k]? = (WB.putObj (w.heap.size + 1) (.loop { rec .ready none with state := .busy })).heap[k]?) →
          (Instr.endRound (w.heap.size + 1) jump).run P W3 = .ok (.bool jump.isNone) (W3.putObj (w.heap.size + 1) (.loop (rec (if jump.isNone then .ready else .done) jump))) ∧
          W3.heap[w.heap.size + 1]? = some (.loop { rec .ready none with state := .busy }) ∧
          (W3.putObj (w.heap.size + 1) (.loop (rec (if jump.isNone then .ready else .done) jump))).heap[w.heap.size + 1]? = some (.loop (rec (if jump.isNone then .ready else .done) jump)) ∧
          (W3.putObj (w.heap.size + 1) (.loop (rec (if jump.isNone then .ready else .done) jump))).heap[w.heap.size]? = some (.deferred (some [])) ∧
          (∀ k, T k → W1.heap.size ≤ k → k < W.heap.size → (W3.putObj (w.heap.size + 1) (.loop (rec (if jump.isNone then .ready else .done) jump))).heap[k]? = W.heap[k]?) := fun jump W3 hk3 => by
        have hl3 := (hk3 _ ⟨hTl, by omega⟩).trans hl2
        have := run_endRound (P := P) jump hl3
        rw [hrec] at this ⊢
        exact ⟨this, by rw [hrec] at hl3; exact hl3, World.putObj_heap_same (Array.getElem?_eq_some_iff.1 hl3).1, (World.putObj_heap_other (by omega)).trans ((hk3 _ ⟨hTd, Nat.le_refl _⟩).trans hk2), fun k hTk hsz hkW => (World.putObj_heap_other (by omega)).trans ((hk3 k ⟨hTk, by omega⟩).trans ((World.putObj_heap_other (by omega)).trans (hBb.block k hkW)))⟩
      rintro e a3 W3 hp
      cases e with
      | normal =>
        obtain ⟨hk3, hi3⟩ := hp
        obtain ⟨hr, hl3, hl4, hk4, hT4⟩ := fin none W3 hk3
        exact ⟨_, _, hr, .inl ⟨rfl, hI.putObj _ hi3 (by omega) hl3 rfl, hl4, hk4⟩, hT4⟩
      | ret =>
        obtain ⟨hk3, hi3⟩ := hp
        obtain ⟨hr, hl3, hl4, hk4, hT4⟩ := fin (some .ret) W3 hk3
        exact ⟨_, _, hr, .inr ⟨rfl, .ret, (hIx _).putObj (s := ()) _ hi3 (by omega) hl3 rfl, hl4, hk4⟩, hT4⟩
      | exit id =>
        obtain ⟨hk3, hi3⟩ := hp
        obtain ⟨hr, hl3, hl4, hk4, hT4⟩ := fin (some (.exit id)) W3 hk3
        exact ⟨_, _, hr, .inr ⟨rfl, .exit id, (hIx _).putObj (s := ()) _ hi3 (by omega) hl3 rfl, hl4, hk4⟩, hT4⟩
      | goto t =>
        obtain ⟨hk3, hi3⟩ := hp
        obtain ⟨hr, hl3, hl4, hk4, hT4⟩ := fin (some (.goto t)) W3 hk3
        exact ⟨_, _, hr, .inr ⟨rfl, .goto t, (hIx _).putObj (s := ()) _ hi3 (by omega) hl3 rfl, hl4, hk4⟩, hT4⟩
      | panic ch => exact hp.elim
      | outgrown => exact hp.elim
    · -- BEHIND THE ITERATOR
      rintro e W2 ⟨⟨v, rfl⟩, (⟨hi, hl, hk⟩ | ⟨c, hi, hl, hk⟩)⟩
      · exact ⟨none, _, by have := run_endLoop (P := P) hl (by rw [hrec]; simp); rw [hrec] at this; exact this, hdone _ _ (Nat.le_refl _) (hI.less (hI.putObj _ hi (by omega) hl rfl) (fun k hk => by rw [hT1]; exact .inl hk)) ((World.putObj_heap_other (by omega)).trans hk)⟩
      · exact ⟨some c, _, by have := run_endLoop (P := P) hl (by rw [hrec]; simp); rw [hrec] at this; exact this, (wpIn_wide (n := 0)).2 (hstop _ c _ (Nat.le_refl _) ((hIx c).putObj (s := ()) _ hi (by omega) hl rfl) ((World.putObj_heap_other (by omega)).trans hk))⟩
end Go.Proofs.Ytdbniihjkiecbaa.PW
namespace Go.Proofs.Ytdbniihjkiecbaa.PW
open Go.RowKit Go.Proofs.YtdbniihjkiecbaaW.PrintWords Go.Proofs.YtdbniihjkiecbaaW.PrintLast Go.Proofs.YtdbniihjkiecbaaW.PrintMore
set_option linter.unusedVariables false
set_option linter.unusedSimpArgs false
attribute [local go_sem] Oper.semAt_some

/-- A call of yield with two arguments, under a wide fence. -/
theorem listIn_yield2 {P : Program} {ops : Array Oper} {Q : Exit → Act → World → Prop} {r : Option Nat} {o : Oper} {rest : List Oper} {a : Act} {W : World} {R : Ending → World → Prop} {l : Nat} (x y z : Operand) (ts : Array TypeId) (hgd : o.guard = none) (ho : o.op = .call { callee := .value x, args := #[y, z], argTypes := ts })
    (hx : a.eval x = .func (.yield l) #[] #[]) {v u : Value} (hy : a.eval y = v) (hz : a.eval z = u) (hY : YieldAt Fence.wide 0 P l #[v, u] W R)
    (h : ∀ v W', R (.returned v) W' → wpListIn { Fence.wide with round := r } 0 P ops Q rest (a.put o.dst v) W') (hp : ∀ c W', ¬ R (.panicked c) W') (hg : ∀ W', ¬ R .outgrown W') : wpListIn { Fence.wide with round := r } 0 P ops Q (o :: rest) a W := by
  refine wpListIn_plain hgd fun K hK => ⟨fun _ _ => trivial, ?_⟩
  have hs : o.semAt r a.eval = execOp a.eval o := by
    cases r with
    | none => rfl
    | some l₀ => exact Oper.semAt_some l₀ _ _ (by rw [ho]; simp)
  obtain ⟨fn, tmps, assign, body, hrun, hR⟩ := hY
  have hrun2 : (execOp a.eval o).run P W = .ok (.round l fn tmps assign body) W := by
    unfold execOp
    simp [ho, resolve, invoke, hx, hy, hz, Deferred.ofValue, hrun, Sem.run_bind, Result.andThen]
  show o.uponIn _ 0 P a K Q ((o.semAt r a.eval).run P W)
  rw [hs, hrun2]
  refine ⟨fun h => by simp [Fence.wide] at h, RoundIn.mono (F := { Fence.wide with round := r }) hR ?_⟩
  rintro (v | c | _) W' hr
  · exact hK _ _ (h v W' hr)
  · exact (hp _ _ hr).elim
  · exact (hg _ hr).elim
set_option maxHeartbeats 4000000 in
set_option maxRecDepth 100000 in
theorem hand_61 (q l k : Nat) (y : JR) (A : Option Addr) (c : Nat) (at_ : Int) (W : World) (R : Ending → World → Prop) (hq : W.cell? ⟨q, 0, none⟩ = some (.func (.yield l) #[] #[]))
    (hY : YieldAt Fence.wide 0 Try.prog l (jargs k y A c) (W.alloc (.cells (y.cells A c) 28)) R) (hR : ∀ e W', R e W' → ∃ b, e = .returned (.bool b)) :
    Calls Try.prog 61 #[.int .i64 ((k : Int) + 1), .int .i64 at_, .agg (y.cells A c), .pointer (some ⟨q, 0, none⟩)] W R := by
  have HY := Aside0.mk hY
  have HR := Aside0.mk hR
  have HQ := Aside0.mk hq
  clear hY hR hq
  go_enter Try.func61, Try.ntmps61
  go_upto_region 1 with (fail)
  have h42 : (W.alloc (.cells (y.cells A c) 28)).cell? ⟨q, 0, none⟩ = some (.func (.yield l) #[] #[]) := pw_cell_below (below_alloc (Below.refl _ _) _) HQ.out
  have HB := Aside0.mk (heap_alloc_new W (.cells (y.cells A c) 28))
  obtain ⟨W1, hW1⟩ : ∃ W1, W1 = W.alloc (.cells (y.cells A c) 28) := ⟨_, rfl⟩
  obtain ⟨g, hg⟩ : ∃ g, g = W.heap.size := ⟨_, rfl⟩
  rw [← hW1, ← hg] at HB
  rw [← hW1] at HY h42
  rw [← hW1, ← hg]
  clear hW1 hg
  have b0 := (blk_cell HB.out 0).trans rfl
  have b1 := (blk_cell HB.out 1).trans rfl
  have b2 := (blk_cell HB.out 2).trans rfl
  have b3 := (blk_cell HB.out 3).trans rfl
  have b4 := (blk_cell HB.out 4).trans rfl
  have b5 := (blk_cell HB.out 5).trans rfl
  have b6 := (blk_cell HB.out 6).trans rfl
  have b7 := (blk_cell HB.out 7).trans rfl
  have b8 := (blk_cell HB.out 8).trans rfl
  have b9 := (blk_cell HB.out 9).trans rfl
  have b10 := (blk_cell HB.out 10).trans rfl
  have b11 := (blk_cell HB.out 11).trans rfl
  have b12 := (blk_cell HB.out 12).trans rfl
  have hu28 := Try.underlying28
  have hu26 := Try.underlying26
  have hu24 := Try.underlying24
  refine (wpIn_wide (n := 0)).1 ?_
  refine wpIn_region_lit ?_
  refine listIn_value (r := none) (W1 := W1) (v := .func (.yield l) #[] #[]) rfl (by simp) ?_ ?_
  · go_simp
  refine listIn_value (r := none) (W1 := W1) (v := .int .i64 ((k : Int) + 1)) rfl (by simp) (by rfl) ?_
  refine listIn_value (r := none) (W1 := W1) (v := .agg (y.cells A c)) rfl (by simp) ?_ ?_
  · go_simp
  refine listIn_yield2 (r := none) (.tmp 8) (.tmp 9) (.tmp 10) _ rfl rfl (by rfl) (by rfl) (by rfl) HY.out ?_ (fun c W' h => by obtain ⟨b, hb⟩ := HR.out _ _ h; cases hb) (fun W' h => by obtain ⟨b, hb⟩ := HR.out _ _ h; cases hb)
  intro v W' hR
  obtain ⟨b, hb⟩ := HR.out _ _ hR
  cases hb
  have HRR := Aside0.mk hR
  clear b0 b1 b2 b3 b4 b5 b6 b7 b8 b9 b10 b11 b12 h42 hR HB
  refine listIn_value (r := none) rfl (by simp) (by rfl) ?_
  refine wpListIn_nil ?_
  go_wp2
  refine bodyPost_ret (results_tmp rfl _ _ _) rfl ?_
  exact HRR.out
theorem wr_k2 {k : Nat} (h : k ≤ 1000000000) : wrap64 ((k : Int) + 1 + 1) = ((k + 1 : Nat) : Int) + 1 := by unfold wrap64; omega
set_option maxHeartbeats 16000000 in
set_option maxRecDepth 100000 in
theorem walked_W (N0 q l : Nat) (A : Option Addr) (n c : Nat) (lb : List Int) (L : List JR) (J : (Nat → Prop) → Nat → World → Prop) (Jx : World → Prop) (T0 : Nat → Prop) (W : World)
    (hn : lb.length = n) (hc : n ≤ c) (hmx : n ≤ 1000000000) (hWk : Walks lb 0 0 L) (hJ : TOwn N0 J) (hT0 : ∀ j, T0 j → j < W.heap.size) (hD : ∀ T k W, J T k W → C8 W A n lb) (hTq : T0 q) (hq0 : N0 ≤ q)
    (hq : W.heap[q]? = some (.cells #[.func (.yield l) #[] #[]] 42 (0, 0)))
    (hY : ∀ T k y A c okx W1, (∀ j, T0 j → T j) → (∀ j, T j → j < W1.heap.size) → L[k]? = some y → J (fun j => T j ∨ okx j) k W1 → Handed N0 T y A c okx W1 →
      YieldAt Fence.wide 0 Try.prog l (jargs k y A c) W1 fun e W' => ((e = .returned (.bool true) ∧ J T (k + 1) W') ∨ (e = .returned (.bool false) ∧ Jx W')) ∧ ∀ j, T j → N0 ≤ j → j < W1.heap.size → W'.heap[j]? = W1.heap[j]?)
    (h0 : J T0 0 W) :
    Calls Try.prog 60 #[.slice A n c, .func (.func 61) #[] #[.pointer (some ⟨q, 0, none⟩)]] W fun e W' => (∃ v, e = .returned v) ∧ (J T0 L.length W' ∨ Jx W') := by
  have HN := Aside0.mk hn
  have HC := Aside0.mk hc
  have HM := Aside0.mk hmx
  have HJ := Aside0.mk hJ
  have HD := Aside0.mk hD
  have HT0 := Aside0.mk hT0
  have HTq := Aside0.mk hTq
  have HQ0 := Aside0.mk hq0
  have HQ := Aside0.mk hq
  have HY := Aside0.mk hY
  have H0 := Aside0.mk h0
  have HW := Aside0.mk hWk
  clear hn hc hmx hJ hD hT0 hTq hq0 hq hY h0 hWk
  go_enter Try.func60, Try.ntmps60
  go_wp2
  go_loopg [4, 5] L.length (fun kq v4 v5 wr => ∃ (k at_ : Nat) (pre L' : List JR), v4 = .int .i64 (at_ : Int) ∧ v5 = .int .i64 ((k : Int) + 1) ∧ Aside0 (L'.length = kq ∧ L = pre ++ L' ∧ pre.length = k) ∧ Aside0 (Walks lb at_ k L') ∧ at_ ≤ n ∧ 20 * k ≤ at_ ∧ Aside0 (J T0 k wr) ∧ Aside0 (wr.heap[q]? = some (.cells #[.func (.yield l) #[] #[]] 42 (0, 0))) ∧ Aside0 (∀ j, T0 j → j < wr.heap.size))
  case atStart => exact ⟨0, 0, [], L, rfl, rfl, ⟨rfl, rfl, rfl⟩, HW, by omega, by omega, H0, HQ, HT0⟩
  case round =>
    obtain ⟨k, at_, pre, L', rfl, rfl, HL, HWK, hatn, hat, HJK, HQK, HTK⟩ := hrel
    have hk1 : decide ((k : Int) + 1 ≤ 2147483647) = true := decide_eq_true (by have := HM.out; omega)
    obtain ⟨Aa, hca, hCa⟩ := cutf8 (A := A) (n := n) (c := c) (xs := lb) at_ (by omega) HC.out
    have HCA := Aside0.mk (hCa wr (HD.out T0 k wr HJK.out))
    have HAT := Aside0.mk (And.intro hatn hat)
    clear hCa
    cases L' with
    | nil =>
      have hr := HWK.out
      go_wp2_with fail
      refine (hr wr Aa (n - at_) (c - at_) (by rw [List.length_drop, HN.out]) (Nat.sub_le_sub_right HC.out at_) HCA.out).mono ?_
      rintro e w2 ⟨rfl, hb⟩
      have HB := Aside0.mk hb
      clear hb hr
      go_wp2
      refine bodyPost_ret (results_none rfl _ _ _) rfl ?_
      refine ⟨⟨_, rfl⟩, .inl ?_⟩
      obtain ⟨h1, h2, h3⟩ := HL.out
      rw [h2, List.append_nil, h3]
      exact (HJ.out T0 k wr _ none _ HJK.out (grown_of_below (below_alloc HB.out _) none) (fun r e => by cases e) (fun j hj => .inl hj))
    | cons y L2 =>
      obtain ⟨m, hr, hm20, hle, hrest⟩ := HWK.out
      have HREST := Aside0.mk hrest
      have HM20 := Aside0.mk (And.intro hm20 hle)
      have hwa : wrap64 ((at_ : Int) + (m : Int)) = ((at_ + m : Nat) : Int) := by have := HM.out; have := HN.out; exact (by unfold wrap64; omega)
      clear hrest hm20 hle hatn hat
      go_wp2_with fail
      refine (hr wr Aa (n - at_) (c - at_) (by rw [List.length_drop, HN.out]) (Nat.sub_le_sub_right HC.out at_) HCA.out).mono ?_
      rintro e w2 ⟨B, cb, rfl, ho, hb⟩
      have HB := Aside0.mk hb
      have HO := Aside0.mk ho
      clear hb hr ho
      go_wp2_with fail
      obtain ⟨W2, hW2⟩ : ∃ W2, W2 = w2.alloc (.cells (y.cells B cb) 28) := ⟨_, rfl⟩
      obtain ⟨W3, hW3⟩ : ∃ W3, W3 = W2.alloc (.cells (y.cells B cb) 28) := ⟨_, rfl⟩
      have HB2 := Aside0.mk (show Below wr.heap.size wr W2 by rw [hW2]; exact below_alloc HB.out _)
      have HB3 := Aside0.mk (show Below wr.heap.size wr W3 by rw [hW3]; exact below_alloc HB2.out _)
      have HW23 := Aside0.mk (show Below w2.heap.size w2 W3 by rw [hW3]; exact below_alloc (show Below w2.heap.size w2 W2 by rw [hW2]; exact below_alloc (Below.refl _ _) _) _)
      have hyld := HY.out T0 k y B cb (fun j => wr.heap.size ≤ j ∧ j < w2.heap.size) W3 (fun j h => h) (fun j hj => Nat.lt_of_lt_of_le (HTK.out j hj) HB3.out.size)
        (by obtain ⟨_, h2, h3⟩ := HL.out; rw [h2, ← h3]; simp)
        (HJ.out T0 k wr W3 none _ HJK.out (grown_of_below HB3.out none) (fun r e => by cases e) (fun j hj => hj.imp_right (fun h => ⟨h.1, Nat.lt_of_lt_of_le h.2 HW23.out.size⟩)))
        ⟨Kd.R_lower (Kd.R_below (Kd.R_mono (Kd.R_bound HO.out) (fun j hj => ⟨hj.2.1, hj.2.2.1⟩)) HW23.out) (Nat.le_trans HQ0.out (Nat.le_of_lt (blk_lt HQK.out))), fun j hj => ⟨fun h => absurd (HTK.out j h) (Nat.not_lt.2 hj.1), Nat.le_trans (Nat.le_trans HQ0.out (Nat.le_of_lt (blk_lt HQK.out))) hj.1, Nat.lt_of_lt_of_le hj.2 HW23.out.size⟩⟩
      have HYL := Aside0.mk hyld
      have hq2 : W2.cell? ⟨q, 0, none⟩ = some (.func (.yield l) #[] #[]) := (blk_cell ((HB2.out.block q (blk_lt HQK.out)).trans HQK.out) 0).trans rfl
      clear hyld
      rw [← hW2]
      refine (hand_61 q l k y B cb _ W2 _ hq2 (by rw [← hW3]; exact HYL.out) (by rintro e W' ⟨(⟨rfl, _⟩ | ⟨rfl, _⟩), _⟩ <;> exact ⟨_, rfl⟩)).mono ?_
      rintro e W' ⟨(⟨rfl, hj⟩ | ⟨rfl, hjx⟩), hT⟩
      · have HJ' := Aside0.mk hj
        have HQ' := Aside0.mk (show W'.heap[q]? = some (.cells #[.func (.yield l) #[] #[]] 42 (0, 0)) from (hT q HTq.out HQ0.out (Nat.lt_of_lt_of_le (blk_lt HQK.out) HB3.out.size)).trans ((HB3.out.block q (blk_lt HQK.out)).trans HQK.out))
        have HTK' := Aside0.mk (show ∀ j, T0 j → j < W'.heap.size from fun j hj => by
          by_cases hjn : N0 ≤ j
          · have h1 := hT j hj hjn (Nat.lt_of_lt_of_le (HTK.out j hj) HB3.out.size)
            rw [Array.getElem?_eq_getElem (Nat.lt_of_lt_of_le (HTK.out j hj) HB3.out.size)] at h1
            exact (Array.getElem?_eq_some_iff.1 h1).1
          · exact Nat.lt_trans (Nat.lt_of_lt_of_le (Nat.lt_of_not_le hjn) HQ0.out) (blk_lt HQ'.out))
        clear hj hT hq2 hW2 hW3
        go_wp2
        go_roundg L2.length
        case measure => have := HL.out.1; simp at this; omega
        case rel => exact ⟨k + 1, at_ + m, pre ++ [y], L2, by simp, by rw [wr_k2 (by have h1 := HM20.out; have h2 := HAT.out; have h3 := HM.out; omega)], ⟨rfl, by rw [HL.out.2.1]; simp, by simp [HL.out.2.2]⟩, HREST, by have := HM20.out; have := HN.out; omega, by have := HM20.out; have := HAT.out; omega, HJ', HQ', HTK'⟩
      · have HJX := Aside0.mk hjx
        clear hjx hT hq2 hW2 hW3
        go_wp2
        refine bodyPost_ret (results_none rfl _ _ _) rfl ?_
        exact ⟨⟨_, rfl⟩, .inr HJX.out⟩
set_option maxHeartbeats 4000000 in
set_option maxRecDepth 100000 in
/-- Walk's iterator meets the contract. -/
theorem it59 (Bn : Nat) (A : Option Addr) (n c : Nat) (lb : List Int) (L : List JR) (W : World) (hn : lb.length = n) (hc : n ≤ c) (hmx : n ≤ 1000000000) (hWk : Walks lb 0 0 L) (hbox : W.cell? ⟨Bn, 0, none⟩ = some (.slice A n c)) :
    ItWalk Try.prog 59 Bn (fun W => C8 W A n lb) L W := by
  intro l J Jx T0 hJ hJx hT0 hD hY h0
  have HN := Aside0.mk hn
  have HC := Aside0.mk hc
  have HM := Aside0.mk hmx
  have HW := Aside0.mk hWk
  have HJ := Aside0.mk hJ
  have HT0 := Aside0.mk hT0
  have HD := Aside0.mk hD
  have HY := Aside0.mk hY
  have H0 := Aside0.mk h0
  have hmf : ∀ (fn : Fn) (first cap : Array Value) (w : World), (Instr.makeFunc fn first cap).run Try.prog w = .ok (.func fn first cap) w := fun _ _ _ _ => rfl
  clear hn hc hmx hWk hJ hJx hT0 hD hY h0
  go_enter Try.func59, Try.ntmps59
  go_upto_region 1 with (fail)
  have hb1 : (W.alloc (.cells #[.func (.yield l) #[] #[]] 42)).cell? ⟨Bn, 0, none⟩ = some (.slice A n c) := pw_cell_below (below_alloc (Below.refl _ _) _) hbox
  have HQ := Aside0.mk (heap_alloc_new W (.cells #[.func (.yield l) #[] #[]] 42))
  have HJ1 := Aside0.mk (HJ.out.alloc (.cells #[.func (.yield l) #[] #[]] 42) H0.out (T' := fun j => T0 j ∨ j = W.heap.size) (fun j hj => hj))
  have HS := Aside0.mk (show (W.alloc (.cells #[.func (.yield l) #[] #[]] 42)).heap.size = W.heap.size + 1 by simp)
  clear hbox
  go_wp2_with fail
  refine (walked_W W.heap.size W.heap.size l A n c lb L J Jx (fun j => T0 j ∨ j = W.heap.size) _ HN.out HC.out HM.out HW.out HJ.out
    (fun j hj => by rw [HS.out]; rcases hj with h | h; (have := HT0.out j h; omega); omega) HD.out (.inr rfl) (Nat.le_refl _) HQ.out
    (fun T k y A2 c2 okx W1 hT hlt hy hj hh => HY.out T k y A2 c2 okx W1 (fun j hj => hT j (.inl hj)) hlt hy hj hh) HJ1.out).mono ?_
  rintro e W' ⟨⟨v, rfl⟩, h⟩
  have HZ := Aside0.mk h
  clear h
  go_wp2
  go_end0
  exact ⟨⟨_, rfl⟩, HZ.out.imp_left (fun h => HJ.out.less h (fun j hj => .inl hj))⟩
end Go.Proofs.Ytdbniihjkiecbaa.PW
namespace Go.Proofs.Ytdbniihjkiecbaa.PW
open Go.RowKit Go.Proofs.YtdbniihjkiecbaaW.PrintWords Go.Proofs.YtdbniihjkiecbaaW.PrintLast Go.Proofs.YtdbniihjkiecbaaW.PrintMore
set_option linter.unusedVariables false
set_option linter.unusedSimpArgs false

/-- What a Saved holds: view, matched, stamp, of, state, entries, commit. -/
abbrev savedCells (vn vp vb ma st of : Int) (x : ByteArray) (E : Option Addr) (ne ce : Nat) (co : Int) : Array Value := #[.int .i64 vn, .int .i64 vp, .int .i64 vb, .int .i64 ma, .int .i64 st, .int .i64 of, .string x, .slice E ne ce, .int .i64 co]
set_option maxHeartbeats 4000000 in
set_option maxRecDepth 100000 in
theorem known_view (s v k se rq : Int) (A : Option Addr) (n c : Nat) (vn vp vb st of : Int) (x : ByteArray) (w : World) :
    Calls Try.prog 36 #[.agg (recCells 2 s v k se rq A n c vn vp vb st of x)] w fun e w' => e = .returned (.iface 113 (.agg #[.int .i64 vn, .int .i64 vp, .int .i64 vb])) ∧ Below w.heap.size w w' := by
  have hu28 := Try.underlying28
  have hu26 := Try.underlying26
  have hu24 := Try.underlying24
  have hu113 := Try.underlying113
  go_enter Try.func36, Try.ntmps36
  go_wp2_with fail
  refine bodyPost_ret (results_tmp rfl _ _ _) rfl ?_
  exact ⟨rfl, below_alloc (Below.refl _ _) _⟩
set_option maxHeartbeats 4000000 in
set_option maxRecDepth 100000 in
theorem fits_view (vn vp vb : Int) (p : Nat) (cs : Array Value) (sn : Int) (b : Bool) (w : World) (hp : w.heap[p]? = some (.cells cs 53 (0, 0))) (hs : cs[0]? = some (.int .i64 sn)) :
    Calls Try.prog 127 #[.agg #[.int .i64 vn, .int .i64 vp, .int .i64 vb], .pointer (some ⟨p, 0, none⟩), .bool b] w fun e w' => e = .returned (.bool (decide (sn < vn))) ∧ Below w.heap.size w w' := by
  have hu113 := Try.underlying113
  have hc := (blk_cell hp 0).trans hs
  go_enter Try.func127, Try.ntmps127
  go_wp2_with fail
  obtain ⟨g, hg⟩ : ∃ g, g = w.heap.size := ⟨_, rfl⟩
  obtain ⟨w1, hw1⟩ : ∃ w1, w1 = w.alloc (.cells #[.int .i64 vn, .int .i64 vp, .int .i64 vb] 113) := ⟨_, rfl⟩
  rw [← hw1, ← hg]
  have hb1 : Below w.heap.size w w1 := by rw [hw1]; exact below_alloc (Below.refl _ _) _
  have hg1 : w1.heap[g]? = some (.cells #[.int .i64 vn, .int .i64 vp, .int .i64 vb] 113 (0, 0)) := by rw [hw1, hg]; exact heap_alloc_new w _
  have HB := Aside0.mk hb1
  have q0 : w1.cell? ⟨g, 0, none⟩ = some (.int .i64 vn) := blk_cell hg1 0
  have q1 : w1.cell? ⟨p, 0, none⟩ = some (.int .i64 sn) := pw_cell_below hb1 hc
  clear hw1 hg hb1 hg1 hc hp hs
  go_quiet (fail)
  go_wp2
  go_ret
  exact ⟨rfl, below_then HB.out HB.out.size (Drawn0.below ⟨⟨nq, rfl⟩⟩)⟩
set_option maxHeartbeats 4000000 in
set_option maxRecDepth 100000 in
theorem says_view (vn vp vb : Int) (p : Nat) (a1 a2 a3 ma st of : Int) (x : ByteArray) (E : Option Addr) (ne ce : Nat) (co : Int) (w : World) (hp : w.heap[p]? = some (.cells (savedCells a1 a2 a3 ma st of x E ne ce co) 53 (0, 0))) :
    Calls Try.prog 128 #[.agg #[.int .i64 vn, .int .i64 vp, .int .i64 vb], .pointer (some ⟨p, 0, none⟩)] w fun e w' => (∃ v, e = .returned v) ∧ w'.heap[p]? = some (.cells (savedCells vn vp vb ma st of x E ne ce co) 53 (0, 0)) ∧ Frm w w' (fun k => k = p) := by
  have hu113 := Try.underlying113
  go_enter Try.func128, Try.ntmps128
  go_wp2_with (with_reducible refine stop_store rfl ?_)
  have HB := Aside0.mk (show Below w.heap.size w (w.alloc (.cells #[.int .i64 vn, .int .i64 vp, .int .i64 vb] 113)) from below_alloc (Below.refl _ _) _)
  have HP := Aside0.mk ((HB.out.block p (blk_lt hp)).trans hp)
  refine store_blk rfl rfl 26 _ _ rfl (q := p) (i := 0) (cur' := savedCells vn vp vb ma st of x E ne ce co) [.int .i64 vn, .int .i64 vp, .int .i64 vb] rfl rfl rfl (by kernel_rfl) (by intro u hu; simp at hu; rcases hu with rfl | rfl | rfl <;> rfl) HP.out (by simp) rfl ?_
  intro w2 hp2 hg2
  go_wp2
  go_end0
  refine ⟨⟨_, rfl⟩, hp2, ?_⟩
  exact (Frm.of_below HB.out (fun k => k = p)).then_ (Frm.of_grown (S := fun k => k = p) hg2 (fun k e => (Option.some.inj e).symm)) (fun k h _ => h)
end Go.Proofs.Ytdbniihjkiecbaa.PW
namespace Go.Proofs.Ytdbniihjkiecbaa.PW
open Go.RowKit Go.Proofs.YtdbniihjkiecbaaW.PrintWords Go.Proofs.YtdbniihjkiecbaaW.PrintLast Go.Proofs.YtdbniihjkiecbaaW.PrintMore
set_option linter.unusedVariables false
set_option linter.unusedSimpArgs false
attribute [local go_sem] Oper.semAt_some

/-- A block of cells. -/
def Celly (W : World) (j : Nat) : Prop := ∃ cs q, W.heap[j]? = some (.cells cs q (0, 0))
theorem Celly.lt {W : World} {j : Nat} (h : Celly W j) : j < W.heap.size := by obtain ⟨cs, q, h⟩ := h; exact blk_lt h
theorem R_celly {α : Type} {d : Kd α} {e base : Nat} {ok : Nat → Prop} {w : World} {v : Value} {xs : List α} (h : d.R e w base ok v xs) : d.R e w base (fun k => ok k ∧ base ≤ k ∧ Celly w k) v xs :=
  Kd.R_mono (Kd.R_bound h) (fun k hk => ⟨hk.1, hk.2.1, by obtain ⟨q, _, cs, hc⟩ := hk.2.2.2; exact ⟨cs, q, hc⟩⟩)
/-- What a turn of a block that is no cells, or new blocks, leave alone. -/
theorem celly_grown {W W' : World} {row : Option Nat} {j B : Nat} (hc : Celly W j) (hg : W.grownBy W' row) (hr : ∀ r, row = some r → B ≤ r ∧ ∃ o : Obj, W.heap[r]? = some o ∧ o.isCells = false) : W'.heap[j]? = W.heap[j]? := by
  obtain ⟨cs, q, h⟩ := hc
  refine hg.block j (blk_lt h) (fun e => ?_)
  obtain ⟨_, o, ho, hc⟩ := hr j e.symm
  rw [h] at ho
  cases ho
  cases hc
theorem Celly.grown {W W' : World} {row : Option Nat} {j B : Nat} (hc : Celly W j) (hg : W.grownBy W' row) (hr : ∀ r, row = some r → B ≤ r ∧ ∃ o : Obj, W.heap[r]? = some o ∧ o.isCells = false) : Celly W' j := by
  have := celly_grown hc hg hr
  obtain ⟨cs, q, h⟩ := hc
  exact ⟨cs, q, this.trans h⟩
theorem blk_celly {W W' : World} {row : Option Nat} {j B : Nat} {cs : Array Value} {q : TypeId} (h : W.heap[j]? = some (.cells cs q (0, 0))) (hg : W.grownBy W' row) (hr : ∀ r, row = some r → B ≤ r ∧ ∃ o : Obj, W.heap[r]? = some o ∧ o.isCells = false) : W'.heap[j]? = some (.cells cs q (0, 0)) := (celly_grown ⟨cs, q, h⟩ hg hr).trans h
theorem szA (W : World) (o : Obj) : (W.alloc o).heap.size = W.heap.size + 1 := by show (W.heap.push o).size = _; rw [Array.size_push]
/-- Walk: a closure over the bytes. -/
theorem Walk_C (A : Option Addr) (n c : Nat) (w : World) : Calls Try.prog 35 #[.slice A n c] w fun e w' => e = .returned (.func (.func 59) #[] #[.pointer (some ⟨w.heap.size, 0, none⟩)]) ∧ w' = w.alloc (.cells #[.slice A n c] 29) := by
  have hmf : ∀ (fn : Fn) (first cap : Array Value) (w : World), (Instr.makeFunc fn first cap).run Try.prog w = .ok (.func fn first cap) w := fun _ _ _ _ => rfl
  go_enter Try.func35, Try.ntmps35
  go_wp2
  go_ret
  exact ⟨rfl, rfl⟩
theorem blk5 (w : World) (o0 o1 o2 o3 o4 : Obj) {W : World} (hW : W = ((((w.alloc o0).alloc o1).alloc o2).alloc o3).alloc o4) : W.heap[w.heap.size]? = some o0 ∧ W.heap[w.heap.size + 1]? = some o1 ∧ W.heap[w.heap.size + 2]? = some o2 ∧ W.heap[w.heap.size + 3]? = some o3 ∧ W.heap[w.heap.size + 4]? = some o4 ∧ W.heap.size = w.heap.size + 5 ∧ Below w.heap.size w W := by
  subst hW
  have s1 := szA w o0
  have s2 := szA (w.alloc o0) o1
  have s3 := szA ((w.alloc o0).alloc o1) o2
  have s4 := szA (((w.alloc o0).alloc o1).alloc o2) o3
  have s5 := szA ((((w.alloc o0).alloc o1).alloc o2).alloc o3) o4
  have n0 := heap_alloc_new w o0
  have n1 := heap_alloc_new (w.alloc o0) o1
  have n2 := heap_alloc_new ((w.alloc o0).alloc o1) o2
  have n3 := heap_alloc_new (((w.alloc o0).alloc o1).alloc o2) o3
  have n4 := heap_alloc_new ((((w.alloc o0).alloc o1).alloc o2).alloc o3) o4
  have b2 : Below (w.alloc o0).heap.size (w.alloc o0) ((w.alloc o0).alloc o1) := below_alloc (Below.refl _ _) _
  have b3 : Below ((w.alloc o0).alloc o1).heap.size ((w.alloc o0).alloc o1) (((w.alloc o0).alloc o1).alloc o2) := below_alloc (Below.refl _ _) _
  have b4 : Below (((w.alloc o0).alloc o1).alloc o2).heap.size (((w.alloc o0).alloc o1).alloc o2) ((((w.alloc o0).alloc o1).alloc o2).alloc o3) := below_alloc (Below.refl _ _) _
  have b5 : Below ((((w.alloc o0).alloc o1).alloc o2).alloc o3).heap.size ((((w.alloc o0).alloc o1).alloc o2).alloc o3) (((((w.alloc o0).alloc o1).alloc o2).alloc o3).alloc o4) := below_alloc (Below.refl _ _) _
  rw [s1] at n1
  rw [s2, s1] at n2
  rw [s3, s2, s1] at n3
  rw [s4, s3, s2, s1] at n4
  refine ⟨?_, ?_, ?_, ?_, ?_, by omega, below_alloc (below_alloc (below_alloc (below_alloc (below_alloc (Below.refl _ _) _) _) _) _) _⟩
  · exact (b5.block _ (by omega)).trans ((b4.block _ (by omega)).trans ((b3.block _ (by omega)).trans ((b2.block _ (by omega)).trans n0)))
  · exact (b5.block _ (by omega)).trans ((b4.block _ (by omega)).trans ((b3.block _ (by omega)).trans n1))
  · exact (b5.block _ (by omega)).trans ((b4.block _ (by omega)).trans n2)
  · exact (b5.block _ (by omega)).trans n3
  · exact n4
abbrev S23 (k : Nat) : Array Value := if k = 0 then savedCells 0 0 0 0 0 0 ⟨#[]⟩ none 0 0 0 else savedCells 1 1 2 0 0 0 ⟨#[]⟩ none 0 0 0
/-- A code that ends as it goes on: no panic is to be thought of. -/
theorem wp_normal {P : Program} {c : Code} {Q : Exit → Act → World → Prop} {a : Act} {w : World} (h : c.wp P (fun e a w => e = .normal ∧ Q .normal a w) a w) : c.wp P Q a w :=
  wp_mono h (fun e a w he => by obtain ⟨rfl, hq⟩ := he; exact hq)
/-- Between two rounds. -/
def RI (w0 : World) (A : Option Addr) (c : Nat) (T : Nat → Prop) (k : Nat) (W : World) : Prop :=
  W.heap[w0.heap.size]? = some (.cells (savedCells 0 0 0 0 0 0 ⟨#[]⟩ none 0 0 0) 53 (0, 0)) ∧ W.heap[w0.heap.size + 1]? = some (.cells (S23 k) 53 (0, 0)) ∧ W.heap[w0.heap.size + 2]? = some (.cells #[.int .i64 (k : Int)] 3 (0, 0)) ∧ W.heap[w0.heap.size + 3]? = some (.cells #[.int .i64 (23 * (k : Int))] 3 (0, 0)) ∧
    W.heap[w0.heap.size + 4]? = some (.cells #[.slice A 23 c] 29 (0, 0)) ∧ Below w0.heap.size w0 W ∧ ∀ j, T j → w0.heap.size + 5 ≤ j
theorem RI_own (w0 : World) (A : Option Addr) (c : Nat) : TOwn (w0.heap.size + 5) (RI w0 A c) := by
  rintro T k W W' row T' ⟨h1, h2, h3, h4, h5, h6, h7⟩ hg hr hT
  refine ⟨blk_celly h1 hg hr, blk_celly h2 hg hr, blk_celly h3 hg hr, blk_celly h4 hg hr, blk_celly h5 hg hr, h6.grown hg h6.size (fun r e => by have := (hr r e).1; omega), fun j hj => ?_⟩
  rcases hT j hj with h | h
  · exact h7 j h
  · have := blk_lt h5
    omega
theorem wr23 : wrap64 23 = 23 := by unfold wrap64; omega
theorem results20_row (tmps : Array Value) (w : World) (p : Nat) (cs : Array Value) (v3 v4 : Value) (h2 : tmps[2]? = some (.pointer (some ⟨p, 0, none⟩))) (h3 : tmps[3]? = some v3) (h4 : tmps[4]? = some v4) (hg : w.heap[p]? = some (.cells cs 53 (0, 0))) (hs : cs.size = 9) :
    (results Try.f20 tmps).run Try.prog w = .ok (.tuple #[.agg cs, v3, v4]) w := by
  have hl := run_loadVar_row (P := Try.prog) w p 53 53 cs (0, 0) _ hg Try.underlying53 rfl (by rw [hs]; kernel_rfl)
  simp [results, Try.results20, h2, h3, h4, asAddr, hl, Sem.run_bind, Sem.run_pure, Result.andThen_ok]
set_option maxHeartbeats 16000000 in
set_option maxRecDepth 100000 in
theorem recover_23 (w : World) (A : Option Addr) (c : Nat) (hC : C8 w A 23 b23) (hc : 23 ≤ c) :
    Calls Try.prog 20 #[.slice A 23 c] w fun e w' => e = .returned (.tuple #[.agg (savedCells 1 1 2 0 0 0 ⟨#[]⟩ none 0 0 0), .int .i64 1, .int .i64 23]) ∧ Below w.heap.size w w' := by
  have HC := Aside0.mk hC
  have HCC := Aside0.mk hc
  have hu53 := Try.underlying53
  have hu28 := Try.underlying28
  have hu26 := Try.underlying26
  have hu24 := Try.underlying24
  clear hC hc
  refine (callsIn_wide (n := 0)).1 (callsIn_of_wp_marks Try.func20 rfl trivial ?_)
  refine (wpIn_wide (n := 0)).2 ?_
  simp only [Try.ntmps20, List.size_toArray, List.length_cons, List.length_nil, Nat.reduceAdd, Nat.reduceSub, Array.replicate_succ, Array.replicate_zero, List.push_toArray, List.append_toArray, List.nil_append, List.cons_append]
  go_wp2_with fail
  refine (Walk_C A 23 c _).mono ?_
  rintro e w1 ⟨rfl, rfl⟩
  obtain ⟨w1, hw1⟩ : ∃ w1, w1 = ((((w.alloc (.cells (savedCells 0 0 0 0 0 0 ⟨#[]⟩ none 0 0 0) 53)).alloc (.cells (savedCells 0 0 0 0 0 0 ⟨#[]⟩ none 0 0 0) 53)).alloc (.cells #[.int .i64 0] 3)).alloc (.cells #[.int .i64 0] 3)).alloc (.cells #[.slice A 23 c] 29) := ⟨_, rfl⟩
  have hsz : ((((w.alloc (.cells (savedCells 0 0 0 0 0 0 ⟨#[]⟩ none 0 0 0) 53)).alloc (.cells (savedCells 0 0 0 0 0 0 ⟨#[]⟩ none 0 0 0) 53)).alloc (.cells #[.int .i64 0] 3)).alloc (.cells #[.int .i64 0] 3)).heap.size = w.heap.size + 4 := by rw [szA, szA, szA, szA]
  obtain ⟨b0, b1, b2, b3, b4, b5, b6⟩ := blk5 w _ _ _ _ _ hw1
  rw [← hw1, hsz]
  have HB := Aside0.mk (And.intro b0 (And.intro b1 (And.intro b2 (And.intro b3 (And.intro b4 (And.intro b5 b6))))))
  clear hw1 hsz b0 b1 b2 b3 b4 b5 b6
  have hI0 : RI w A c (fun _ => False) 0 w1 := ⟨HB.out.1, HB.out.2.1, HB.out.2.2.1, HB.out.2.2.2.1, HB.out.2.2.2.2.1, HB.out.2.2.2.2.2.2, fun j hj => hj.elim⟩
  obtain ⟨b, hb⟩ : ∃ b, b = w.heap.size := ⟨_, rfl⟩
  rw [← hb]
  have HBW := Aside0.mk hb
  clear hb
  go_wp2
  refine rangeWalk (gf := 59) (Bn := b + 4) (fun k y A' c' B => { tmps := #[.slice A 23 c, undef, .pointer (some ⟨b, 0, none⟩), .int .i64 0, .int .i64 0, .pointer (some ⟨b + 1, 0, none⟩), .pointer (some ⟨b + 2, 0, none⟩), .pointer (some ⟨b + 3, 0, none⟩), .int .i64 ((k : Int) + 1), .pointer (some ⟨B, 0, none⟩), undef, undef, undef, .slice A 23 c, .func (.func 59) #[] #[.pointer (some ⟨b + 4, 0, none⟩)], .int .i64 ((k : Int) + 1), .agg (y.cells A' c'), undef, undef, undef, undef, undef, undef, undef, undef, undef, undef, undef, undef, undef, undef, undef, undef, undef, undef, undef, undef, undef, undef, undef], defers := [] }) (fun W => C8 W A 23 b23) [y23] rfl (enters_ Try.func59 (by kernel_rfl) rfl) rfl (RI w A c) (fun _ _ => False) (fun _ => False) ?hI ?hIx ?h0 ?hT0 ?hD ?hit ?assign ?body ?done ?stop
  case hI => exact TOwn.weak (RI_own w A c) (by have := HB.out.2.2.2.2.2.1; omega)
  case hIx => exact fun c s A B row hs hg hr => hs
  case h0 => exact hI0
  case hT0 => exact fun j hj => hj.elim
  case hD => exact fun T k W h => Kd.C_below HC.out h.2.2.2.2.2.1
  case hit =>
    rintro T W ⟨h1, h2, h3, h4, h5, h6, h7⟩
    exact it59 _ A 23 c b23 [y23] W rfl HCC.out (by omega) b23_walks (by rw [HBW.out]; exact blk_cell h5 0)
  case assign =>
    intro l k y A' c' W K hK
    simp only [List.zip_toArray, List.zip_cons_cons, List.zip_nil_left, List.zip_nil_right, List.foldl_toArray, List.foldl_toArray', List.foldl_cons, List.foldl_nil, sx1, sx2, sx3] at hK ⊢
    refine wpIn_seq ?_
    refine region_round l (by rintro ⟨a, w, h⟩; exact h) (by simp) ?_
    go_wp2
    refine region_round l (by rintro ⟨a, w, h⟩; exact h) (by simp) ?_
    go_wp2
    exact hK
  case body =>
    rintro T l k y A' c' okx B W hT hTlt hTl hle hloop hy hI ⟨hR, hokx⟩ hBle hbx
    obtain ⟨rfl, rfl⟩ : k = 0 ∧ y = y23 := by
      cases k with
      | zero => exact ⟨rfl, (Option.some.inj hy).symm⟩
      | succ k => simp at hy
    have hs5 : w1.heap.size = b + 5 := by rw [HBW.out]; exact HB.out.2.2.2.2.2.1
    rw [hs5] at hle hR hokx hBle
    obtain ⟨h1, h2, h3, h4, h5, h6, h7⟩ := hI
    rw [← HBW.out] at h1 h2 h3 h4 h5 h7
    simp only [List.zip_toArray, List.zip_cons_cons, List.zip_nil_left, List.zip_nil_right, List.foldl_toArray, List.foldl_toArray', List.foldl_cons, List.foldl_nil, sx1, sx2, sx3]
    have e01 : (((0 : Nat) : Int) + 1) = 1 := rfl
    rw [e01]
    have F1 := Aside0.mk h1
    have F2 := Aside0.mk (show W.heap[b + 1]? = some (.cells (savedCells 0 0 0 0 0 0 ⟨#[]⟩ none 0 0 0) 53 (0, 0)) from h2)
    have F3 := Aside0.mk (show W.heap[b + 2]? = some (.cells #[.int .i64 0] 3 (0, 0)) from h3)
    have F4 := Aside0.mk (show W.heap[b + 3]? = some (.cells #[.int .i64 0] 3 (0, 0)) from h4)
    have F5 := Aside0.mk h5
    have F6 := Aside0.mk h6
    have F7 := Aside0.mk h7
    have FR := Aside0.mk (show Kd.R k40 40 W (b + 5) okx (.slice A' 0 c') [] from hR)
    have FB := Aside0.mk (show W.heap[B]? = some (.cells (recCells 2 0 0 0 0 0 A' 0 c' 1 1 2 0 0 ⟨#[]⟩) 28 (0, 0)) from hbx)
    have FBL := Aside0.mk hBle
    have FT := Aside0.mk hTlt
    have u0 : W.cell? ⟨B, 0, none⟩ = _ := (blk_cell FB.out 0).trans rfl
    have u1 := (blk_cell FB.out 1).trans rfl
    have u2 := (blk_cell FB.out 2).trans rfl
    have u3 := (blk_cell FB.out 3).trans rfl
    have u4 := (blk_cell FB.out 4).trans rfl
    have u5 := (blk_cell FB.out 5).trans rfl
    have u6 := (blk_cell FB.out 6).trans rfl
    have u7 := (blk_cell FB.out 7).trans rfl
    have u8 := (blk_cell FB.out 8).trans rfl
    have u9 := (blk_cell FB.out 9).trans rfl
    have u10 := (blk_cell FB.out 10).trans rfl
    have u11 := (blk_cell FB.out 11).trans rfl
    have u12 := (blk_cell FB.out 12).trans rfl
    clear h1 h2 h3 h4 h5 h6 h7 hR hokx hTlt hbx hy hI0
    refine wpIn_block ?_
    refine wpIn_seq ?_
    refine region_round l (by rintro ⟨a, w, h⟩; exact h) (by simp) ?_
    go_wp2_with fail
    refine (known_view 0 0 0 0 0 A' 0 c' 1 1 2 0 0 ⟨#[]⟩ W).mono ?_
    rintro e W2 ⟨rfl, hb2⟩
    have G1 := Aside0.mk hb2
    have F2' := Aside0.mk ((hb2.block (b + 1) (blk_lt F2.out)).trans F2.out)
    clear hb2
    go_wp2
    refine wpIn_seq ?_
    refine wpIn_seq ?_
    refine region_round l (by rintro ⟨a, w, h⟩; exact h) (by simp) ?_
    go_wp2_with fail
    refine (fits_view 1 1 2 (b + 1) _ 0 true W2 F2'.out rfl).mono ?_
    rintro e W3 ⟨rfl, hb3⟩
    have G2 := Aside0.mk (below_step G1.out hb3)
    have F2'' := Aside0.mk ((hb3.block (b + 1) (blk_lt F2'.out)).trans F2'.out)
    have d1 : decide ((0 : Int) < 1) = true := rfl
    clear hb3
    clear u0 u1 u2 u3 u4 u5 u6 u7 u8 u9 u10 u11 u12
    go_wp2
    refine wpIn_cond_false (by rfl) ?_
    refine wpIn_skip ?_
    simp only [Exit.then]
    refine wpIn_seq ?_
    refine region_round l (by rintro ⟨a, w, h⟩; exact h) (by simp) ?_
    go_wp2_with fail
    refine (says_view 1 1 2 (b + 1) 0 0 0 0 0 0 ⟨#[]⟩ none 0 0 0 W3 F2''.out).mono ?_
    rintro e W4 ⟨⟨v4, rfl⟩, hp4, hf4⟩
    have G4 := Aside0.mk ((Frm.of_below G2.out (fun k => k = b + 1)).then_ hf4 (fun k h _ => h))
    have P4 := Aside0.mk hp4
    have FB4 := Aside0.mk (G4.out.blk FB.out (by have := FBL.out; omega))
    clear hf4 hp4
    have u0 := (blk_cell FB4.out 0).trans rfl
    have u1 := (blk_cell FB4.out 1).trans rfl
    have u2 := (blk_cell FB4.out 2).trans rfl
    have u3 := (blk_cell FB4.out 3).trans rfl
    have u4 := (blk_cell FB4.out 4).trans rfl
    have u5 := (blk_cell FB4.out 5).trans rfl
    have u6 := (blk_cell FB4.out 6).trans rfl
    have u7 := (blk_cell FB4.out 7).trans rfl
    have u8 := (blk_cell FB4.out 8).trans rfl
    have u9 := (blk_cell FB4.out 9).trans rfl
    have u10 := (blk_cell FB4.out 10).trans rfl
    have u11 := (blk_cell FB4.out 11).trans rfl
    have u12 := (blk_cell FB4.out 12).trans rfl
    go_wp2
    refine wpIn_seq ?_
    refine region_round l (by rintro ⟨a, w, h⟩; exact h) (by simp) ?_
    go_wp2_with fail
    refine (encode_C 1 2 0 0 0 0 0 A' c' 0 [] 1 1 2 0 0 ⟨#[]⟩ W4 rfl (R40_C (R40_any (Kd.R_step (ok := fun k => b + 5 ≤ k) (Kd.R_mono (Kd.R_bound FR.out) (fun k hk => hk.2.1)) (fun k hk hlt => G4.out.block k hlt (fun e => by omega))) (fun _ _ => trivial))) (Nat.zero_le _) b23 0 b23_enc).mono ?_
    rintro e W5 ⟨V, rfl, ho, hb5⟩
    obtain ⟨A3, c3, rfl⟩ : ∃ A3 c3, V = .slice A3 23 c3 := by obtain ⟨A3, c3, h⟩ := Kd.R_slice ho; exact ⟨A3, c3, h⟩
    have G5 := Aside0.mk (G4.out.step hb5)
    have P5 := Aside0.mk ((hb5.block (b + 1) (blk_lt P4.out)).trans P4.out)
    clear hb5 ho u0 u1 u2 u3 u4 u5 u6 u7 u8 u9 u10 u11 u12
    go_wp2
    have F3' := Aside0.mk (G5.out.blk F3.out (by omega))
    have F4' := Aside0.mk (G5.out.blk F4.out (by omega))
    have k2 : W5.cell? ⟨b + 2, 0, none⟩ = some (.int .i64 0) := (blk_cell F3'.out 0).trans rfl
    have f2 := blk_frozen F3'.out 0
    have k3 : W5.cell? ⟨b + 3, 0, none⟩ = some (.int .i64 0) := (blk_cell F4'.out 0).trans rfl
    have f3 := blk_frozen F4'.out 0
    have k3d : W5.drew.cell? ⟨b + 3, 0, none⟩ = some (.int .i64 0) := k3
    refine startIn_ l (by rintro ⟨a, w, h⟩; exact h) (by simp) (n := 7) (S := fun w' => w'.cell? ⟨b + 3, 0, none⟩ = some (.int .i64 0)) (ds := [6]) #[ff, ff, ff, ff, ff, ff, ff] (by kernel_rfl) rfl rfl (k3d) (fun hHeld => ?_)
    refine pure_ (i := 0) (N := some 32) (v := ?_) (a' := ?_) #[tt, ff, ff, ff, ff, ff, ff] rfl rfl (by kernel_rfl) (fun _ _ _ h => h) (Or.inl ⟨by rfl, ?_⟩) ?_ ?_
    rotate_left
    · intro w'
      go_simp
      with_reducible rfl
    rotate_left
    · simp only [Act.put, sx1, sx2, sx3, i64_w, i32_w]
      rfl
    refine pure_ (i := 2) (N := some 34) (v := ?_) (a' := ?_) #[tt, ff, tt, ff, ff, ff, ff] rfl rfl (by kernel_rfl) (fun _ _ _ h => h) (Or.inl ⟨by rfl, ?_⟩) ?_ ?_
    rotate_left
    · intro w'
      go_simp
      with_reducible rfl
    rotate_left
    · simp only [Act.put, sx1, sx2, sx3, i64_w, i32_w]
      rfl
    refine pure_ (i := 3) (N := some 35) (v := ?_) (a' := ?_) #[tt, ff, tt, tt, ff, ff, ff] rfl rfl (by kernel_rfl) (fun _ _ _ h => h) (Or.inl ⟨by rfl, ?_⟩) ?_ ?_
    rotate_left
    · intro w'
      go_simp
      with_reducible rfl
    rotate_left
    · simp only [Act.put, sx1, sx2, sx3, i64_w, i32_w]
      rfl
    refine take_ (i := 1) (N := some 33) (v := ?_) (a' := ?_) #[tt, tt, tt, tt, ff, ff, ff] rfl rfl (by kernel_rfl) (fun _ _ _ h => h) (Or.inl ⟨by rfl, ?_⟩) hHeld ?_ ?_
    rotate_left
    · intro w' s0
      go_simp
      with_reducible rfl
    rotate_left
    · simp only [Act.put, sx1, sx2, sx3, i64_w, i32_w]
      rfl
    refine pure_ (i := 4) (N := some 36) (v := ?_) (a' := ?_) #[tt, tt, tt, tt, tt, ff, ff] rfl rfl (by kernel_rfl) (fun _ _ _ h => h) (Or.inl ⟨by rfl, ?_⟩) ?_ ?_
    rotate_left
    · intro w'
      go_simp
      with_reducible rfl
    rotate_left
    · simp only [Act.put, sx1, sx2, sx3, i64_w, i32_w]
      rfl
    refine one_ (i := 5) (N := none) #[tt, tt, tt, tt, tt, tt, ff] rfl rfl (by kernel_rfl) (by decide) (fun K hK => ?_)
    refine skip_ (w1 := ?_) (by rfl) rfl ?_ ?_
    rotate_left
    · go_simp
      rfl
    refine hK.out _ _ ((by first | exact set_other (by omega) k3d | exact set_other (by omega) k3 | exact drew_cell (set_other (by omega) k3))) (fun hHeld => ?_)
    clear hK K
    refine last_ (i := 6) (N := none) #[tt, tt, tt, tt, tt, tt, tt] rfl rfl (by kernel_rfl) (by decide) (fun K hK => ?_)
    refine skip_ (w1 := ?_) (by rfl) rfl ?_ ?_
    rotate_left
    · go_simp
      rfl
    refine hK.out _ _ ?_
    clear hK K
    refine done_ (by kernel_rfl) ?_
    obtain ⟨W6, hW6⟩ : ∃ W6, W6 = ((W5.setCell ⟨b + 2, 0, none⟩ (.int .i64 1)).setCell ⟨b + 3, 0, none⟩ (.int .i64 (wrap64 23))).drew := ⟨_, rfl⟩
    rw [← hW6]
    have hF6 : Frm W W6 (fun k => b + 1 ≤ k ∧ k ≤ b + 3) := by
      rw [hW6]
      exact (((G5.out.mono (S1 := fun k => b + 1 ≤ k ∧ k ≤ b + 3) (fun k h _ => by omega)).set_ (p := ⟨b + 2, 0, none⟩) (.inl (by simp only; omega)) _).set_ (p := ⟨b + 3, 0, none⟩) (.inl (by simp only; omega)) _).drew
    have q2 : W6.heap[b + 1]? = some (.cells (savedCells 1 1 2 0 0 0 ⟨#[]⟩ none 0 0 0) 53 (0, 0)) := by
      rw [hW6]
      exact blk_far (blk_far P5.out (by simp only; omega) _) (by simp only; omega) _
    have q3 : W6.heap[b + 2]? = some (.cells #[.int .i64 1] 3 (0, 0)) := by
      rw [hW6]
      exact blk_far (blk_set F3'.out 0 _) (by simp only; omega) _
    have q4 : W6.heap[b + 3]? = some (.cells #[.int .i64 23] 3 (0, 0)) := by
      rw [hW6]
      have := blk_set (w := W5.setCell ⟨b + 2, 0, none⟩ (.int .i64 1)) (blk_far F4'.out (by simp only; omega) _) 0 (.int .i64 (wrap64 23))
      exact this.trans (by rw [wr23]; rfl)
    show (∀ k, T k ∧ w1.heap.size ≤ k → W6.heap[k]? = W.heap[k]?) ∧ RI w A c T 1 W6
    refine ⟨fun k hk => hF6.block k (FT.out k hk.1) (fun h => by have := hk.2; omega), ?_⟩
    have hbw := HBW.out
    refine ⟨?_, ?_, ?_, ?_, ?_, ?_, ?_⟩
    · rw [← hbw]; exact hF6.blk F1.out (by omega)
    · rw [← hbw]; exact q2
    · rw [← hbw]; exact q3
    · rw [← hbw]; exact q4
    · rw [← hbw]; exact hF6.blk F5.out (by omega)
    · exact below_frm F6.out hF6 (N := w.heap.size) (fun k hk => by omega) (Nat.le_refl _)
    · rw [← hbw]; exact fun j hj => F7.out j (.inl hj)
  case done =>
    rintro D W hD hI hK
    obtain ⟨h1, h2, h3, h4, h5, h6, h7⟩ := hI
    rw [← HBW.out] at h1 h2 h3 h4
    have hb5 : b + 5 ≤ D := by have := HB.out.2.2.2.2.2.1; have := HBW.out; omega
    have F1 := Aside0.mk h1
    have F2 := Aside0.mk (show W.heap[b + 1]? = some (.cells (savedCells 1 1 2 0 0 0 ⟨#[]⟩ none 0 0 0) 53 (0, 0)) from h2)
    have F3 := Aside0.mk (show W.heap[b + 2]? = some (.cells #[.int .i64 1] 3 (0, 0)) from h3)
    have F4 := Aside0.mk (show W.heap[b + 3]? = some (.cells #[.int .i64 23] 3 (0, 0)) from h4)
    have F6 := Aside0.mk h6
    have FD := Aside0.mk hK
    have FB := Aside0.mk hb5
    clear h1 h2 h3 h4 h5 h6 h7 hK hb5 hI0 hD
    go_wp2_with fail
    refine wp_normal ?_
    have s0 : W.drew.cell? ⟨b + 1, 0, none⟩ = _ := (blk_cell (w := W.drew) F2.out 0).trans rfl
    have s1 : W.drew.cell? ⟨b + 1, 1, none⟩ = _ := (blk_cell (w := W.drew) F2.out 1).trans rfl
    have s2 : W.drew.cell? ⟨b + 1, 2, none⟩ = _ := (blk_cell (w := W.drew) F2.out 2).trans rfl
    have s3 : W.drew.cell? ⟨b + 1, 3, none⟩ = _ := (blk_cell (w := W.drew) F2.out 3).trans rfl
    have s4 : W.drew.cell? ⟨b + 1, 4, none⟩ = _ := (blk_cell (w := W.drew) F2.out 4).trans rfl
    have s5 : W.drew.cell? ⟨b + 1, 5, none⟩ = _ := (blk_cell (w := W.drew) F2.out 5).trans rfl
    have s6 : W.drew.cell? ⟨b + 1, 6, none⟩ = _ := (blk_cell (w := W.drew) F2.out 6).trans rfl
    have s7 : W.drew.cell? ⟨b + 1, 7, none⟩ = _ := (blk_cell (w := W.drew) F2.out 7).trans rfl
    have s8 : W.drew.cell? ⟨b + 1, 8, none⟩ = _ := (blk_cell (w := W.drew) F2.out 8).trans rfl
    have c2 : W.drew.cell? ⟨b + 2, 0, none⟩ = some (.int .i64 1) := (blk_cell (w := W.drew) F3.out 0).trans rfl
    have c3 : W.drew.cell? ⟨b + 3, 0, none⟩ = some (.int .i64 23) := (blk_cell (w := W.drew) F4.out 0).trans rfl
    refine start_ (n := 6) (S := fun w' => w'.cell? ⟨b + 1, 0, none⟩ = some (.int .i64 1) ∧ w'.cell? ⟨b + 1, 1, none⟩ = some (.int .i64 1) ∧ w'.cell? ⟨b + 1, 2, none⟩ = some (.int .i64 2) ∧ w'.cell? ⟨b + 1, 3, none⟩ = some (.int .i64 0) ∧ w'.cell? ⟨b + 1, 4, none⟩ = some (.int .i64 0) ∧ w'.cell? ⟨b + 1, 5, none⟩ = some (.int .i64 0) ∧ w'.cell? ⟨b + 1, 6, none⟩ = some (.string ⟨#[]⟩) ∧ w'.cell? ⟨b + 1, 7, none⟩ = some (.slice none 0 0) ∧ w'.cell? ⟨b + 1, 8, none⟩ = some (.int .i64 0) ∧ w'.cell? ⟨b + 2, 0, none⟩ = some (.int .i64 1) ∧ w'.cell? ⟨b + 3, 0, none⟩ = some (.int .i64 23)) (ds := []) #[ff, ff, ff, ff, ff, ff] (by kernel_rfl) rfl rfl ⟨s0, s1, s2, s3, s4, s5, s6, s7, s8, c2, c3⟩ (fun hHeld => ?_)
    refine take_ (i := 0) (N := some 37) (v := ?_) (a' := ?_) #[tt, ff, ff, ff, ff, ff] rfl rfl (by kernel_rfl) (fun _ _ _ h => nomatch h.1) (Or.inl ⟨by rfl, ?_⟩) hHeld ?_ ?_
    rotate_left
    · rintro w' ⟨s0, s1, s2, s3, s4, s5, s6, s7, s8, s9, s10⟩
      go_simp
      with_reducible rfl
    rotate_left
    · simp only [Act.put, sx1, sx2, sx3, i64_w, i32_w]
      rfl
    refine take_ (i := 1) (N := some 38) (v := ?_) (a' := ?_) #[tt, tt, ff, ff, ff, ff] rfl rfl (by kernel_rfl) (fun _ _ _ h => nomatch h.1) (Or.inl ⟨by rfl, ?_⟩) hHeld ?_ ?_
    rotate_left
    · rintro w' ⟨s0, s1, s2, s3, s4, s5, s6, s7, s8, s9, s10⟩
      go_simp
      with_reducible rfl
    rotate_left
    · simp only [Act.put, sx1, sx2, sx3, i64_w, i32_w]
      rfl
    refine take_ (i := 2) (N := some 39) (v := ?_) (a' := ?_) #[tt, tt, tt, ff, ff, ff] rfl rfl (by kernel_rfl) (fun _ _ _ h => nomatch h.1) (Or.inl ⟨by rfl, ?_⟩) hHeld ?_ ?_
    rotate_left
    · rintro w' ⟨s0, s1, s2, s3, s4, s5, s6, s7, s8, s9, s10⟩
      go_simp
      with_reducible rfl
    rotate_left
    · simp only [Act.put, sx1, sx2, sx3, i64_w, i32_w]
      rfl
    refine one_ (i := 3) (N := none) #[tt, tt, tt, tt, ff, ff] rfl rfl (by kernel_rfl) (by decide) (fun K hK => ?_)
    refine store_arm 53 _ _ rfl (by rfl) rfl (q := b) (i := 0) (cur' := savedCells 1 1 2 0 0 0 ⟨#[]⟩ none 0 0 0) (savedCells 1 1 2 0 0 0 ⟨#[]⟩ none 0 0 0).toList rfl rfl rfl (by kernel_rfl) (by intro u hu; simp at hu; rcases hu with rfl | rfl | rfl | rfl | rfl | rfl <;> rfl) (show W.drew.heap[b]? = _ from F1.out) (by simp) rfl ?_
    intro w9 hp9 hg9
    have F1' := Aside0.mk hp9
    have F2' := Aside0.mk ((hg9.block (b + 1) (show b + 1 < W.drew.heap.size from blk_lt F2.out) (fun e => by have := Option.some.inj e; omega)).trans (show W.drew.heap[b + 1]? = _ from F2.out))
    have F3' := Aside0.mk ((hg9.block (b + 2) (show b + 2 < W.drew.heap.size from blk_lt F3.out) (fun e => by have := Option.some.inj e; omega)).trans (show W.drew.heap[b + 2]? = _ from F3.out))
    have F4' := Aside0.mk ((hg9.block (b + 3) (show b + 3 < W.drew.heap.size from blk_lt F4.out) (fun e => by have := Option.some.inj e; omega)).trans (show W.drew.heap[b + 3]? = _ from F4.out))
    have FD' := Aside0.mk ((hg9.block D (show D < W.drew.heap.size from blk_lt FD.out) (fun e => by have := Option.some.inj e; have := FB.out; omega)).trans (show W.drew.heap[D]? = _ from FD.out))
    have F6' := Aside0.mk ((below_drew1 F6.out).grown hg9 (below_drew1 F6.out).size (fun k e => by cases e; rw [HBW.out]; exact Nat.le_refl _))
    refine hK.out _ _ ⟨(blk_cell F2'.out 0).trans rfl, (blk_cell F2'.out 1).trans rfl, (blk_cell F2'.out 2).trans rfl, (blk_cell F2'.out 3).trans rfl, (blk_cell F2'.out 4).trans rfl, (blk_cell F2'.out 5).trans rfl, (blk_cell F2'.out 6).trans rfl, (blk_cell F2'.out 7).trans rfl, (blk_cell F2'.out 8).trans rfl, (blk_cell F3'.out 0).trans rfl, (blk_cell F4'.out 0).trans rfl⟩ (fun hHeld => ?_)
    clear hK K
    refine pure_ (i := 4) (N := some 3) (v := ?_) (a' := ?_) #[tt, tt, tt, tt, tt, ff] rfl rfl (by kernel_rfl) (fun _ _ _ h => nomatch h.1) (Or.inl ⟨by rfl, ?_⟩) ?_ ?_
    rotate_left
    · intro w'
      go_simp
      with_reducible rfl
    rotate_left
    · simp only [Act.put, sx1, sx2, sx3, i64_w, i32_w]
      rfl
    refine pure_ (i := 5) (N := some 4) (v := ?_) (a' := ?_) #[tt, tt, tt, tt, tt, tt] rfl rfl (by kernel_rfl) (fun _ _ _ h => nomatch h.1) (Or.inl ⟨by rfl, ?_⟩) ?_ ?_
    rotate_left
    · intro w'
      go_simp
      with_reducible rfl
    rotate_left
    · simp only [Act.put, sx1, sx2, sx3, i64_w, i32_w]
      rfl
    refine done_ (by kernel_rfl) ?_
    refine ⟨rfl, ?_⟩
    go_wp2
    refine ⟨by simp, .inl ⟨_, _, rfl, run_takeDeferred FD'.out, ?_⟩⟩
    have b1 : (w9.putObj D (.deferred none)).heap[b]? = some (.cells (savedCells 1 1 2 0 0 0 ⟨#[]⟩ none 0 0 0) 53 (0, 0)) := (World.putObj_heap_other (by have := FB.out; omega)).trans F1'.out
    refine ⟨_, results20_row _ _ b _ _ _ rfl rfl rfl b1 rfl, rfl, ?_⟩
    exact F6'.out.grown (grownBy_putObj' _ D _) F6'.out.size (fun r e => by cases e; have := FB.out; have := HBW.out; omega)
  case stop => exact fun D c W _ h _ => h.elim
end Go.Proofs.Ytdbniihjkiecbaa.PW
