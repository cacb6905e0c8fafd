/- Words, contracts and walks of the law RingOfNothing, in one text. -/
import Derived.Test.YtcbejpmmlcdhnaaX1
import Derived.Test.YtcbejpmmlcdhnaaRows
import Derived.WalkKit
import Derived.ProofKit
import Derived.OpenShut
import Derived.ChangeOld
import Derived.Below
import Derived.SizedLaws
import Derived.Deep.Slices
namespace Go.Proofs.Ytcbejpmmlcdhnaa.PW
open Go.RowKit Go.Proofs.YtcbejpmmlcdhnaaW.PrintWords Go.Proofs.YtcbejpmmlcdhnaaW.PrintLast Go.Proofs.YtcbejpmmlcdhnaaW.PrintMore
set_option linter.unusedVariables false
set_option linter.unusedSimpArgs false
def rg45.T6 : Bool × List (List Nat × List Nat) := (true, [([], []), ([], []), ([1], [1]), ([2], [2]), ([0, 3], [0, 3]), ([], []), ([5], [5]), ([4, 6], [4, 6]), ([7], [7]), ([8, 7], [8]), ([9], [9]), ([9], [9]), ([11, 9], [9, 11]), ([12, 9], [9, 12]), ([10, 13, 9], [9, 10, 13]), ([14, 9], [9, 14]), ([15, 9], [9, 15]), ([16, 9], [9, 16]), ([9, 17], [9, 17]), ([18, 9], [18]), ([19], [19]), ([19], [19]), ([21, 19], [19, 21]), ([22, 19], [19, 22]), ([23, 19], [19, 23]), ([20, 24, 19], [19, 20, 24]), ([25, 19], [19, 25]), ([26, 19], [19, 26]), ([27, 19], [19, 27]), ([19, 28], [19, 28])])
def rg45.B6 : List Nat := [0, 0, 2, 6, 15, 0, 32, 127, 255, 511, 1023, 1023, 3071, 7167, 16383, 32767, 65535, 131071, 262143, 524287, 1048575, 1048575, 3145727, 7340031, 15728639, 33554431, 67108863, 134217727, 268435455, 536870911]
theorem rg45.tab6 : rtab .any (opsOf Try.f45 6) = rg45.T6 := by kernel_rfl
theorem rg45.bits6 : waitsOk rg45.T6.2 rg45.B6 = true := by kernel_rfl

theorem size55 : (Try.prog.info? 55).map (·.size) = some 5 := by kernel_rfl
set_option maxHeartbeats 16000000 in
set_option maxRecDepth 100000 in
theorem append1_B {W : World} {base g : Nat} {ok : Nat → Prop} {p : Option Nat} {s : RS} {x : XS} (h : Both W base ok p g s x) (e : S33) (A : Option Addr) (n c : Nat) (hn : e.f5.length = n) (hC : ∀ W', Frm W W' (mine base ok) → Kd.C k55 W' A n e.f5) (hnc : n ≤ c) (hm : opsOk e) (hbase : base ≤ W.heap.size) (hfresh : ∀ k, W.heap.size ≤ k → ok k) (hlen : x.l.length ≤ 4294967296) :
    Calls Try.prog 45 #[ptr p, .pointer (some ⟨g, 0, none⟩), entV e (.slice A n c)] W fun r w' => r = .returned (.bool true) ∧ Both w' base ok p g (s.app e) (x.app e) ∧ Frm W w' (mine base ok) := by
  have H := Aside0.mk h
  have HC := Aside0.mk hC
  have HF := Aside0.mk hfresh
  have HBASE := Aside0.mk hbase
  have hop : n ≤ 2513169434843 := by rw [← hn]; exact hm
  have HM := Aside0.mk hm
  have HL := Aside0.mk hlen
  have HN := Aside0.mk (And.intro hn (And.intro hnc hop))
  clear h hC hfresh hbase hm hlen hn
  obtain ⟨vp, hvp⟩ : ∃ vp, vp = ptr p := ⟨_, rfl⟩
  rw [← hvp]
  have HVP := Aside0.mk hvp
  clear hvp
  unfold entV
  go_enter Try.func45, Try.ntmps45
  go_wp2_with fail
  refine (ops_T A n c e.f5 _ HN.out.1 ?_ hnc hop).mono ?_
  · exact HC.out _ (Frm.of_below (below_alloc (Below.refl _ _) _) _)
  rintro r w1 ⟨A2, cc2, rfl, hv, hB1⟩
  have hbx0 : (W.alloc (.cells #[Value.int IntKind.i64 e.f0, Value.int IntKind.i64 e.f1, Value.int IntKind.i64 e.f2, Value.int IntKind.i64 e.f3, Value.int IntKind.i64 e.f4, .slice A n c] 33)).heap[W.heap.size]? = some (.cells #[Value.int IntKind.i64 e.f0, Value.int IntKind.i64 e.f1, Value.int IntKind.i64 e.f2, Value.int IntKind.i64 e.f3, Value.int IntKind.i64 e.f4, .slice A n c] 33) := heap_alloc_new W _
  have hs0 : (W.alloc (.cells #[Value.int IntKind.i64 e.f0, Value.int IntKind.i64 e.f1, Value.int IntKind.i64 e.f2, Value.int IntKind.i64 e.f3, Value.int IntKind.i64 e.f4, .slice A n c] 33)).heap.size = W.heap.size + 1 := Array.size_push _
  have hB0 : Below W.heap.size W (W.alloc (.cells #[Value.int IntKind.i64 e.f0, Value.int IntKind.i64 e.f1, Value.int IntKind.i64 e.f2, Value.int IntKind.i64 e.f3, Value.int IntKind.i64 e.f4, .slice A n c] 33)) := below_alloc (Below.refl _ _) _
  have hbx1 := (hB1.block _ (blk_lt hbx0)).trans hbx0
  have hB01 := below_then hB0 (by rw [hs0]; omega) hB1
  rw [hs0] at hv hB1
  obtain ⟨G, hG⟩ : ∃ G, G = W.heap.size := ⟨_, rfl⟩
  rw [← hG] at hbx1 hv ⊢
  have b5 : w1.cell? ⟨G, 5, none⟩ = some (.slice A n c) := (blk_cell hbx1 5).trans rfl
  have HBX1 := Aside0.mk hbx1
  have HV1 := Aside0.mk hv
  have HB1 := Aside0.mk hB01
  have HG := Aside0.mk hG
  have HS1 := Aside0.mk (show G + 1 ≤ w1.heap.size from blk_lt hbx1)
  clear hbx0 hs0 hB0 hbx1 hv hB1 hB01 hG
  go_wp2_with (with_reducible refine stop_append rfl ?_)
  have hX : (w1.alloc (.cells (cells5 o77 ++ cells5 o78).toArray 55)).heap[w1.heap.size]? = some (.cells (cells5 o77 ++ cells5 o78).toArray 55) := heap_alloc_new w1 _
  have hBX : Below W.heap.size W (w1.alloc (.cells (cells5 o77 ++ cells5 o78).toArray 55)) := below_alloc HB1.out _
  have hVX : Kd.R k55 55 (w1.alloc (.cells (cells5 o77 ++ cells5 o78).toArray 55)) (G + 1) (fun _ => True) (.slice A2 n cc2) e.f5 := Kd.R_below HV1.out (below_alloc (Below.refl _ _) _)
  have hbxX : (w1.alloc (.cells (cells5 o77 ++ cells5 o78).toArray 55)).heap[G]? = some (.cells #[Value.int IntKind.i64 e.f0, Value.int IntKind.i64 e.f1, Value.int IntKind.i64 e.f2, Value.int IntKind.i64 e.f3, Value.int IntKind.i64 e.f4, .slice A n c] 33) := ((below_alloc (Below.refl w1.heap.size w1) _).block _ (blk_lt HBX1.out)).trans HBX1.out
  have hsX : (w1.alloc (.cells (cells5 o77 ++ cells5 o78).toArray 55)).heap.size = w1.heap.size + 1 := Array.size_push _
  refine Kd.R_append_rows k55 (Rr := fun x cs => cs = cells5 x) (w0 := w1.alloc (.cells (cells5 o77 ++ cells5 o78).toArray 55)) (W := w1.alloc (.cells (cells5 o77 ++ cells5 o78).toArray 55)) (G + 1) rfl (.tmp 14) (.tmp 17) 31 55 (.agg #[(.int .i64 0), (.string ⟨#[]⟩), (.string ⟨#[]⟩), (.int .i64 0), (.int .i64 0)]) 56 rfl Try.underlying31 info55 rfl (by decide) (by omega) (.slice A2 n cc2) e.f5 [o77, o78] (some ⟨w1.heap.size, 0, none⟩) 2 2 (fun _ => True) (fun _ => False) rfl rfl
    hVX (two_reads rfl hX) (fun x cs hcs => by subst hcs; exact k55_mkM _ _ _ _) (fun k hk => hk.elim) (fun _ _ => trivial) (Below.refl _ _) (by rw [hsX]; have := HS1.out; omega) (by rw [HN.out.1]; omega) ?_
  intro v1 w2 ho hb hg hat
  have hbx2 := (hb.block G (Nat.lt_succ_self _)).trans hbxX
  have hB2 : Below W.heap.size W w2 := hBX.trans (hb.mono (by rw [HG.out]; omega))
  obtain ⟨rb, c7, hv1, hrb1, hrb2, cells, hrb3⟩ := Kd.R_form ho (by simp)
  obtain ⟨M, hM⟩ : ∃ M, M = (e.f5 ++ [o77, o78]).length := ⟨_, rfl⟩
  rw [← hM] at hv1
  subst hv1
  have hsz2 : w1.heap.size + 1 ≤ w2.heap.size := by rw [← hsX]; exact hb.size
  have hMn : M = n + 2 := by rw [hM, List.length_append, HN.out.1]; rfl
  have hcut : ∀ W, (Instr.slice 31 (.slice (some ⟨rb, 0, none⟩) M c7) none (some (.int .i64 (n : Int))) none).run Try.prog W = .ok (.slice (some ⟨rb, 0, none⟩) n c7) W := by
    intro W
    obtain ⟨i0, hi0, hz⟩ := Option.map_eq_some_iff.1 info55
    have := cut_to (P := Try.prog) 31 55 .i64 Try.underlying31 hi0 (some ⟨rb, 0, none⟩) M c7 (n : Int) (by omega) (by omega) (by have := (Kd.R_reads' ho).2.1; omega) W
    rw [Int.toNat_natCast] at this
    exact this
  have hc7 : M ≤ c7 := (Kd.R_reads' ho).2.1
  have a0 : w2.cell? ⟨G, 0, none⟩ = some (.int .i64 e.f0) := (blk_cell hbx2 0).trans rfl
  have a1 : w2.cell? ⟨G, 1, none⟩ = some (.int .i64 e.f1) := (blk_cell hbx2 1).trans rfl
  have a2 : w2.cell? ⟨G, 2, none⟩ = some (.int .i64 e.f2) := (blk_cell hbx2 2).trans rfl
  have a3 : w2.cell? ⟨G, 3, none⟩ = some (.int .i64 e.f3) := (blk_cell hbx2 3).trans rfl
  have a4 : w2.cell? ⟨G, 4, none⟩ = some (.int .i64 e.f4) := (blk_cell hbx2 4).trans rfl
  have a5 : w2.cell? ⟨G, 5, none⟩ = some (.slice A n c) := (blk_cell hbx2 5).trans rfl
  have HBX2 := Aside0.mk hbx2
  have HB2 := Aside0.mk hB2
  have HO2 := Aside0.mk ho
  have HRB := Aside0.mk (And.intro hrb1 hrb2)
  have HM2 := Aside0.mk (And.intro hMn (And.intro hM hc7))
  have HG2 := Aside0.mk (show G + 1 ≤ w2.heap.size by have := HS1.out; omega)
  clear hX hBX hVX hbxX hsX b5 hb hg hat hbx2 hB2 hrb1 hrb2 hrb3 ho hM hMn hc7 hsz2
  have HNEW := Aside0.mk (heap_alloc_new w2 (.cells zeroCells 33))
  go_wp2_with (with_reducible refine stop_store rfl ?_)
  refine wpList_store rfl rfl 33 (.tmp 8) (.tmp 19) rfl (.agg #[.int .i64 e.f0, .int .i64 e.f1, .int .i64 e.f2, .int .i64 e.f3, .int .i64 e.f4, .slice A n c]) (cells6 e (.slice A n c)) rfl rfl HNEW.out rfl size33 (by show 0 + 6 ≤ 6; omega) (by simp [cells6, Value.oneCell']) ?_
  rw [alloc_full (w := w2) (cur := zeroCells) (e := 33) (cells6 e (.slice A n c)) rfl]
  have hb3 : (w2.alloc (.cells (cells6 e (.slice A n c)).toArray 33)).heap[w2.heap.size]? = some (.cells (cells6 e (.slice A n c)).toArray 33) := heap_alloc_new w2 _
  have hB3 : Below w2.heap.size w2 (w2.alloc (.cells (cells6 e (.slice A n c)).toArray 33)) := below_alloc (Below.refl _ _) _
  obtain ⟨G3, hG3⟩ : ∃ G3, G3 = w2.heap.size := ⟨_, rfl⟩
  obtain ⟨w3, hw3⟩ : ∃ w3, w3 = w2.alloc (.cells (cells6 e (.slice A n c)).toArray 33) := ⟨_, rfl⟩
  rw [← hG3] at hb3 ⊢
  rw [← hw3] at hb3 hB3 ⊢
  have d0 : w3.cell? ⟨G3, 0, none⟩ = some (.int .i64 e.f0) := (blk_cell hb3 0).trans rfl
  have d1 : w3.cell? ⟨G3, 1, none⟩ = some (.int .i64 e.f1) := (blk_cell hb3 1).trans rfl
  have d2 : w3.cell? ⟨G3, 2, none⟩ = some (.int .i64 e.f2) := (blk_cell hb3 2).trans rfl
  have d3 : w3.cell? ⟨G3, 3, none⟩ = some (.int .i64 e.f3) := (blk_cell hb3 3).trans rfl
  have d4 : w3.cell? ⟨G3, 4, none⟩ = some (.int .i64 e.f4) := (blk_cell hb3 4).trans rfl
  have d5 : w3.cell? ⟨G3, 5, none⟩ = some (.slice A n c) := (blk_cell hb3 5).trans rfl
  have z5 : w3.frozen? ⟨G3, 5, none⟩ = false := blk_frozen hb3 5
  have a5' : w3.cell? ⟨G, 5, none⟩ = some (.slice A n c) := (blk_cell ((hB3.block _ (blk_lt HBX2.out)).trans HBX2.out) 5).trans rfl
  have HBX3 := Aside0.mk ((hB3.block _ (blk_lt HBX2.out)).trans HBX2.out)
  have HB3 := Aside0.mk hb3
  have HBL3 := Aside0.mk hB3
  have HG3 := Aside0.mk hG3
  have hne : ¬ (G3 = G) := by have := HG2.out; omega
  have hne2 : ¬ (G = G3) := by have := HG2.out; omega
  clear HNEW hb3 hB3 hG3 hw3 a0 a1 a2 a3 a4 a5
  go_wp2_with fail
  have hB4 : Below W.heap.size W (w3.setCell ⟨G3, 5, none⟩ (.slice (some ⟨rb, 0, none⟩) n c7)) := below_set (below_then HB2.out HB2.out.size HBL3.out) (by rw [HG3.out]; exact HB2.out.size)
  have hfar4 : ∀ k, k ≠ G3 → (w3.setCell ⟨G3, 5, none⟩ (.slice (some ⟨rb, 0, none⟩) n c7)).heap[k]? = w3.heap[k]? := fun k hk => Below.heap_setCell w3 _ _ k hk
  have hbx4 := (hfar4 G hne2).trans HBX3.out
  have hR4 : Kd.R k55 55 (w3.setCell ⟨G3, 5, none⟩ (.slice (some ⟨rb, 0, none⟩) n c7)) (G + 1) (fun k => G + 1 ≤ k ∧ k < G3) (.slice (some ⟨rb, 0, none⟩) M c7) (e.f5 ++ [o77, o78]) := by
    refine Kd.R_step (Kd.R_mono (Kd.R_bound HO2.out) (fun k hk => ⟨hk.2.1, by rw [HG3.out]; exact hk.2.2.1⟩)) (fun k hk hlt => (hfar4 k (by omega)).trans (HBL3.out.block k hlt))
  have hsz4 : w3.heap.size ≤ (w3.setCell ⟨G3, 5, none⟩ (.slice (some ⟨rb, 0, none⟩) n c7)).heap.size := by simp [World.setCell]
  have hsz3 : G3 + 1 ≤ w3.heap.size := blk_lt HB3.out
  obtain ⟨w4, hw4⟩ : ∃ w4, w4 = w3.setCell ⟨G3, 5, none⟩ (.slice (some ⟨rb, 0, none⟩) n c7) := ⟨_, rfl⟩
  rw [← hw4] at hB4 hbx4 hR4 hsz4 ⊢
  have HB4 := Aside0.mk hB4
  have HBX4 := Aside0.mk hbx4
  have HR4 := Aside0.mk hR4
  have HS4 := Aside0.mk (show G3 + 1 ≤ w4.heap.size by omega)
  clear hB4 hfar4 hbx4 hR4 hsz4 hsz3 hw4 d0 d1 d2 d3 d4 d5 z5 a5' hne hne2
  have HBOTH := Aside0.mk H.out.bound
  have HBOTH4 := Aside0.mk (HBOTH.out.below HB4.out)
  have HGG := Aside0.mk (show G + 1 ≤ G3 by have := HG2.out; have := HG3.out; omega)
  have hpne : ∀ k, own1 p k → k < W.heap.size := fun k hk => by
    cases hk
    exact (RingIs_base HBOTH.out.ra).2.2
  have hroomC : ∀ (W5 : World) (okr : Nat → Prop), Kd.R k55 55 W5 (G + 1) okr (.slice (some ⟨rb, 0, none⟩) M c7) (e.f5 ++ [o77, o78]) → Kd.C k55 W5 (some ⟨rb, 0, none⟩) n e.f5 := by
    intro W5 okr hr
    obtain ⟨q1, q2, q3⟩ := Kd.R_reads' hr
    have h2 := Kd.C_take q3 (m := n) (by rw [List.length_append, HN.out.1]; omega)
    rw [List.take_left' HN.out.1] at h2
    rw [HN.out.1] at h2
    exact h2
  have HROOM := Aside0.mk hroomC
  have HPN := Aside0.mk hpne
  clear hroomC hpne
  have hlive : Live w4 p (some ⟨rb, 0, none⟩) n e.f5 := fun W' hf => HROOM.out W' _ (R_frm HR4.out hf (fun k hk hS => by have := HPN.out k hS; have := HG.out; omega))
  have HLV := Aside0.mk hlive
  clear hlive
  rw [HVP.out]
  refine (append_R (RingIs_mono HBOTH4.out.ra (ok' := fun k => (ok k ∧ k < W.heap.size) ∨ w4.heap.size ≤ k) (fun k hk => .inl hk)) e (some ⟨rb, 0, none⟩) n c7 HN.out.1 HLV.out HM.out (fun k hk => .inr hk)).mono ?_
  rintro r w5 ⟨rfl, hr5, hf5⟩
  rw [← HVP.out]
  obtain ⟨ac, hac⟩ : ∃ ac, ac = s.acode e := ⟨_, rfl⟩
  rw [← hac]
  have HAC := Aside0.mk hac
  have HR5 := Aside0.mk hr5
  have HF5 := Aside0.mk hf5
  have HX5 := Aside0.mk (XAt_ring HBOTH4.out.xa HBOTH4.out.ra hf5)
  have hS5 : w4.heap.size ≤ w5.heap.size := hf5.size
  have hbx5 := hf5.blk HBX4.out (fun hS => by have := HPN.out _ hS; have := HG.out; omega)
  have hR5 : Kd.R k55 55 w5 (G + 1) (fun k => G + 1 ≤ k ∧ k < G3) (.slice (some ⟨rb, 0, none⟩) M c7) (e.f5 ++ [o77, o78]) := R_frm HR4.out hf5 (fun k hk hS => by have := HPN.out k hS; have := HG.out; omega)
  have hW5 : Frm W w5 (mine base ok) := (Frm.of_below HB4.out (mine base ok)).then_ (mine_ring HBOTH4.out.ra hf5) (fun k hk _ => ⟨hk.1, hk.2.1⟩)
  have HW5 := Aside0.mk hW5
  have HRR5 := Aside0.mk hR5
  have HBX5 := Aside0.mk hbx5
  have HS5 := Aside0.mk hS5
  have a0 : w5.cell? ⟨G, 0, none⟩ = some (.int .i64 e.f0) := (blk_cell hbx5 0).trans rfl
  have a1 : w5.cell? ⟨G, 1, none⟩ = some (.int .i64 e.f1) := (blk_cell hbx5 1).trans rfl
  have a2 : w5.cell? ⟨G, 2, none⟩ = some (.int .i64 e.f2) := (blk_cell hbx5 2).trans rfl
  have a3 : w5.cell? ⟨G, 3, none⟩ = some (.int .i64 e.f3) := (blk_cell hbx5 3).trans rfl
  have a4 : w5.cell? ⟨G, 4, none⟩ = some (.int .i64 e.f4) := (blk_cell hbx5 4).trans rfl
  have a5 : w5.cell? ⟨G, 5, none⟩ = some (.slice A n c) := (blk_cell hbx5 5).trans rfl
  clear hac hr5 hf5 hS5 hbx5 hR5 hW5
  go_wp2_with fail
  refine (xapp_C (s := s) HBOTH.out.ra.1 (XAt_mono HX5.out (ok' := fun k => (ok k ∧ k < W.heap.size) ∨ w5.heap.size ≤ k) (fun k hk => .inl hk)) HBOTH.out.lk e A n c HN.out.1 (HC.out _ HW5.out) hnc HM.out (fun k hk => .inr hk) HL.out).mono ?_
  rintro r w6 ⟨rfl, hx6, hf6⟩
  rw [← HAC.out]
  have hrowsne : ∀ k, W.heap.size ≤ k → k < w5.heap.size → ¬ rows33 w5 base g (fun k => (ok k ∧ k < W.heap.size) ∨ w5.heap.size ≤ k) k := by
    rintro k h1 h2 (rfl | ⟨_, h3 | h3, _⟩)
    · have := HBOTH.out.xa.2.1.2
      omega
    · omega
    · omega
  have hx5m : XAt w5 base (fun k => (ok k ∧ k < W.heap.size) ∨ w5.heap.size ≤ k) g x := XAt_mono HX5.out (fun k hk => .inl hk)
  have HR6 := Aside0.mk (RingIs_ref HR5.out hx5m hf6)
  have HX6 := Aside0.mk hx6
  have hGlt : G < w5.heap.size := by have := HS5.out; have := HS4.out; have := HGG.out; omega
  have hbx6 := hf6.blk HBX5.out (hrowsne G (by rw [HG.out]; exact Nat.le_refl _) hGlt)
  have hR6 : Kd.R k55 55 w6 (G + 1) (fun k => G + 1 ≤ k ∧ k < G3) (.slice (some ⟨rb, 0, none⟩) M c7) (e.f5 ++ [o77, o78]) := R_frm HRR5.out hf6 (fun k hk hS => hrowsne k (by have := HG.out; omega) (by have := HS5.out; have := HS4.out; omega) hS)
  have hW6 : Frm W w6 (mine base ok) := HW5.out.then_ (mine_ref hx5m hf6) (fun k hk hlt => ⟨hk.1, hk.2.elim (fun h => h.1) (fun h => HF.out k (by have := HW5.out.size; omega))⟩)
  have HW6 := Aside0.mk hW6
  have HRR6 := Aside0.mk hR6
  have HBX6 := Aside0.mk hbx6
  have HS6 := Aside0.mk (show w4.heap.size ≤ w6.heap.size from Nat.le_trans HS5.out hf6.size)
  have a5 : w6.drew.cell? ⟨G, 5, none⟩ = some (.slice A n c) := (blk_cell hbx6 5).trans rfl
  clear hrowsne hx5m hGlt hbx6 hR6 hW6 a0 a1 a2 a3 a4 hx6 hf6
  go_wp2
  obtain ⟨ad, had⟩ : ∃ ad, ad = (⟨rb, 0, none⟩ : Addr) := ⟨_, rfl⟩
  rw [← had]
  have hCfull : Kd.C k55 w6 (some ad) M (e.f5 ++ [o77, o78]) := by
    obtain ⟨q1, q2, q3⟩ := Kd.R_reads' HRR6.out
    rw [← q1, ← had] at q3
    exact q3
  have hro : Kd.C k55 w6 (some ad) n e.f5 := by rw [had]; exact HROOM.out _ _ HRR6.out
  have hMn : M = n + 2 := HM2.out.1
  have hc7 : n ≤ c7 := by have := HM2.out.2.2; omega
  obtain ⟨ad1, e1, v77, _⟩ := at_T55 hCfull (n : Int) (by omega) (by omega)
  cases e1
  obtain ⟨ad1, e1, v78, _⟩ := at_T55 hCfull ((n + 1 : Nat) : Int) (by omega) (by omega)
  cases e1
  have r77 : rd_T55 (e.f5 ++ [o77, o78]) (n : Int) = o77 := by
    unfold rd_T55
    rw [Int.toNat_natCast, List.getD_eq_getElem?_getD, List.getElem?_append_right (by rw [HN.out.1]; exact Nat.le_refl _), HN.out.1, Nat.sub_self]
    rfl
  have r78 : rd_T55 (e.f5 ++ [o77, o78]) ((n + 1 : Nat) : Int) = o78 := by
    unfold rd_T55
    rw [Int.toNat_natCast, List.getD_eq_getElem?_getD, List.getElem?_append_right (by rw [HN.out.1]; omega), HN.out.1, Nat.add_sub_cancel_left]
    rfl
  rw [r77, Int.toNat_natCast] at v77
  rw [r78, Int.toNat_natCast] at v78
  have v77' : w6.drew.cell? (ad.add (n * 5)) = some (.int .i64 77) := v77
  obtain ⟨N1, hN1⟩ : ∃ N1, N1 = n + 1 := ⟨_, rfl⟩
  rw [← hN1] at v78
  have v78' : w6.drew.cell? (ad.add (N1 * 5)) = some (.int .i64 78) := v78
  have hnM : n < M := by omega
  have hnM1 : N1 < M := by omega
  have hcut' : ∀ W, (Instr.slice 31 (.slice (some ad) M c7) none (some (.int .i64 (n : Int))) none).run Try.prog W = .ok (.slice (some ad) n c7) W := by rw [had]; exact hcut
  have HCR := Aside0.mk (And.intro hro (And.intro hc7 (HC.out _ HW6.out)))
  have HAD := Aside0.mk had
  have hwn : wrap64 ((n : Int) + 1) = (N1 : Int) := by unfold wrap64; omega
  have hwn2 : (n : Int) + 1 = (N1 : Int) := by omega
  have hwn3 : wrap64 (N1 : Int) = (N1 : Int) := by unfold wrap64; omega
  clear hCfull hro hMn hN1 v77 v78 r77 r78 had hc7 hcut
  refine start_ (n := 30) (S := fun w' => w'.cell? ⟨G, 5, none⟩ = some (.slice A n c) ∧ w'.cell? (ad.add (n * 5)) = some (.int .i64 77) ∧ w'.cell? (ad.add (N1 * 5)) = some (.int .i64 78)) (ds := []) #[false, false, false, false, false, false, false, false, false, false, false, false, false, false, false, false, false, false, false, false, false, false, false, false, false, false, false, false, false, false] (by kernel_rfl) rfl rfl ⟨a5, v77', v78'⟩ (fun hHeld => ?_)
  refine with_tabW rg45.tab6 rg45.bits6 (fun HT_ HW_ => ?_)
  refine pure_ (i := 0) (N := some 32) (v := ?_) (a' := ?_) #[true, false, false, false, false, false, false, false, false, false, false, false, false, false, false, false, false, false, false, false, false, false, false, false, false, false, false, false, false, false] rfl rfl (any_of HT_.out (by kernel_rfl)) (fun _ _ _ h => h) (Or.inl ⟨by rfl, ?_⟩) ?_ ?_
  rotate_left
  · intro w'
    go_simp
    with_reducible rfl
  rotate_left
  · simp only [Act.put, List.setIfInBounds_toArray, List.set_cons_zero, List.set_cons_succ, i64_w, i32_w]
    rfl
  refine pure_ (i := 1) (N := some 33) (v := ?_) (a' := ?_) #[true, true, false, false, false, false, false, false, false, false, false, false, false, false, false, false, false, false, false, false, false, false, false, false, false, false, false, false, false, false] rfl rfl (any_of HT_.out (by kernel_rfl)) (fun _ _ _ h => h) (Or.inl ⟨by rfl, ?_⟩) ?_ ?_
  rotate_left
  · intro w'
    go_simp
    with_reducible rfl
  rotate_left
  · simp only [Act.put, List.setIfInBounds_toArray, List.set_cons_zero, List.set_cons_succ, i64_w, i32_w]
    rfl
  refine pure_ (i := 5) (N := some 37) (v := ?_) (a' := ?_) #[true, true, false, false, false, true, false, false, false, false, false, false, false, false, false, false, false, false, false, false, false, false, false, false, false, false, false, false, false, false] rfl rfl (any_of HT_.out (by kernel_rfl)) (fun _ _ _ h => h) (Or.inl ⟨by rfl, ?_⟩) ?_ ?_
  rotate_left
  · intro w'
    go_simp
    with_reducible rfl
  rotate_left
  · simp only [Act.put, List.setIfInBounds_toArray, List.set_cons_zero, List.set_cons_succ, i64_w, i32_w]
    rfl
  refine take_ (i := 2) (N := some 34) (v := ?_) (a' := ?_) #[true, true, true, false, false, true, false, false, false, false, false, false, false, false, false, false, false, false, false, false, false, false, false, false, false, false, false, false, false, false] rfl rfl (take_ofW HT_.out HW_.out (by kernel_rfl)) (fun _ _ _ h => h) (Or.inl ⟨by rfl, ?_⟩) hHeld ?_ ?_
  rotate_left
  · rintro w' ⟨s0, s1, s2⟩
    go_simp
    with_reducible rfl
  rotate_left
  · simp only [Act.put, List.setIfInBounds_toArray, List.set_cons_zero, List.set_cons_succ, i64_w, i32_w]
    rfl
  refine pure_ (i := 3) (N := some 35) (v := ?_) (a' := ?_) #[true, true, true, true, false, true, false, false, false, false, false, false, false, false, false, false, false, false, false, false, false, false, false, false, false, false, false, false, false, false] rfl rfl (any_of HT_.out (by kernel_rfl)) (fun _ _ _ h => h) (Or.inl ⟨by rfl, ?_⟩) ?_ ?_
  rotate_left
  · intro w'
    go_simp
    with_reducible rfl
  rotate_left
  · simp only [Act.put, List.setIfInBounds_toArray, List.set_cons_zero, List.set_cons_succ, i64_w, i32_w]
    rfl
  refine pure_ (i := 4) (N := some 36) (v := ?_) (a' := ?_) #[true, true, true, true, true, true, false, false, false, false, false, false, false, false, false, false, false, false, false, false, false, false, false, false, false, false, false, false, false, false] rfl rfl (any_of HT_.out (by kernel_rfl)) (fun _ _ _ h => h) (Or.inl ⟨by rfl, ?_⟩) ?_ ?_
  rotate_left
  · intro w'
    go_simp
    with_reducible rfl
  rotate_left
  · simp only [Act.put, List.setIfInBounds_toArray, List.set_cons_zero, List.set_cons_succ, i64_w, i32_w]
    rfl
  refine take_ (i := 6) (N := some 38) (v := ?_) (a' := ?_) #[true, true, true, true, true, true, true, false, false, false, false, false, false, false, false, false, false, false, false, false, false, false, false, false, false, false, false, false, false, false] rfl rfl (take_ofW HT_.out HW_.out (by kernel_rfl)) (fun _ _ _ h => h) (Or.inl ⟨by rfl, ?_⟩) hHeld ?_ ?_
  rotate_left
  · rintro w' ⟨s0, s1, s2⟩
    go_simp
    with_reducible rfl
  rotate_left
  · simp only [Act.put, List.setIfInBounds_toArray, List.set_cons_zero, List.set_cons_succ, i64_w, i32_w]
    rfl
  refine one_ (i := 7) (N := some 39) #[true, true, true, true, true, true, true, true, false, false, false, false, false, false, false, false, false, false, false, false, false, false, false, false, false, false, false, false, false, false] rfl rfl (one_of HT_.out (by kernel_rfl)) (by decide) (fun K hK => ?_)
  refine goes_ Try.func35 (by kernel_rfl) rfl #[.slice (some ad) n c7, .slice A n c] (by rfl) rfl rfl (by simp only [List.map_toArray, List.map_cons, List.map_nil]; rfl) ?_
  with_reducible refine (sameOps_T e.f5 (some ad) A n c7 c _ HN.out.1 hop (Kd.C_below HCR.out.1 (below_drew (Below.refl _ _))) HCR.out.2.1 (Kd.C_below HCR.out.2.2 (below_drew (Below.refl _ _))) hnc).mono ?_
  rintro e w7 ⟨rfl, ⟨⟨mq, rfl⟩⟩⟩
  refine ⟨_, rfl, ?_⟩
  refine hK.out _ _ ⟨a5, v77', v78'⟩ (fun hHeld => ?_)
  clear hK K
  refine norm_ (a' := ?_) ?_ ?_
  rotate_left
  · show Act.put _ (some 39) _ = _
    simp only [Act.put, List.setIfInBounds_toArray, List.set_cons_zero, List.set_cons_succ, i64_w, i32_w]
    rfl
  refine pure_ (i := 8) (N := some 40) (v := ?_) (a' := ?_) #[true, true, true, true, true, true, true, true, true, false, false, false, false, false, false, false, false, false, false, false, false, false, false, false, false, false, false, false, false, false] rfl rfl (any_of HT_.out (by kernel_rfl)) (fun _ _ _ h => h) (Or.inl ⟨by rfl, ?_⟩) ?_ ?_
  rotate_left
  · intro w'
    go_simp
    with_reducible rfl
  rotate_left
  · simp only [Act.put, List.setIfInBounds_toArray, List.set_cons_zero, List.set_cons_succ, i64_w, i32_w]
    rfl
  refine pure_ (i := 9) (N := some 41) (v := ?_) (a' := ?_) #[true, true, true, true, true, true, true, true, true, true, false, false, false, false, false, false, false, false, false, false, false, false, false, false, false, false, false, false, false, false] rfl rfl (any_of HT_.out (by kernel_rfl)) (fun _ _ _ h => h) (Or.inl ⟨by rfl, ?_⟩) ?_ ?_
  rotate_left
  · intro w'
    go_simp
    with_reducible rfl
  rotate_left
  · simp only [Act.put, List.setIfInBounds_toArray, List.set_cons_zero, List.set_cons_succ, i64_w, i32_w]
    rfl
  refine pure_ (i := 10) (N := some 42) (v := ?_) (a' := ?_) #[true, true, true, true, true, true, true, true, true, true, true, false, false, false, false, false, false, false, false, false, false, false, false, false, false, false, false, false, false, false] rfl rfl (any_of HT_.out (by kernel_rfl)) (fun _ _ _ h => h) (Or.inl ⟨by rfl, ?_⟩) ?_ ?_
  rotate_left
  · intro w'
    go_simp
    with_reducible rfl
  rotate_left
  · simp only [Act.put, List.setIfInBounds_toArray, List.set_cons_zero, List.set_cons_succ, i64_w, i32_w]
    rfl
  refine pure_ (i := 11) (N := some 43) (v := ?_) (a' := ?_) #[true, true, true, true, true, true, true, true, true, true, true, true, false, false, false, false, false, false, false, false, false, false, false, false, false, false, false, false, false, false] rfl rfl (any_of HT_.out (by kernel_rfl)) (fun _ _ _ h => h) (Or.inl ⟨by rfl, ?_⟩) ?_ ?_
  rotate_left
  · intro w'
    go_simp
    with_reducible rfl
  rotate_left
  · simp only [Act.put, List.setIfInBounds_toArray, List.set_cons_zero, List.set_cons_succ, i64_w, i32_w]
    rfl
  refine take_ (i := 12) (N := some 44) (v := ?_) (a' := ?_) #[true, true, true, true, true, true, true, true, true, true, true, true, true, false, false, false, false, false, false, false, false, false, false, false, false, false, false, false, false, false] rfl rfl (take_ofW HT_.out HW_.out (by kernel_rfl)) (fun _ _ _ h => h) (Or.inl ⟨by rfl, ?_⟩) hHeld ?_ ?_
  rotate_left
  · rintro w' ⟨s0, s1, s2⟩
    go_simp
    with_reducible rfl
  rotate_left
  · simp only [Act.put, List.setIfInBounds_toArray, List.set_cons_zero, List.set_cons_succ, i64_w, i32_w]
    rfl
  refine pure_ (i := 13) (N := some 45) (v := ?_) (a' := ?_) #[true, true, true, true, true, true, true, true, true, true, true, true, true, true, false, false, false, false, false, false, false, false, false, false, false, false, false, false, false, false] rfl rfl (any_of HT_.out (by kernel_rfl)) (fun _ _ _ h => h) (Or.inl ⟨by rfl, ?_⟩) ?_ ?_
  rotate_left
  · intro w'
    go_simp
    with_reducible rfl
  rotate_left
  · simp only [Act.put, List.setIfInBounds_toArray, List.set_cons_zero, List.set_cons_succ, i64_w, i32_w]
    rfl
  refine pure_ (i := 14) (N := some 46) (v := ?_) (a' := ?_) #[true, true, true, true, true, true, true, true, true, true, true, true, true, true, true, false, false, false, false, false, false, false, false, false, false, false, false, false, false, false] rfl rfl (any_of HT_.out (by kernel_rfl)) (fun _ _ _ h => h) (Or.inl ⟨by rfl, ?_⟩) ?_ ?_
  rotate_left
  · intro w'
    go_simp
    with_reducible rfl
  rotate_left
  · simp only [Act.put, List.setIfInBounds_toArray, List.set_cons_zero, List.set_cons_succ, i64_w, i32_w]
    rfl
  refine pure_ (i := 15) (N := some 47) (v := ?_) (a' := ?_) #[true, true, true, true, true, true, true, true, true, true, true, true, true, true, true, true, false, false, false, false, false, false, false, false, false, false, false, false, false, false] rfl rfl (any_of HT_.out (by kernel_rfl)) (fun _ _ _ h => h) (Or.inl ⟨by rfl, ?_⟩) ?_ ?_
  rotate_left
  · intro w'
    go_simp
    with_reducible rfl
  rotate_left
  · simp only [Act.put, List.setIfInBounds_toArray, List.set_cons_zero, List.set_cons_succ, i64_w, i32_w]
    rfl
  refine take_ (i := 16) (N := some 48) (v := ?_) (a' := ?_) #[true, true, true, true, true, true, true, true, true, true, true, true, true, true, true, true, true, false, false, false, false, false, false, false, false, false, false, false, false, false] rfl rfl (take_ofW HT_.out HW_.out (by kernel_rfl)) (fun _ _ _ h => h) (Or.inl ⟨by rfl, ?_⟩) hHeld ?_ ?_
  rotate_left
  · rintro w' ⟨s0, s1, s2⟩
    go_simp
    with_reducible rfl
  rotate_left
  · simp only [Act.put, List.setIfInBounds_toArray, List.set_cons_zero, List.set_cons_succ, i64_w, i32_w]
    rfl
  refine pure_ (i := 17) (N := some 49) (v := ?_) (a' := ?_) #[true, true, true, true, true, true, true, true, true, true, true, true, true, true, true, true, true, true, false, false, false, false, false, false, false, false, false, false, false, false] rfl rfl (any_of HT_.out (by kernel_rfl)) (fun _ _ _ h => h) (Or.inl ⟨by rfl, ?_⟩) ?_ ?_
  rotate_left
  · intro w'
    go_simp
    with_reducible rfl
  rotate_left
  · simp only [Act.put, List.setIfInBounds_toArray, List.set_cons_zero, List.set_cons_succ, i64_w, i32_w]
    rfl
  refine pure_ (i := 18) (N := some 50) (v := ?_) (a' := ?_) #[true, true, true, true, true, true, true, true, true, true, true, true, true, true, true, true, true, true, true, false, false, false, false, false, false, false, false, false, false, false] rfl rfl (any_of HT_.out (by kernel_rfl)) (fun _ _ _ h => h) (Or.inl ⟨by rfl, ?_⟩) ?_ ?_
  rotate_left
  · intro w'
    go_simp
    with_reducible rfl
  rotate_left
  · simp only [Act.put, List.setIfInBounds_toArray, List.set_cons_zero, List.set_cons_succ, i64_w, i32_w]
    rfl
  refine pure_ (i := 19) (N := some 51) (v := ?_) (a' := ?_) #[true, true, true, true, true, true, true, true, true, true, true, true, true, true, true, true, true, true, true, true, false, false, false, false, false, false, false, false, false, false] rfl rfl (any_of HT_.out (by kernel_rfl)) (fun _ _ _ h => h) (Or.inl ⟨by rfl, ?_⟩) ?_ ?_
  rotate_left
  · intro w'
    go_simp
    with_reducible rfl
  rotate_left
  · simp only [Act.put, List.setIfInBounds_toArray, List.set_cons_zero, List.set_cons_succ, i64_w, i32_w]
    rfl
  refine pure_ (i := 20) (N := some 52) (v := ?_) (a' := ?_) #[true, true, true, true, true, true, true, true, true, true, true, true, true, true, true, true, true, true, true, true, true, false, false, false, false, false, false, false, false, false] rfl rfl (any_of HT_.out (by kernel_rfl)) (fun _ _ _ h => h) (Or.inl ⟨by rfl, ?_⟩) ?_ ?_
  rotate_left
  · intro w'
    go_simp
    with_reducible rfl
  rotate_left
  · simp only [Act.put, List.setIfInBounds_toArray, List.set_cons_zero, List.set_cons_succ, i64_w, i32_w]
    rfl
  refine pure_ (i := 21) (N := some 53) (v := ?_) (a' := ?_) #[true, true, true, true, true, true, true, true, true, true, true, true, true, true, true, true, true, true, true, true, true, true, false, false, false, false, false, false, false, false] rfl rfl (any_of HT_.out (by kernel_rfl)) (fun _ _ _ h => h) (Or.inl ⟨by rfl, ?_⟩) ?_ ?_
  rotate_left
  · intro w'
    go_simp
    with_reducible rfl
  rotate_left
  · simp only [Act.put, List.setIfInBounds_toArray, List.set_cons_zero, List.set_cons_succ, i64_w, i32_w]
    rfl
  refine take_ (i := 22) (N := some 54) (v := ?_) (a' := ?_) #[true, true, true, true, true, true, true, true, true, true, true, true, true, true, true, true, true, true, true, true, true, true, true, false, false, false, false, false, false, false] rfl rfl (take_ofW HT_.out HW_.out (by kernel_rfl)) (fun _ _ _ h => h) (Or.inl ⟨by rfl, ?_⟩) hHeld ?_ ?_
  rotate_left
  · rintro w' ⟨s0, s1, s2⟩
    go_simp
    with_reducible rfl
  rotate_left
  · simp only [Act.put, List.setIfInBounds_toArray, List.set_cons_zero, List.set_cons_succ, i64_w, i32_w]
    rfl
  refine pure_ (i := 23) (N := some 55) (v := ?_) (a' := ?_) #[true, true, true, true, true, true, true, true, true, true, true, true, true, true, true, true, true, true, true, true, true, true, true, true, false, false, false, false, false, false] rfl rfl (any_of HT_.out (by kernel_rfl)) (fun _ _ _ h => h) (Or.inl ⟨by rfl, ?_⟩) ?_ ?_
  rotate_left
  · intro w'
    go_simp
    with_reducible rfl
  rotate_left
  · simp only [Act.put, List.setIfInBounds_toArray, List.set_cons_zero, List.set_cons_succ, i64_w, i32_w]
    rfl
  refine pure_ (i := 24) (N := some 56) (v := ?_) (a' := ?_) #[true, true, true, true, true, true, true, true, true, true, true, true, true, true, true, true, true, true, true, true, true, true, true, true, true, false, false, false, false, false] rfl rfl (any_of HT_.out (by kernel_rfl)) (fun _ _ _ h => h) (Or.inl ⟨by rfl, ?_⟩) ?_ ?_
  rotate_left
  · intro w'
    go_simp
    with_reducible rfl
  rotate_left
  · simp only [Act.put, List.setIfInBounds_toArray, List.set_cons_zero, List.set_cons_succ, i64_w, i32_w]
    rfl
  refine pure_ (i := 25) (N := some 57) (v := ?_) (a' := ?_) #[true, true, true, true, true, true, true, true, true, true, true, true, true, true, true, true, true, true, true, true, true, true, true, true, true, true, false, false, false, false] rfl rfl (any_of HT_.out (by kernel_rfl)) (fun _ _ _ h => h) (Or.inl ⟨by rfl, ?_⟩) ?_ ?_
  rotate_left
  · intro w'
    go_simp
    with_reducible rfl
  rotate_left
  · simp only [Act.put, List.setIfInBounds_toArray, List.set_cons_zero, List.set_cons_succ, i64_w, i32_w]
    rfl
  refine pure_ (i := 26) (N := some 58) (v := ?_) (a' := ?_) #[true, true, true, true, true, true, true, true, true, true, true, true, true, true, true, true, true, true, true, true, true, true, true, true, true, true, true, false, false, false] rfl rfl (any_of HT_.out (by kernel_rfl)) (fun _ _ _ h => h) (Or.inl ⟨by rfl, ?_⟩) ?_ ?_
  rotate_left
  · intro w'
    go_simp
    with_reducible rfl
  rotate_left
  · simp only [Act.put, List.setIfInBounds_toArray, List.set_cons_zero, List.set_cons_succ, i64_w, i32_w]
    rfl
  refine take_ (i := 27) (N := some 59) (v := ?_) (a' := ?_) #[true, true, true, true, true, true, true, true, true, true, true, true, true, true, true, true, true, true, true, true, true, true, true, true, true, true, true, true, false, false] rfl rfl (take_ofW HT_.out HW_.out (by kernel_rfl)) (fun _ _ _ h => h) (Or.inl ⟨by rfl, ?_⟩) hHeld ?_ ?_
  rotate_left
  · rintro w' ⟨s0, s1, s2⟩
    go_simp
    with_reducible rfl
  rotate_left
  · simp only [Act.put, List.setIfInBounds_toArray, List.set_cons_zero, List.set_cons_succ, i64_w, i32_w]
    rfl
  refine pure_ (i := 28) (N := some 60) (v := ?_) (a' := ?_) #[true, true, true, true, true, true, true, true, true, true, true, true, true, true, true, true, true, true, true, true, true, true, true, true, true, true, true, true, true, false] rfl rfl (any_of HT_.out (by kernel_rfl)) (fun _ _ _ h => h) (Or.inl ⟨by rfl, ?_⟩) ?_ ?_
  rotate_left
  · intro w'
    go_simp
    with_reducible rfl
  rotate_left
  · simp only [Act.put, List.setIfInBounds_toArray, List.set_cons_zero, List.set_cons_succ, i64_w, i32_w]
    rfl
  refine pure_ (i := 29) (N := some 61) (v := ?_) (a' := ?_) #[true, true, true, true, true, true, true, true, true, true, true, true, true, true, true, true, true, true, true, true, true, true, true, true, true, true, true, true, true, true] rfl rfl (any_of HT_.out (by kernel_rfl)) (fun _ _ _ h => h) (Or.inl ⟨by rfl, ?_⟩) ?_ ?_
  rotate_left
  · intro w'
    go_simp
    with_reducible rfl
  rotate_left
  · simp only [Act.put, List.setIfInBounds_toArray, List.set_cons_zero, List.set_cons_succ, i64_w, i32_w]
    rfl
  refine done_ (done_of HT_.out (by kernel_rfl)) ?_
  rw [HAD.out]
  clear v77' v78' a5 hcut' HCR HAD HROOM HLV
  have HF6 := Aside0.mk (((Frm.refl w6 (fun k => k = rb)).drew).drewN mq)
  have hblk6 : ∃ cur, w6.heap[rb]? = some (.cells cur 55 (0, 0)) ∧ M * 5 ≤ cur.size := by
    have hadd : ∀ i, (⟨rb, 0, none⟩ : Addr).add i = ⟨rb, i, none⟩ := fun i => by unfold Addr.add; split <;> simp_all
    obtain ⟨g1, cap, e1, _, _, cs, hcs⟩ := Kd.R_form HRR6.out (by simp)
    cases e1
    obtain ⟨q1, q2, q3⟩ := Kd.R_reads' HRR6.out
    rw [← q1] at q3
    obtain ⟨ad2, e2, _, _, _, _, hl⟩ := at_T55 q3 ((n + 1 : Nat) : Int) (by omega) (by have := HM2.out.1; omega)
    cases e2
    rw [Int.toNat_natCast, hadd, blk_cell hcs] at hl
    have h5 : (n + 1) * 5 + 4 < cs.size := (Array.getElem?_eq_some_iff.1 hl).1
    exact ⟨cs, hcs, by have := HM2.out.1; omega⟩
  obtain ⟨cur6, hcur6, hsz6⟩ := hblk6
  have HCUR6 := Aside0.mk (And.intro hcur6 hsz6)
  clear hcur6 hsz6
  obtain ⟨wz, hwz⟩ : ∃ wz, wz = w6.drew.drewN mq := ⟨_, rfl⟩
  rw [← hwz] at HF6 ⊢
  have HCZ := Aside0.mk (show wz.heap[rb]? = some (.cells cur6 55 (0, 0)) ∧ M * 5 ≤ cur6.size by rw [hwz]; exact HCUR6.out)
  clear hwz
  go_wp2
  go_loopw [11] (fun v11 wr => ∃ i : Nat, i ≤ n ∧ v11 = .int .i64 (i : Int) ∧ Aside0 (Frm w6 wr (fun k => k = rb)) ∧ ∃ cur, Aside0 (wr.heap[rb]? = some (.cells cur 55 (0, 0)) ∧ M * 5 ≤ cur.size)) (fun v11 _ => n + 1 - (intOf v11).toNat)
  case atStart => exact ⟨0, Nat.zero_le _, rfl, HF6, cur6, HCZ⟩
  case round =>
    obtain ⟨i, hi, rfl, HFR, cur, HCU⟩ := hrel
    have hbx7 := HFR.out.blk HBX6.out (fun e => by have := HRB.out; have := HG.out; omega)
    have a5 : wr.cell? ⟨G, 5, none⟩ = some (.slice A n c) := (blk_cell hbx7 5).trans rfl
    clear hbx7
    by_cases hin : i < n
    · have hd1 : decide (i < n) = true := decide_eq_true hin
      have hd2 : decide ((i : Int) < (n : Int)) = true := decide_eq_true (by omega)
      have hiM : i < M := by omega
      go_wp2_with (with_reducible refine stop_store rfl ?_)
      refine wpList_store rfl rfl 55 (.tmp 72) (.tmp 71) rfl (g := rb) (o' := i * 5) (.agg #[.int .i64 79, .string ⟨#[103, 111, 110, 101]⟩, .string ⟨#[]⟩, .int .i64 0, .int .i64 0]) [.int .i64 79, .string ⟨#[103, 111, 110, 101]⟩, .string ⟨#[]⟩, .int .i64 0, .int .i64 0] (by first | rfl | simp [Act.eval, Addr.add]) rfl HCU.out.1 rfl size55 (by show i * 5 + 5 ≤ _; have := HCU.out.2; omega) (by simp [Value.oneCell']) ?_
      obtain ⟨cur2, k2, k3, k4⟩ := setCells_row [.int .i64 79, .string ⟨#[103, 111, 110, 101]⟩, .string ⟨#[]⟩, .int .i64 0, .int .i64 0] (i * 5) wr cur HCU.out.1 (by show i * 5 + 5 ≤ _; have := HCU.out.2; omega)
      have HF7 := Aside0.mk (Frm.setCells HFR.out (g := rb) (.inl rfl) (i * 5) [.int .i64 79, .string ⟨#[103, 111, 110, 101]⟩, .string ⟨#[]⟩, .int .i64 0, .int .i64 0])
      have HC7 := Aside0.mk (And.intro k2 (show M * 5 ≤ cur2.size by rw [k3]; exact HCU.out.2))
      clear k2 k3 k4
      obtain ⟨w8, hw8⟩ : ∃ w8, w8 = wr.setCells rb (i * 5) [.int .i64 79, .string ⟨#[103, 111, 110, 101]⟩, .string ⟨#[]⟩, .int .i64 0, .int .i64 0] := ⟨_, rfl⟩
      rw [← hw8] at HF7 HC7 ⊢
      clear hw8 a5
      go_wp2
      go_roundw
      case rel => exact ⟨i + 1, by omega, by go_num, HF7, cur2, HC7⟩
      case measure => simp [intOf]; omega
    · have hd1 : decide (i < n) = false := decide_eq_false hin
      have hd2 : decide ((i : Int) < (n : Int)) = false := decide_eq_false (by omega)
      go_wp2
      go_ret
      have hrn : ∀ w' : World, ∀ k, ((ok k ∧ k < W.heap.size) ∨ w'.heap.size ≤ k) → w4.heap.size ≤ w'.heap.size → ¬ k = rb := by
        rintro w' k (h | h) h2 h3
        · have := HRB.out; have := HG.out; omega
        · have := HRB.out; have := HG3.out; have := HS4.out; omega
      have hr8 : RingIs wr base ok p (s.app e) := RingIs_mono (RingIs_frm HR6.out HFR.out (fun k hk => hrn w4 k hk (Nat.le_refl _))) (fun k hk => hk.elim (fun h => h.1) (fun h => HF.out k (by have := HS4.out; have := HGG.out; have := HG.out; omega)))
      have hx8 : XAt wr base ok g (x.app e) := XAt_mono (XAt_frm HX6.out HFR.out (fun k hk => hrn w5 k hk HS5.out)) (fun k hk => hk.elim (fun h => h.1) (fun h => HF.out k (by have := HS5.out; have := HS4.out; have := HGG.out; have := HG.out; omega)))
      refine ⟨by simp, ⟨hr8, hx8, H.out.lk.app H.out.ra.1 e⟩, HW6.out.then_ HFR.out (fun k hk hlt => ?_)⟩
      have : k = rb := hk
      have := HRB.out
      have := HG.out
      omega
end Go.Proofs.Ytcbejpmmlcdhnaa.PW
namespace Go.Proofs.Ytcbejpmmlcdhnaa.PW
open Go.RowKit Go.Proofs.YtcbejpmmlcdhnaaW.PrintWords Go.Proofs.YtcbejpmmlcdhnaaW.PrintLast Go.Proofs.YtcbejpmmlcdhnaaW.PrintMore
set_option linter.unusedVariables false
set_option linter.unusedSimpArgs false

section
variable {W : World} {base g : Nat} {ok : Nat → Prop} {s : RS} {x : XS}
theorem Link.len (h : Link x s) : s.la = x.fl + x.l.length := by
  have h1 := h.fl
  have h2 := h.kept
  have h3 := h.le
  unfold RS.la
  omega
theorem Link.get (h : Link x s) (j : Nat) : s.l[j]? = x.l[x.l.length - x.kept + j]? := by
  rw [← h.l, List.getElem?_drop]
theorem xat_C (hs : s.ok) (hx : XAt W base ok g x) (hk : Link x s) (hlen : x.l.length ≤ 4294967296) (n : Int) :
    Calls Try.prog 55 #[.pointer (some ⟨g, 0, none⟩), .int .i64 n] W fun r w' => ∃ A2 c2, r = .returned (.tuple #[entV (s.at n) (.slice A2 (s.at n).f5.length c2), .int .i64 (s.atc n)]) ∧ (s.at n).f5.length ≤ c2 ∧ Kd.C k55 w' A2 (s.at n).f5.length (s.at n).f5 ∧ Below W.heap.size W w' := by
  have hla := hk.la
  have hfl := hk.xfl
  by_cases h1 : n ≤ (s.fl : Int)
  · have hc : s.atc n = 60 := if_pos h1
    have ha : s.at n = z33 := by unfold RS.at; rw [hc]; rfl
    rw [hc, ha]
    refine (xat_old hx hlen n (by rw [hfl]; exact decide_eq_true h1)).mono ?_
    rintro e w1 ⟨rfl, hb⟩
    exact ⟨none, 0, rfl, Nat.le_refl _, Kd.C_nil _ _, hb⟩
  · by_cases h2 : (s.la : Int) < n
    · have hc : s.atc n = 61 := by unfold RS.atc; rw [if_neg h1, if_pos h2]
      have ha : s.at n = z33 := by unfold RS.at; rw [hc]; rfl
      rw [hc, ha]
      refine (xat_gap hx hlen n (by rw [hfl]; exact decide_eq_false h1) (by rw [hla]; exact decide_eq_true h2)).mono ?_
      rintro e w1 ⟨rfl, hb⟩
      exact ⟨none, 0, rfl, Nat.le_refl _, Kd.C_nil _ _, hb⟩
    · have hc : s.atc n = 0 := by unfold RS.atc; rw [if_neg h1, if_neg h2]
      have ha : s.at n = s.l.getD (n - s.fl - 1).toNat z33 := by unfold RS.at; rw [if_pos hc]
      obtain ⟨m, rfl⟩ : ∃ m : Nat, n = m := ⟨n.toNat, by omega⟩
      have hidx : ((m : Int) - s.fl - 1).toNat = m - s.fl - 1 := by omega
      have hlt : m - s.fl - 1 < s.l.length := by simp only [RS.la] at h2; omega
      have hget := hk.get (m - s.fl - 1)
      have hlen2 := hk.len
      have hfl2 := hk.fl
      have hkl := hk.kept
      have hle := hk.le
      rw [hc, ha, hidx, List.getD_eq_getElem?_getD, List.getElem?_eq_getElem hlt]
      rw [List.getElem?_eq_getElem hlt] at hget
      refine (xat_ok hx hlen s.la s.fl m (x.l.length - x.kept + (m - s.fl - 1)) hla hfl hs.2.2.2.2.1 (by omega) (by omega) (by simp only [RS.la] at h2 hlen2 ⊢; omega) _ hget.symm).mono ?_
      rintro e w1 ⟨A2, c2, rfl, hl, hR, hb⟩
      obtain ⟨A', c', e1, _, hC⟩ := Kd.R_reads hR
      cases e1
      exact ⟨A2, c2, rfl, hl, Kd.C_below hC hb, hb⟩
theorem take_min {α : Type} (l : List α) (m k : Nat) (h : k = min m l.length) : l.take k = l.take m := by
  subst h
  by_cases hm : m ≤ l.length
  · rw [Nat.min_eq_left hm]
  · rw [Nat.min_eq_right (by omega), List.take_length, List.take_of_length_le (by omega)]
theorem xafter_C (hs : s.ok) (hx : XAt W base ok g x) (hk : Link x s) (hlen : x.l.length ≤ 4294967296) (a m : Int) :
    Calls Try.prog 56 #[.pointer (some ⟨g, 0, none⟩), .int .i64 a, .int .i64 m] W fun r w' => ∃ A c, r = .returned (.tuple #[.slice A (s.after a m).length c, .int .i64 (s.afc a m)]) ∧ (s.after a m).length ≤ c ∧ Kd.C k33 w' A (s.after a m).length (s.after a m) ∧ Below W.heap.size W w' := by
  have hla := hk.la
  have hfl := hk.xfl
  have hbad : ∀ {r : Int}, s.afc a m = r → r ≠ 0 → (Calls Try.prog 56 #[.pointer (some ⟨g, 0, none⟩), .int .i64 a, .int .i64 m] W fun e w' => e = .returned (.tuple #[.slice none 0 0, .int .i64 r]) ∧ Below W.heap.size W w') →
      Calls Try.prog 56 #[.pointer (some ⟨g, 0, none⟩), .int .i64 a, .int .i64 m] W fun r w' => ∃ A c, r = .returned (.tuple #[.slice A (s.after a m).length c, .int .i64 (s.afc a m)]) ∧ (s.after a m).length ≤ c ∧ Kd.C k33 w' A (s.after a m).length (s.after a m) ∧ Below W.heap.size W w' := by
    intro r hr h0 hc
    refine hc.mono ?_
    rintro e w1 ⟨rfl, hb⟩
    have : s.after a m = [] := by unfold RS.after; rw [hr, if_neg h0]
    rw [this, hr]
    exact ⟨none, 0, rfl, Nat.le_refl _, Kd.C_nil _ _, hb⟩
  by_cases h1 : m < 0
  · exact hbad (r := 1) (if_pos (.inl h1)) (by decide) (xafter_neg hx hlen a m h1)
  by_cases h2 : 64 < m
  · exact hbad (r := 1) (if_pos (.inr h2)) (by decide) (xafter_big hx hlen a m (by omega) h2)
  have hn1 : ¬ (m < 0 ∨ 64 < m) := by omega
  by_cases h3 : a < (s.fl : Int)
  · exact hbad (r := 60) (by unfold RS.afc; rw [if_neg hn1, if_pos h3]) (by decide) (xafter_old hx hlen a m (by omega) (by omega) (by rw [hfl]; exact decide_eq_true h3))
  by_cases h4 : (s.la : Int) < a
  · exact hbad (r := 61) (by unfold RS.afc; rw [if_neg hn1, if_neg h3, if_pos h4]) (by decide) (xafter_gap hx hlen a m (by omega) (by omega) (by rw [hfl]; exact decide_eq_false h3) (by rw [hla]; exact decide_eq_true h4))
  have hc : s.afc a m = 0 := by unfold RS.afc; rw [if_neg hn1, if_neg h3, if_neg h4]
  obtain ⟨a0, rfl⟩ : ∃ a0 : Nat, a = a0 := ⟨a.toNat, by omega⟩
  obtain ⟨m0, rfl⟩ : ∃ m0 : Nat, m = m0 := ⟨m.toNat, by omega⟩
  have hlen2 := hk.len
  have hfl2 := hk.fl
  have hle := hk.le
  have hd : s.l.drop (a0 - s.fl) = x.l.drop (a0 - x.fl) := by
    rw [← hk.l, List.drop_drop]
    congr 1
    omega
  have hdl : (x.l.drop (a0 - x.fl)).length = s.la - a0 := by rw [List.length_drop]; omega
  have haf : s.after (a0 : Int) (m0 : Int) = (x.l.drop (a0 - x.fl)).take (min m0 (s.la - a0)) := by
    unfold RS.after
    rw [if_pos hc, Int.toNat_natCast, Int.toNat_natCast, hd]
    exact (take_min _ _ _ (by rw [hdl])).symm
  have hal : (s.after (a0 : Int) (m0 : Int)).length = min m0 (s.la - a0) := by rw [haf, List.length_take, hdl]; omega
  rw [hc, hal, haf]
  refine (xafter_ok hx hlen s.la s.fl a0 m0 (min m0 (s.la - a0)) hla hfl hs.2.2.2.2.1 hlen2 (by omega) (by omega) (by omega) (by omega) rfl).mono ?_
  rintro e w1 ⟨A, c, rfl, h7, h8, h9⟩
  exact ⟨A, c, rfl, h7, h8, h9⟩
end
end Go.Proofs.Ytcbejpmmlcdhnaa.PW
namespace Go.Proofs.Ytcbejpmmlcdhnaa.PW
open Go.RowKit Go.Proofs.YtcbejpmmlcdhnaaW.PrintWords Go.Proofs.YtcbejpmmlcdhnaaW.PrintLast Go.Proofs.YtcbejpmmlcdhnaaW.PrintMore
set_option linter.unusedVariables false
set_option linter.unusedSimpArgs false

section
variable {W : World} {base g : Nat} {ok : Nat → Prop} {p : Option Nat} {s : RS} {x : XS}
theorem at_ok_ops (hs : s.ok) (n : Int) : opsOk (s.at n) := by
  unfold RS.at
  split
  · rw [List.getD_eq_getElem?_getD]
    cases h : s.l[(n - s.fl - 1).toNat]? with
    | none => show (0 : Nat) ≤ _; omega
    | some y => exact hs.2.2.2.2.2 y (List.mem_of_getElem? h)
  · show (0 : Nat) ≤ _
    omega
theorem after_ok_ops (hs : s.ok) (a m : Int) : (∀ y ∈ s.after a m, opsOk y) ∧ (s.after a m).length ≤ 64 := by
  have h64 : s.l.length ≤ 64 := Nat.le_trans hs.2.1 hs.1
  unfold RS.after
  split
  · exact ⟨fun y hy => hs.2.2.2.2.2 y (List.mem_of_mem_drop (List.mem_of_mem_take hy)), by rw [List.length_take, List.length_drop]; omega⟩
  · exact ⟨fun y hy => (by cases hy), by show (0 : Nat) ≤ 64; omega⟩
set_option maxHeartbeats 8000000 in
set_option maxRecDepth 100000 in
theorem asked_at (h : Both W base ok p g s x) (a : S47) (v : Value) (n : Int) (hlen : x.l.length ≤ 4294967296) (hk : a.k = 7 ∨ a.k = 8 ∨ a.k = 12) :
    Calls Try.prog 49 #[ptr p, .pointer (some ⟨g, 0, none⟩), actV a v, .int .i64 n] W fun r w' => r = .returned (.bool true) ∧ Below W.heap.size W w' := by
  have H := Aside0.mk h
  have HL := Aside0.mk hlen
  have HOPS := Aside0.mk (at_ok_ops h.ra.1 n)
  obtain ⟨vp, hvp⟩ : ∃ vp, vp = ptr p := ⟨_, rfl⟩
  rw [← hvp]
  have HVP := Aside0.mk hvp
  clear hvp h hlen
  obtain ⟨y, hy⟩ : ∃ y, y = s.at n := ⟨_, rfl⟩
  obtain ⟨ac, hac⟩ : ∃ ac, ac = s.atc n := ⟨_, rfl⟩
  obtain ⟨m5, hm5⟩ : ∃ m5, m5 = y.f5.length := ⟨_, rfl⟩
  rw [← hy] at HOPS
  have HY := Aside0.mk (And.intro hy (And.intro hac hm5))
  clear hy hac hm5
  unfold actV
  rcases hk with hk | hk | hk
  all_goals
    rw [hk]
    clear hk
    go_enter Try.func49, Try.ntmps49
    go_wp2_with fail
    rw [HVP.out]
    refine (at_R (RingIs_below H.out.ra (below_alloc (Below.refl _ _) _)) n).mono ?_
    rintro r w1 ⟨A2, c2, rfl, hv, hB1⟩
    rw [← HVP.out]
    rw [← HY.out.1, ← HY.out.2.2] at hv
    rw [← HY.out.1, ← HY.out.2.1, ← HY.out.2.2]
    unfold entV
    have HB1 := Aside0.mk (below_then (below_alloc (Below.refl W.heap.size W) _) (Nat.le_of_lt (blk_lt (heap_alloc_new W _))) hB1)
    have HV1 := Aside0.mk hv
    clear hB1 hv
    have HNEW := Aside0.mk (heap_alloc_new w1 (.cells zeroCells 33))
    go_wp2_with (with_reducible refine stop_store rfl ?_)
    refine wpList_store rfl rfl 33 (.tmp 9) (.tmp 34) rfl (.agg #[.int .i64 y.f0, .int .i64 y.f1, .int .i64 y.f2, .int .i64 y.f3, .int .i64 y.f4, .slice A2 m5 c2]) (cells6 y (.slice A2 m5 c2)) rfl rfl HNEW.out rfl size33 (by show 0 + 6 ≤ 6; omega) (by simp [cells6, Value.oneCell']) ?_
    rw [alloc_full (w := w1) (cur := zeroCells) (e := 33) (cells6 y (.slice A2 m5 c2)) rfl]
    have hbx2 : (w1.alloc (.cells (cells6 y (.slice A2 m5 c2)).toArray 33)).heap[w1.heap.size]? = some (.cells (cells6 y (.slice A2 m5 c2)).toArray 33) := heap_alloc_new w1 _
    have HB2 := Aside0.mk (show Below W.heap.size W (w1.alloc (.cells (cells6 y (.slice A2 m5 c2)).toArray 33)) from below_alloc HB1.out _)
    have HV2 := Aside0.mk (Kd.R_below HV1.out (below_alloc (Below.refl w1.heap.size w1) (.cells (cells6 y (.slice A2 m5 c2)).toArray 33)))
    obtain ⟨G2, hG2⟩ : ∃ G2, G2 = w1.heap.size := ⟨_, rfl⟩
    rw [← hG2] at hbx2 ⊢
    clear HNEW
    obtain ⟨w2, hw2⟩ : ∃ w2, w2 = w1.alloc (.cells (cells6 y (.slice A2 m5 c2)).toArray 33) := ⟨_, rfl⟩
    rw [← hw2] at hbx2 HB2 HV2 ⊢
    have HBX2 := Aside0.mk hbx2
    clear hw2 hG2 hbx2 HV1 HB1
    go_wp2_with fail
    refine (xat_C H.out.ra.1 (XAt_below H.out.xa HB2.out) H.out.lk HL.out n).mono ?_
    rintro r w3 ⟨A3, c3, rfl, hl3, hC3, hB3⟩
    rw [← HY.out.1, ← HY.out.2.2] at hl3 hC3
    rw [← HY.out.1, ← HY.out.2.1, ← HY.out.2.2]
    unfold entV
    have HBX3 := Aside0.mk ((hB3.block _ (blk_lt HBX2.out)).trans HBX2.out)
    have HB3 := Aside0.mk (below_then HB2.out HB2.out.size hB3)
    have HV3 := Aside0.mk (Kd.R_below HV2.out hB3)
    have HC3 := Aside0.mk (And.intro hl3 hC3)
    clear hB3 hl3 hC3 HBX2 HV2 HB2
    have HNEW := Aside0.mk (heap_alloc_new w3 (.cells zeroCells 33))
    go_wp2_with (with_reducible refine stop_store rfl ?_)
    refine wpList_store rfl rfl 33 (.tmp 11) (.tmp 40) rfl (.agg #[.int .i64 y.f0, .int .i64 y.f1, .int .i64 y.f2, .int .i64 y.f3, .int .i64 y.f4, .slice A3 m5 c3]) (cells6 y (.slice A3 m5 c3)) rfl rfl HNEW.out rfl size33 (by show 0 + 6 ≤ 6; omega) (by simp [cells6, Value.oneCell']) ?_
    rw [alloc_full (w := w3) (cur := zeroCells) (e := 33) (cells6 y (.slice A3 m5 c3)) rfl]
    have hbx4 : (w3.alloc (.cells (cells6 y (.slice A3 m5 c3)).toArray 33)).heap[w3.heap.size]? = some (.cells (cells6 y (.slice A3 m5 c3)).toArray 33) := heap_alloc_new w3 _
    have hB4 : Below w3.heap.size w3 (w3.alloc (.cells (cells6 y (.slice A3 m5 c3)).toArray 33)) := below_alloc (Below.refl _ _) _
    have hbx4' := (hB4.block _ (blk_lt HBX3.out)).trans HBX3.out
    have HV4 := Aside0.mk (Kd.R_below HV3.out hB4)
    have HC4 := Aside0.mk (And.intro HC3.out.1 (Kd.C_below HC3.out.2 hB4))
    have HB4 := Aside0.mk (below_then HB3.out HB3.out.size hB4)
    obtain ⟨G4, hG4⟩ : ∃ G4, G4 = w3.heap.size := ⟨_, rfl⟩
    rw [← hG4] at hbx4 ⊢
    clear HNEW
    obtain ⟨w4, hw4⟩ : ∃ w4, w4 = w3.alloc (.cells (cells6 y (.slice A3 m5 c3)).toArray 33) := ⟨_, rfl⟩
    rw [← hw4] at hbx4 hbx4' HV4 HC4 HB4 ⊢
    have d0 : w4.cell? ⟨G2, 0, none⟩ = some (.int .i64 y.f0) := (blk_cell hbx4' 0).trans rfl
    have d1 : w4.cell? ⟨G2, 1, none⟩ = some (.int .i64 y.f1) := (blk_cell hbx4' 1).trans rfl
    have d2 : w4.cell? ⟨G2, 2, none⟩ = some (.int .i64 y.f2) := (blk_cell hbx4' 2).trans rfl
    have d3 : w4.cell? ⟨G2, 3, none⟩ = some (.int .i64 y.f3) := (blk_cell hbx4' 3).trans rfl
    have d4 : w4.cell? ⟨G2, 4, none⟩ = some (.int .i64 y.f4) := (blk_cell hbx4' 4).trans rfl
    have d5 : w4.cell? ⟨G2, 5, none⟩ = some (.slice A2 m5 c2) := (blk_cell hbx4' 5).trans rfl
    have e0 : w4.cell? ⟨G4, 0, none⟩ = some (.int .i64 y.f0) := (blk_cell hbx4 0).trans rfl
    have e1 : w4.cell? ⟨G4, 1, none⟩ = some (.int .i64 y.f1) := (blk_cell hbx4 1).trans rfl
    have e2 : w4.cell? ⟨G4, 2, none⟩ = some (.int .i64 y.f2) := (blk_cell hbx4 2).trans rfl
    have e3 : w4.cell? ⟨G4, 3, none⟩ = some (.int .i64 y.f3) := (blk_cell hbx4 3).trans rfl
    have e4 : w4.cell? ⟨G4, 4, none⟩ = some (.int .i64 y.f4) := (blk_cell hbx4 4).trans rfl
    have e5 : w4.cell? ⟨G4, 5, none⟩ = some (.slice A3 m5 c3) := (blk_cell hbx4 5).trans rfl
    clear hw4 hG4 hB4 hbx4 hbx4' HBX3 HV3 HC3 HB3
    have hacc : (ac == ac) = true := by simp
    go_wp2_with fail
    refine (same_T y A2 A3 m5 c2 c3 _ HY.out.2.2.symm HOPS.out ?_ ?_ HC4.out.2 HC4.out.1).mono ?_
    · obtain ⟨A', c', e1, _, hC⟩ := Kd.R_reads HV4.out
      cases e1
      rw [HY.out.2.2]
      exact hC
    · exact (Kd.R_reads' HV4.out).2.1
    rintro r w5 ⟨rfl, hB5⟩
    have HB5 := Aside0.mk (below_then HB4.out HB4.out.size hB5)
    clear hB5
    go_wp2
    go_ret
    exact ⟨rfl, HB5.out⟩
set_option maxHeartbeats 8000000 in
set_option maxRecDepth 100000 in
theorem asked_after (h : Both W base ok p g s x) (a : S47) (v : Value) (n : Int) (hlen : x.l.length ≤ 4294967296) (k1 : (a.k == 7) = false) (k2 : (a.k == 8) = false) (k3 : (a.k == 12) = false) :
    Calls Try.prog 49 #[ptr p, .pointer (some ⟨g, 0, none⟩), actV a v, .int .i64 n] W fun r w' => r = .returned (.bool true) ∧ Below W.heap.size W w' := by
  have H := Aside0.mk h
  have HL := Aside0.mk hlen
  have HOPS := Aside0.mk (after_ok_ops h.ra.1 n a.m)
  obtain ⟨vp, hvp⟩ : ∃ vp, vp = ptr p := ⟨_, rfl⟩
  rw [← hvp]
  have HVP := Aside0.mk hvp
  clear hvp h hlen
  obtain ⟨L, hL⟩ : ∃ L, L = s.after n a.m := ⟨_, rfl⟩
  obtain ⟨ac, hac⟩ : ∃ ac, ac = s.afc n a.m := ⟨_, rfl⟩
  obtain ⟨m5, hm5⟩ : ∃ m5, m5 = L.length := ⟨_, rfl⟩
  rw [← hL] at HOPS
  have HY := Aside0.mk (And.intro hL (And.intro hac hm5))
  clear hL hac hm5
  have hb0 : (W.alloc (.cells #[.int .i64 a.k, .int .i64 a.n, .int .i64 a.m, .int .i64 a.e.f0, .int .i64 a.e.f1, .int .i64 a.e.f2, .int .i64 a.e.f3, .int .i64 a.e.f4, v] 47)).heap[W.heap.size]? = some (.cells #[.int .i64 a.k, .int .i64 a.n, .int .i64 a.m, .int .i64 a.e.f0, .int .i64 a.e.f1, .int .i64 a.e.f2, .int .i64 a.e.f3, .int .i64 a.e.f4, v] 47) := heap_alloc_new W _
  have HBX0 := Aside0.mk hb0
  clear hb0
  unfold actV
  go_enter Try.func49, Try.ntmps49
  go_wp2_with fail
  rw [HVP.out]
  refine (after_R (RingIs_below H.out.ra (below_alloc (Below.refl _ _) _)) n a.m).mono ?_
  rintro r w1 ⟨A2, c2, rfl, hv, hl2, hB1⟩
  rw [← HVP.out]
  rw [← HY.out.1, ← HY.out.2.2] at hv hl2
  rw [← HY.out.1, ← HY.out.2.1, ← HY.out.2.2]
  have hbx1 := (hB1.block _ (blk_lt HBX0.out)).trans HBX0.out
  have HB1 := Aside0.mk (below_then (below_alloc (Below.refl W.heap.size W) _) (Nat.le_of_lt (blk_lt (heap_alloc_new W _))) hB1)
  have HV1 := Aside0.mk (And.intro hl2 hv)
  have m2 : w1.cell? ⟨W.heap.size, 2, none⟩ = some (.int .i64 a.m) := (blk_cell hbx1 2).trans rfl
  clear hB1 hv hl2 HBX0 hbx1
  go_wp2_with fail
  refine (xafter_C H.out.ra.1 (XAt_below H.out.xa HB1.out) H.out.lk HL.out n a.m).mono ?_
  rintro r w3 ⟨A3, c3, rfl, hl3, hC3, hB3⟩
  rw [← HY.out.1, ← HY.out.2.2] at hl3 hC3
  rw [← HY.out.1, ← HY.out.2.1, ← HY.out.2.2]
  have HB3 := Aside0.mk (below_then HB1.out HB1.out.size hB3)
  have HV3 := Aside0.mk (And.intro HV1.out.1 (Kd.S_below HV1.out.2 hB3))
  have HC3 := Aside0.mk (And.intro hl3 hC3)
  clear hB3 hl3 hC3 HV1 HB1
  have hacc : (ac == ac) = true := by simp
  go_wp2_with fail
  refine (sameAll_T L A2 A3 m5 c2 c3 _ HY.out.2.2.symm HOPS.out.1 (by have := HOPS.out.2; have := HY.out.2.2; omega) ?_ HV3.out.1 HC3.out.2 HC3.out.1).mono ?_
  · obtain ⟨q1, q2, q3⟩ := Kd.S_reads' HV3.out.2
    rw [← HY.out.2.2] at q3
    exact q3
  rintro r w5 ⟨rfl, hB5⟩
  have HB5 := Aside0.mk (below_then HB3.out HB3.out.size hB5)
  clear hB5
  go_wp2
  go_ret
  exact ⟨rfl, HB5.out⟩
theorem asked_B (h : Both W base ok p g s x) (a : S47) (v : Value) (n : Int) (hlen : x.l.length ≤ 4294967296) :
    Calls Try.prog 49 #[ptr p, .pointer (some ⟨g, 0, none⟩), actV a v, .int .i64 n] W fun r w' => r = .returned (.bool true) ∧ Below W.heap.size W w' := by
  by_cases hk : a.k = 7 ∨ a.k = 8 ∨ a.k = 12
  · exact asked_at h a v n hlen hk
  · exact asked_after h a v n hlen (beq_eq_false_iff_ne.mpr (fun e => hk (.inl e))) (beq_eq_false_iff_ne.mpr (fun e => hk (.inr (.inl e)))) (beq_eq_false_iff_ne.mpr (fun e => hk (.inr (.inr e))))
end
end Go.Proofs.Ytcbejpmmlcdhnaa.PW
namespace Go.Proofs.Ytcbejpmmlcdhnaa.PW
open Go.RowKit Go.Proofs.YtcbejpmmlcdhnaaW.PrintWords Go.Proofs.YtcbejpmmlcdhnaaW.PrintLast Go.Proofs.YtcbejpmmlcdhnaaW.PrintMore
set_option linter.unusedVariables false
set_option linter.unusedSimpArgs false

section
variable {W : World} {base g : Nat} {ok : Nat → Prop} {p : Option Nat} {s : RS} {x : XS}
set_option maxHeartbeats 8000000 in
set_option maxRecDepth 100000 in
theorem stands_B (h : Both W base ok p g s x) (hlen : x.l.length ≤ 4294967296) :
    Calls Try.prog 27 #[ptr p, .pointer (some ⟨g, 0, none⟩)] W fun r w' => r = .returned (.bool true) ∧ Below W.heap.size W w' := by
  have H := Aside0.mk h
  have HL := Aside0.mk hlen
  obtain ⟨vp, hvp⟩ : ∃ vp, vp = ptr p := ⟨_, rfl⟩
  rw [← hvp]
  have HVP := Aside0.mk hvp
  obtain ⟨f1, hf1⟩ : ∃ f1 : Int, f1 = (s.fl : Int) := ⟨_, rfl⟩
  obtain ⟨f2, hf2⟩ : ∃ f2 : Int, f2 = s.o := ⟨_, rfl⟩
  obtain ⟨f3, hf3⟩ : ∃ f3 : Int, f3 = (s.la : Int) := ⟨_, rfl⟩
  obtain ⟨f4, hf4⟩ : ∃ f4 : Int, f4 = s.lv := ⟨_, rfl⟩
  obtain ⟨K, hK⟩ : ∃ K, K = s.l.length := ⟨_, rfl⟩
  have HV := Aside0.mk (And.intro hf1 (And.intro hf2 (And.intro hf3 hf4)))
  have HV2 := Aside0.mk (And.intro (h.lk.xfl.trans hf1.symm) (And.intro (h.lk.o.symm.trans hf2.symm) (And.intro (h.lk.la.trans hf3.symm) (h.lk.lv.trans hf4.symm))))
  have HK := Aside0.mk hK
  have HK2 := Aside0.mk (And.intro (h.lk.kept.trans hK.symm) (Nat.le_trans h.ra.1.2.1 h.ra.1.1))
  clear hvp h hlen hf1 hf2 hf3 hf4 hK
  have q1 : (f1 == f1) = true := by simp
  have q2 : (f2 == f2) = true := by simp
  have q3 : (f3 == f3) = true := by simp
  have q4 : (f4 == f4) = true := by simp
  go_enter Try.func27, Try.ntmps27
  go_wp2_with fail
  rw [HVP.out]
  refine (floor_R H.out.ra).mono ?_
  rintro e w1 ⟨rfl, ⟨⟨n1, rfl⟩⟩⟩
  rw [← HVP.out, ← HV.out.1, ← HV.out.2.1]
  go_wp2_with fail
  rw [HVP.out]
  refine (last_R (RingIs_below H.out.ra (pw_below_drewN (Below.refl _ _) _))).mono ?_
  rintro e w1 ⟨rfl, ⟨⟨n2, rfl⟩⟩⟩
  rw [← HVP.out, ← HV.out.2.2.1, ← HV.out.2.2.2]
  go_wp2_with fail
  refine (xfloor_C (x := x) (XAt_below H.out.xa (pw_below_drewN (Below.refl _ _) _)) HL.out).mono ?_
  rintro e w1 ⟨rfl, ⟨⟨n3, rfl⟩⟩⟩
  rw [HV2.out.1, HV2.out.2.1]
  go_wp2_with fail
  refine (xlast_C (x := x) (XAt_below H.out.xa (pw_below_drewN (Below.refl _ _) _)) HL.out).mono ?_
  rintro e w1 ⟨rfl, ⟨⟨n4, rfl⟩⟩⟩
  rw [HV2.out.2.2.1, HV2.out.2.2.2]
  go_wp2_with fail
  rw [HVP.out]
  refine (all_R (RingIs_below H.out.ra (pw_below_drewN (Below.refl _ _) _))).mono ?_
  rintro r w5 ⟨A2, K2, c2, rfl, hn, hl2, hS, hB⟩
  rw [← HVP.out]
  rw [← HK.out] at hn
  subst hn
  have HB5 := Aside0.mk (below_then (pw_below_drewN (Below.refl W.heap.size W) (n1 + n2 + n3 + n4)) (Nat.le_refl _) hB)
  have HS5 := Aside0.mk (And.intro hl2 hS)
  clear hS hl2 hB
  go_wp2_with fail
  refine (xall_C (XAt_below H.out.xa HB5.out) HL.out).mono ?_
  rintro r w6 ⟨A3, c3, rfl, hl3, hC3, ⟨⟨n6, rfl⟩⟩⟩
  rw [H.out.lk.l] at hC3
  rw [HK2.out.1] at hl3 hC3 ⊢
  have HC3 := Aside0.mk (And.intro hl3 hC3)
  clear hl3 hC3
  go_wp2_with fail
  refine (sameAll_T s.l A2 A3 K2 c2 c3 _ HK.out.symm H.out.ra.1.2.2.2.2.2 (by have := HK2.out.2; have := HK.out; omega) ?_ HS5.out.1 (Kd.C_below HC3.out.2 (pw_below_drewN (Below.refl _ _) _)) HC3.out.1).mono ?_
  · obtain ⟨q1, q2, q3⟩ := Kd.S_reads' (Kd.S_drewN HS5.out.2 n6)
    rw [← HK.out] at q3
    exact q3
  rintro r w7 ⟨rfl, hB7⟩
  have HB7 := Aside0.mk (below_then (pw_below_drewN HB5.out n6) (show W.heap.size ≤ (w5.drewN n6).heap.size from HB5.out.size) hB7)
  clear hB7
  go_wp2
  go_ret
  exact ⟨rfl, HB7.out⟩
end
end Go.Proofs.Ytcbejpmmlcdhnaa.PW
namespace Go.Proofs.Ytcbejpmmlcdhnaa.PW
open Go.RowKit Go.Proofs.YtcbejpmmlcdhnaaW.PrintWords Go.Proofs.YtcbejpmmlcdhnaaW.PrintLast Go.Proofs.YtcbejpmmlcdhnaaW.PrintMore
set_option linter.unusedVariables false
set_option linter.unusedSimpArgs false
def rg26.T10 : Bool × List (List Nat × List Nat) := (true, [([], []), ([], []), ([1], [1]), ([], []), ([3], [3]), ([2, 4], [2, 4]), ([0, 5, 2], [0, 5]), ([], []), ([], []), ([8, 6], [8]), ([], []), ([10], [10]), ([9, 11], [9, 11]), ([7, 12, 9], [7, 12]), ([6, 13], [6, 13]), ([14, 13, 0, 1, 2, 3, 4, 5, 6, 7, 8, 9, 10, 11, 12, 13, 14], [14])])
def rg26.B10 : List Nat := [0, 0, 2, 0, 8, 30, 63, 0, 0, 383, 0, 1024, 3967, 8191, 16383, 32767]
theorem rg26.tab10 : rtab .any (opsOf Try.f26 10) = rg26.T10 := by kernel_rfl
theorem rg26.bits10 : waitsOk rg26.T10.2 rg26.B10 = true := by kernel_rfl
def rg26.T12 : Bool × List (List Nat × List Nat) := (true, [([], []), ([], []), ([1], [1]), ([0, 2], [0, 2]), ([], []), ([], []), ([5], [5]), ([4, 6, 3], [4, 6]), ([3, 7], [3, 7]), ([8, 7, 0, 1, 2, 3, 4, 5, 6, 7, 8], [8])])
def rg26.B12 : List Nat := [0, 0, 2, 7, 0, 0, 32, 127, 255, 511]
theorem rg26.tab12 : rtab .any (opsOf Try.f26 12) = rg26.T12 := by kernel_rfl
theorem rg26.bits12 : waitsOk rg26.T12.2 rg26.B12 = true := by kernel_rfl
def rg26.T14 : Bool × List (List Nat × List Nat) := (true, [([], []), ([], []), ([], []), ([2], [2]), ([1, 3], [1, 3]), ([0, 4], [0, 4]), ([], []), ([], []), ([], []), ([8], [8]), ([7, 9], [7, 9]), ([6, 10, 5], [6, 10]), ([5, 11], [5, 11]), ([12, 11, 0, 1, 2, 3, 4, 5, 6, 7, 8, 9, 10, 11, 12], [12])])
def rg26.B14 : List Nat := [0, 0, 0, 4, 14, 31, 0, 0, 0, 256, 896, 2047, 4095, 8191]
theorem rg26.tab14 : rtab .any (opsOf Try.f26 14) = rg26.T14 := by kernel_rfl
theorem rg26.bits14 : waitsOk rg26.T14.2 rg26.B14 = true := by kernel_rfl
def rg26.T16 : Bool × List (List Nat × List Nat) := (true, [([], []), ([], []), ([1], [1]), ([0, 2], [0, 2]), ([], []), ([], []), ([5], [5]), ([4, 6, 3], [4, 6]), ([3, 7], [3, 7]), ([8, 7, 0, 1, 2, 3, 4, 5, 6, 7, 8], [8])])
def rg26.B16 : List Nat := [0, 0, 2, 7, 0, 0, 32, 127, 255, 511]
theorem rg26.tab16 : rtab .any (opsOf Try.f26 16) = rg26.T16 := by kernel_rfl
theorem rg26.bits16 : waitsOk rg26.T16.2 rg26.B16 = true := by kernel_rfl

section
variable {W : World} {base g : Nat} {ok : Nat → Prop} {p : Option Nat} {s : RS} {x : XS}
/-- What an act leaves. -/
def Played (W : World) (base : Nat) (ok : Nat → Prop) (p : Option Nat) (g : Nat) (x : XS) (w' : World) : Prop := (∃ s' x', Both w' base ok p g s' x' ∧ x'.l.length ≤ x.l.length + 1) ∧ Frm W w' (mine base ok)
theorem Played.same (h : Both W base ok p g s x) {w' : World} (hb : Below W.heap.size W w') : Played W base ok p g x w' := ⟨⟨s, x, h.below hb, Nat.le_succ _⟩, Frm.of_below hb _⟩
set_option maxHeartbeats 8000000 in
set_option maxRecDepth 100000 in
theorem played_none (h : Both W base ok p g s x) (a : S47) (A : Option Addr) (n c : Nat) (hn : a.e.f5.length = n) (hC : ∀ W', Frm W W' (mine base ok) → Kd.C k55 W' A n a.e.f5) (hnc : n ≤ c) (hm : opsOk a.e) (hbase : base ≤ W.heap.size) (hfresh : ∀ k, W.heap.size ≤ k → ok k) (hlen : x.l.length ≤ 4294967295) (k1 : (a.k == 1) = false) (k2 : (a.k == 2) = false) (k3 : (a.k == 3) = false) (k4 : (a.k == 4) = false) (k5 : (a.k == 5) = false) (k6 : (a.k == 6) = false) (k7 : (a.k == 7) = false) (k9 : (a.k == 9) = false) (k8 : (a.k == 8) = false) (k10 : (a.k == 10) = false) (k11 : (a.k == 11) = false) (k12 : (a.k == 12) = false) :
    Calls Try.prog 26 #[ptr p, .pointer (some ⟨g, 0, none⟩), actV a (.slice A n c)] W fun r w' => r = .returned (.bool true) ∧ Played W base ok p g x w' := by
  have H := Aside0.mk h
  have HL := Aside0.mk (show x.l.length ≤ 4294967296 by omega)
  have HC := Aside0.mk hC
  have HN := Aside0.mk (And.intro hn (And.intro hnc hm))
  have HFR := Aside0.mk (And.intro hbase hfresh)
  obtain ⟨vp, hvp⟩ : ∃ vp, vp = ptr p := ⟨_, rfl⟩
  rw [← hvp]
  have HVP := Aside0.mk hvp
  have HLA := Aside0.mk h.lk.la
  have HFL := Aside0.mk h.lk.xfl
  have HOK := Aside0.mk h.ra.1
  have hlas : s.la ≤ 2147483647 := h.ra.1.2.2.2.2.1
  clear hvp h hlen hC hn hnc hm hbase hfresh
  unfold actV
  have hbx0 : (W.alloc (.cells #[.int .i64 a.k, .int .i64 a.n, .int .i64 a.m, .int .i64 a.e.f0, .int .i64 a.e.f1, .int .i64 a.e.f2, .int .i64 a.e.f3, .int .i64 a.e.f4, .slice A n c] 47)).heap[W.heap.size]? = some (.cells #[.int .i64 a.k, .int .i64 a.n, .int .i64 a.m, .int .i64 a.e.f0, .int .i64 a.e.f1, .int .i64 a.e.f2, .int .i64 a.e.f3, .int .i64 a.e.f4, .slice A n c] 47) := heap_alloc_new W _
  have hB0 : Below W.heap.size W (W.alloc (.cells #[.int .i64 a.k, .int .i64 a.n, .int .i64 a.m, .int .i64 a.e.f0, .int .i64 a.e.f1, .int .i64 a.e.f2, .int .i64 a.e.f3, .int .i64 a.e.f4, .slice A n c] 47)) := below_alloc (Below.refl _ _) _
  obtain ⟨W1, hW1⟩ : ∃ W1, W1 = W.alloc (.cells #[.int .i64 a.k, .int .i64 a.n, .int .i64 a.m, .int .i64 a.e.f0, .int .i64 a.e.f1, .int .i64 a.e.f2, .int .i64 a.e.f3, .int .i64 a.e.f4, .slice A n c] 47) := ⟨_, rfl⟩
  rw [← hW1] at hbx0 hB0
  have m0 : W1.cell? ⟨W.heap.size, 0, none⟩ = some (.int .i64 a.k) := (blk_cell hbx0 0).trans rfl
  have m1 : W1.cell? ⟨W.heap.size, 1, none⟩ = some (.int .i64 a.n) := (blk_cell hbx0 1).trans rfl
  have HBX := Aside0.mk hbx0
  have HB0 := Aside0.mk hB0
  have HW1 := Aside0.mk hW1
  clear hbx0 hB0 hW1
  go_enter Try.func26, Try.ntmps26
  go_wp2_with fail
  rw [← HW1.out]
  refine (xlast_C (XAt_below H.out.xa HB0.out) HL.out).mono ?_
  rintro e w1 ⟨rfl, ⟨⟨n1, rfl⟩⟩⟩
  rw [HLA.out]
  go_wp2_with fail
  refine (xfloor_C (x := x) (XAt_below H.out.xa (pw_below_drewN HB0.out _)) HL.out).mono ?_
  rintro e w2 ⟨rfl, ⟨⟨n2, rfl⟩⟩⟩
  rw [HFL.out]
  go_wp2
  go_ret
  exact ⟨rfl, Played.same H.out (pw_below_drewN HB0.out _)⟩
set_option maxHeartbeats 8000000 in
set_option maxRecDepth 100000 in
theorem played_k7 (h : Both W base ok p g s x) (a : S47) (A : Option Addr) (n c : Nat) (hn : a.e.f5.length = n) (hC : ∀ W', Frm W W' (mine base ok) → Kd.C k55 W' A n a.e.f5) (hnc : n ≤ c) (hm : opsOk a.e) (hbase : base ≤ W.heap.size) (hfresh : ∀ k, W.heap.size ≤ k → ok k) (hlen : x.l.length ≤ 4294967295) (k1 : (a.k == 1) = false) (k2 : (a.k == 2) = false) (k3 : (a.k == 3) = false) (k4 : (a.k == 4) = false) (k5 : (a.k == 5) = false) (k6 : (a.k == 6) = false) (k7 : (a.k == 7) = true) :
    Calls Try.prog 26 #[ptr p, .pointer (some ⟨g, 0, none⟩), actV a (.slice A n c)] W fun r w' => r = .returned (.bool true) ∧ Played W base ok p g x w' := by
  have H := Aside0.mk h
  have HL := Aside0.mk (show x.l.length ≤ 4294967296 by omega)
  have HC := Aside0.mk hC
  have HN := Aside0.mk (And.intro hn (And.intro hnc hm))
  have HFR := Aside0.mk (And.intro hbase hfresh)
  obtain ⟨vp, hvp⟩ : ∃ vp, vp = ptr p := ⟨_, rfl⟩
  rw [← hvp]
  have HVP := Aside0.mk hvp
  have HLA := Aside0.mk h.lk.la
  have HFL := Aside0.mk h.lk.xfl
  have HOK := Aside0.mk h.ra.1
  have hlas : s.la ≤ 2147483647 := h.ra.1.2.2.2.2.1
  clear hvp h hlen hC hn hnc hm hbase hfresh
  obtain ⟨x0, hx0⟩ : ∃ x0, wrap64 ((s.la : Int) - a.n) = x0 := ⟨_, rfl⟩
  have HX0 := Aside0.mk hx0
  clear hx0
  unfold actV
  have hbx0 : (W.alloc (.cells #[.int .i64 a.k, .int .i64 a.n, .int .i64 a.m, .int .i64 a.e.f0, .int .i64 a.e.f1, .int .i64 a.e.f2, .int .i64 a.e.f3, .int .i64 a.e.f4, .slice A n c] 47)).heap[W.heap.size]? = some (.cells #[.int .i64 a.k, .int .i64 a.n, .int .i64 a.m, .int .i64 a.e.f0, .int .i64 a.e.f1, .int .i64 a.e.f2, .int .i64 a.e.f3, .int .i64 a.e.f4, .slice A n c] 47) := heap_alloc_new W _
  have hB0 : Below W.heap.size W (W.alloc (.cells #[.int .i64 a.k, .int .i64 a.n, .int .i64 a.m, .int .i64 a.e.f0, .int .i64 a.e.f1, .int .i64 a.e.f2, .int .i64 a.e.f3, .int .i64 a.e.f4, .slice A n c] 47)) := below_alloc (Below.refl _ _) _
  obtain ⟨W1, hW1⟩ : ∃ W1, W1 = W.alloc (.cells #[.int .i64 a.k, .int .i64 a.n, .int .i64 a.m, .int .i64 a.e.f0, .int .i64 a.e.f1, .int .i64 a.e.f2, .int .i64 a.e.f3, .int .i64 a.e.f4, .slice A n c] 47) := ⟨_, rfl⟩
  rw [← hW1] at hbx0 hB0
  have m0 : W1.cell? ⟨W.heap.size, 0, none⟩ = some (.int .i64 a.k) := (blk_cell hbx0 0).trans rfl
  have m1 : W1.cell? ⟨W.heap.size, 1, none⟩ = some (.int .i64 a.n) := (blk_cell hbx0 1).trans rfl
  have HBX := Aside0.mk hbx0
  have HB0 := Aside0.mk hB0
  have HW1 := Aside0.mk hW1
  clear hbx0 hB0 hW1
  go_enter Try.func26, Try.ntmps26
  go_wp2_with fail
  rw [← HW1.out]
  refine (xlast_C (XAt_below H.out.xa HB0.out) HL.out).mono ?_
  rintro e w1 ⟨rfl, ⟨⟨n1, rfl⟩⟩⟩
  rw [HLA.out]
  go_wp2_with fail
  refine (xfloor_C (x := x) (XAt_below H.out.xa (pw_below_drewN HB0.out _)) HL.out).mono ?_
  rintro e w2 ⟨rfl, ⟨⟨n2, rfl⟩⟩⟩
  rw [HFL.out]
  have m2 : (W1.drewN (n1 + n2)).cell? ⟨W.heap.size, 2, none⟩ = some (.int .i64 a.m) := (blk_cell (show (W1.drewN (n1 + n2)).heap[W.heap.size]? = some _ from HBX.out) 2).trans rfl
  have m3 : (W1.drewN (n1 + n2)).cell? ⟨W.heap.size, 3, none⟩ = some (.int .i64 a.e.f0) := (blk_cell (show (W1.drewN (n1 + n2)).heap[W.heap.size]? = some _ from HBX.out) 3).trans rfl
  have m4 : (W1.drewN (n1 + n2)).cell? ⟨W.heap.size, 4, none⟩ = some (.int .i64 a.e.f1) := (blk_cell (show (W1.drewN (n1 + n2)).heap[W.heap.size]? = some _ from HBX.out) 4).trans rfl
  have m5 : (W1.drewN (n1 + n2)).cell? ⟨W.heap.size, 5, none⟩ = some (.int .i64 a.e.f2) := (blk_cell (show (W1.drewN (n1 + n2)).heap[W.heap.size]? = some _ from HBX.out) 5).trans rfl
  have m6 : (W1.drewN (n1 + n2)).cell? ⟨W.heap.size, 6, none⟩ = some (.int .i64 a.e.f3) := (blk_cell (show (W1.drewN (n1 + n2)).heap[W.heap.size]? = some _ from HBX.out) 6).trans rfl
  have m7 : (W1.drewN (n1 + n2)).cell? ⟨W.heap.size, 7, none⟩ = some (.int .i64 a.e.f4) := (blk_cell (show (W1.drewN (n1 + n2)).heap[W.heap.size]? = some _ from HBX.out) 7).trans rfl
  have m8 : (W1.drewN (n1 + n2)).cell? ⟨W.heap.size, 8, none⟩ = some (.slice A n c) := (blk_cell (show (W1.drewN (n1 + n2)).heap[W.heap.size]? = some _ from HBX.out) 8).trans rfl
  go_wp2_with fail
  try rw [HX0.out]
  rw [HVP.out]
  refine (asked_B (H.out.below (pw_below_drewN HB0.out _)) a (.slice A n c) x0 HL.out).mono ?_
  rintro r w3 ⟨rfl, hB3⟩
  rw [← HVP.out]
  have HB3 := Aside0.mk (below_then (pw_below_drewN HB0.out (n1 + n2)) (show W.heap.size ≤ (W1.drewN (n1 + n2)).heap.size from HB0.out.size) hB3)
  clear hB3
  go_wp2
  go_ret
  exact ⟨rfl, Played.same H.out HB3.out⟩
set_option maxHeartbeats 8000000 in
set_option maxRecDepth 100000 in
theorem played_k9 (h : Both W base ok p g s x) (a : S47) (A : Option Addr) (n c : Nat) (hn : a.e.f5.length = n) (hC : ∀ W', Frm W W' (mine base ok) → Kd.C k55 W' A n a.e.f5) (hnc : n ≤ c) (hm : opsOk a.e) (hbase : base ≤ W.heap.size) (hfresh : ∀ k, W.heap.size ≤ k → ok k) (hlen : x.l.length ≤ 4294967295) (k1 : (a.k == 1) = false) (k2 : (a.k == 2) = false) (k3 : (a.k == 3) = false) (k4 : (a.k == 4) = false) (k5 : (a.k == 5) = false) (k6 : (a.k == 6) = false) (k7 : (a.k == 7) = false) (k9 : (a.k == 9) = true) :
    Calls Try.prog 26 #[ptr p, .pointer (some ⟨g, 0, none⟩), actV a (.slice A n c)] W fun r w' => r = .returned (.bool true) ∧ Played W base ok p g x w' := by
  have H := Aside0.mk h
  have HL := Aside0.mk (show x.l.length ≤ 4294967296 by omega)
  have HC := Aside0.mk hC
  have HN := Aside0.mk (And.intro hn (And.intro hnc hm))
  have HFR := Aside0.mk (And.intro hbase hfresh)
  obtain ⟨vp, hvp⟩ : ∃ vp, vp = ptr p := ⟨_, rfl⟩
  rw [← hvp]
  have HVP := Aside0.mk hvp
  have HLA := Aside0.mk h.lk.la
  have HFL := Aside0.mk h.lk.xfl
  have HOK := Aside0.mk h.ra.1
  have hlas : s.la ≤ 2147483647 := h.ra.1.2.2.2.2.1
  clear hvp h hlen hC hn hnc hm hbase hfresh
  obtain ⟨x0, hx0⟩ : ∃ x0, wrap64 ((s.la : Int) - a.n) = x0 := ⟨_, rfl⟩
  have HX0 := Aside0.mk hx0
  clear hx0
  unfold actV
  have hbx0 : (W.alloc (.cells #[.int .i64 a.k, .int .i64 a.n, .int .i64 a.m, .int .i64 a.e.f0, .int .i64 a.e.f1, .int .i64 a.e.f2, .int .i64 a.e.f3, .int .i64 a.e.f4, .slice A n c] 47)).heap[W.heap.size]? = some (.cells #[.int .i64 a.k, .int .i64 a.n, .int .i64 a.m, .int .i64 a.e.f0, .int .i64 a.e.f1, .int .i64 a.e.f2, .int .i64 a.e.f3, .int .i64 a.e.f4, .slice A n c] 47) := heap_alloc_new W _
  have hB0 : Below W.heap.size W (W.alloc (.cells #[.int .i64 a.k, .int .i64 a.n, .int .i64 a.m, .int .i64 a.e.f0, .int .i64 a.e.f1, .int .i64 a.e.f2, .int .i64 a.e.f3, .int .i64 a.e.f4, .slice A n c] 47)) := below_alloc (Below.refl _ _) _
  obtain ⟨W1, hW1⟩ : ∃ W1, W1 = W.alloc (.cells #[.int .i64 a.k, .int .i64 a.n, .int .i64 a.m, .int .i64 a.e.f0, .int .i64 a.e.f1, .int .i64 a.e.f2, .int .i64 a.e.f3, .int .i64 a.e.f4, .slice A n c] 47) := ⟨_, rfl⟩
  rw [← hW1] at hbx0 hB0
  have m0 : W1.cell? ⟨W.heap.size, 0, none⟩ = some (.int .i64 a.k) := (blk_cell hbx0 0).trans rfl
  have m1 : W1.cell? ⟨W.heap.size, 1, none⟩ = some (.int .i64 a.n) := (blk_cell hbx0 1).trans rfl
  have HBX := Aside0.mk hbx0
  have HB0 := Aside0.mk hB0
  have HW1 := Aside0.mk hW1
  clear hbx0 hB0 hW1
  go_enter Try.func26, Try.ntmps26
  go_wp2_with fail
  rw [← HW1.out]
  refine (xlast_C (XAt_below H.out.xa HB0.out) HL.out).mono ?_
  rintro e w1 ⟨rfl, ⟨⟨n1, rfl⟩⟩⟩
  rw [HLA.out]
  go_wp2_with fail
  refine (xfloor_C (x := x) (XAt_below H.out.xa (pw_below_drewN HB0.out _)) HL.out).mono ?_
  rintro e w2 ⟨rfl, ⟨⟨n2, rfl⟩⟩⟩
  rw [HFL.out]
  have m2 : (W1.drewN (n1 + n2)).cell? ⟨W.heap.size, 2, none⟩ = some (.int .i64 a.m) := (blk_cell (show (W1.drewN (n1 + n2)).heap[W.heap.size]? = some _ from HBX.out) 2).trans rfl
  have m3 : (W1.drewN (n1 + n2)).cell? ⟨W.heap.size, 3, none⟩ = some (.int .i64 a.e.f0) := (blk_cell (show (W1.drewN (n1 + n2)).heap[W.heap.size]? = some _ from HBX.out) 3).trans rfl
  have m4 : (W1.drewN (n1 + n2)).cell? ⟨W.heap.size, 4, none⟩ = some (.int .i64 a.e.f1) := (blk_cell (show (W1.drewN (n1 + n2)).heap[W.heap.size]? = some _ from HBX.out) 4).trans rfl
  have m5 : (W1.drewN (n1 + n2)).cell? ⟨W.heap.size, 5, none⟩ = some (.int .i64 a.e.f2) := (blk_cell (show (W1.drewN (n1 + n2)).heap[W.heap.size]? = some _ from HBX.out) 5).trans rfl
  have m6 : (W1.drewN (n1 + n2)).cell? ⟨W.heap.size, 6, none⟩ = some (.int .i64 a.e.f3) := (blk_cell (show (W1.drewN (n1 + n2)).heap[W.heap.size]? = some _ from HBX.out) 6).trans rfl
  have m7 : (W1.drewN (n1 + n2)).cell? ⟨W.heap.size, 7, none⟩ = some (.int .i64 a.e.f4) := (blk_cell (show (W1.drewN (n1 + n2)).heap[W.heap.size]? = some _ from HBX.out) 7).trans rfl
  have m8 : (W1.drewN (n1 + n2)).cell? ⟨W.heap.size, 8, none⟩ = some (.slice A n c) := (blk_cell (show (W1.drewN (n1 + n2)).heap[W.heap.size]? = some _ from HBX.out) 8).trans rfl
  go_wp2_with fail
  try rw [HX0.out]
  rw [HVP.out]
  refine (asked_B (H.out.below (pw_below_drewN HB0.out _)) a (.slice A n c) x0 HL.out).mono ?_
  rintro r w3 ⟨rfl, hB3⟩
  rw [← HVP.out]
  have HB3 := Aside0.mk (below_then (pw_below_drewN HB0.out (n1 + n2)) (show W.heap.size ≤ (W1.drewN (n1 + n2)).heap.size from HB0.out.size) hB3)
  clear hB3
  go_wp2
  go_ret
  exact ⟨rfl, Played.same H.out HB3.out⟩
set_option maxHeartbeats 8000000 in
set_option maxRecDepth 100000 in
theorem played_k8 (h : Both W base ok p g s x) (a : S47) (A : Option Addr) (n c : Nat) (hn : a.e.f5.length = n) (hC : ∀ W', Frm W W' (mine base ok) → Kd.C k55 W' A n a.e.f5) (hnc : n ≤ c) (hm : opsOk a.e) (hbase : base ≤ W.heap.size) (hfresh : ∀ k, W.heap.size ≤ k → ok k) (hlen : x.l.length ≤ 4294967295) (k1 : (a.k == 1) = false) (k2 : (a.k == 2) = false) (k3 : (a.k == 3) = false) (k4 : (a.k == 4) = false) (k5 : (a.k == 5) = false) (k6 : (a.k == 6) = false) (k7 : (a.k == 7) = false) (k9 : (a.k == 9) = false) (k8 : (a.k == 8) = true) :
    Calls Try.prog 26 #[ptr p, .pointer (some ⟨g, 0, none⟩), actV a (.slice A n c)] W fun r w' => r = .returned (.bool true) ∧ Played W base ok p g x w' := by
  have H := Aside0.mk h
  have HL := Aside0.mk (show x.l.length ≤ 4294967296 by omega)
  have HC := Aside0.mk hC
  have HN := Aside0.mk (And.intro hn (And.intro hnc hm))
  have HFR := Aside0.mk (And.intro hbase hfresh)
  obtain ⟨vp, hvp⟩ : ∃ vp, vp = ptr p := ⟨_, rfl⟩
  rw [← hvp]
  have HVP := Aside0.mk hvp
  have HLA := Aside0.mk h.lk.la
  have HFL := Aside0.mk h.lk.xfl
  have HOK := Aside0.mk h.ra.1
  have hlas : s.la ≤ 2147483647 := h.ra.1.2.2.2.2.1
  clear hvp h hlen hC hn hnc hm hbase hfresh
  unfold actV
  have hbx0 : (W.alloc (.cells #[.int .i64 a.k, .int .i64 a.n, .int .i64 a.m, .int .i64 a.e.f0, .int .i64 a.e.f1, .int .i64 a.e.f2, .int .i64 a.e.f3, .int .i64 a.e.f4, .slice A n c] 47)).heap[W.heap.size]? = some (.cells #[.int .i64 a.k, .int .i64 a.n, .int .i64 a.m, .int .i64 a.e.f0, .int .i64 a.e.f1, .int .i64 a.e.f2, .int .i64 a.e.f3, .int .i64 a.e.f4, .slice A n c] 47) := heap_alloc_new W _
  have hB0 : Below W.heap.size W (W.alloc (.cells #[.int .i64 a.k, .int .i64 a.n, .int .i64 a.m, .int .i64 a.e.f0, .int .i64 a.e.f1, .int .i64 a.e.f2, .int .i64 a.e.f3, .int .i64 a.e.f4, .slice A n c] 47)) := below_alloc (Below.refl _ _) _
  obtain ⟨W1, hW1⟩ : ∃ W1, W1 = W.alloc (.cells #[.int .i64 a.k, .int .i64 a.n, .int .i64 a.m, .int .i64 a.e.f0, .int .i64 a.e.f1, .int .i64 a.e.f2, .int .i64 a.e.f3, .int .i64 a.e.f4, .slice A n c] 47) := ⟨_, rfl⟩
  rw [← hW1] at hbx0 hB0
  have m0 : W1.cell? ⟨W.heap.size, 0, none⟩ = some (.int .i64 a.k) := (blk_cell hbx0 0).trans rfl
  have m1 : W1.cell? ⟨W.heap.size, 1, none⟩ = some (.int .i64 a.n) := (blk_cell hbx0 1).trans rfl
  have HBX := Aside0.mk hbx0
  have HB0 := Aside0.mk hB0
  have HW1 := Aside0.mk hW1
  clear hbx0 hB0 hW1
  go_enter Try.func26, Try.ntmps26
  go_wp2_with fail
  rw [← HW1.out]
  refine (xlast_C (XAt_below H.out.xa HB0.out) HL.out).mono ?_
  rintro e w1 ⟨rfl, ⟨⟨n1, rfl⟩⟩⟩
  rw [HLA.out]
  go_wp2_with fail
  refine (xfloor_C (x := x) (XAt_below H.out.xa (pw_below_drewN HB0.out _)) HL.out).mono ?_
  rintro e w2 ⟨rfl, ⟨⟨n2, rfl⟩⟩⟩
  rw [HFL.out]
  have m2 : (W1.drewN (n1 + n2)).cell? ⟨W.heap.size, 2, none⟩ = some (.int .i64 a.m) := (blk_cell (show (W1.drewN (n1 + n2)).heap[W.heap.size]? = some _ from HBX.out) 2).trans rfl
  have m3 : (W1.drewN (n1 + n2)).cell? ⟨W.heap.size, 3, none⟩ = some (.int .i64 a.e.f0) := (blk_cell (show (W1.drewN (n1 + n2)).heap[W.heap.size]? = some _ from HBX.out) 3).trans rfl
  have m4 : (W1.drewN (n1 + n2)).cell? ⟨W.heap.size, 4, none⟩ = some (.int .i64 a.e.f1) := (blk_cell (show (W1.drewN (n1 + n2)).heap[W.heap.size]? = some _ from HBX.out) 4).trans rfl
  have m5 : (W1.drewN (n1 + n2)).cell? ⟨W.heap.size, 5, none⟩ = some (.int .i64 a.e.f2) := (blk_cell (show (W1.drewN (n1 + n2)).heap[W.heap.size]? = some _ from HBX.out) 5).trans rfl
  have m6 : (W1.drewN (n1 + n2)).cell? ⟨W.heap.size, 6, none⟩ = some (.int .i64 a.e.f3) := (blk_cell (show (W1.drewN (n1 + n2)).heap[W.heap.size]? = some _ from HBX.out) 6).trans rfl
  have m7 : (W1.drewN (n1 + n2)).cell? ⟨W.heap.size, 7, none⟩ = some (.int .i64 a.e.f4) := (blk_cell (show (W1.drewN (n1 + n2)).heap[W.heap.size]? = some _ from HBX.out) 7).trans rfl
  have m8 : (W1.drewN (n1 + n2)).cell? ⟨W.heap.size, 8, none⟩ = some (.slice A n c) := (blk_cell (show (W1.drewN (n1 + n2)).heap[W.heap.size]? = some _ from HBX.out) 8).trans rfl
  go_wp2_with fail
  rw [HVP.out]
  refine (asked_B (H.out.below (pw_below_drewN HB0.out _)) a (.slice A n c) a.n HL.out).mono ?_
  rintro r w3 ⟨rfl, hB3⟩
  rw [← HVP.out]
  have HB3 := Aside0.mk (below_then (pw_below_drewN HB0.out (n1 + n2)) (show W.heap.size ≤ (W1.drewN (n1 + n2)).heap.size from HB0.out.size) hB3)
  clear hB3
  go_wp2
  go_ret
  exact ⟨rfl, Played.same H.out HB3.out⟩
set_option maxHeartbeats 8000000 in
set_option maxRecDepth 100000 in
theorem played_k10 (h : Both W base ok p g s x) (a : S47) (A : Option Addr) (n c : Nat) (hn : a.e.f5.length = n) (hC : ∀ W', Frm W W' (mine base ok) → Kd.C k55 W' A n a.e.f5) (hnc : n ≤ c) (hm : opsOk a.e) (hbase : base ≤ W.heap.size) (hfresh : ∀ k, W.heap.size ≤ k → ok k) (hlen : x.l.length ≤ 4294967295) (k1 : (a.k == 1) = false) (k2 : (a.k == 2) = false) (k3 : (a.k == 3) = false) (k4 : (a.k == 4) = false) (k5 : (a.k == 5) = false) (k6 : (a.k == 6) = false) (k7 : (a.k == 7) = false) (k9 : (a.k == 9) = false) (k8 : (a.k == 8) = false) (k10 : (a.k == 10) = true) :
    Calls Try.prog 26 #[ptr p, .pointer (some ⟨g, 0, none⟩), actV a (.slice A n c)] W fun r w' => r = .returned (.bool true) ∧ Played W base ok p g x w' := by
  have H := Aside0.mk h
  have HL := Aside0.mk (show x.l.length ≤ 4294967296 by omega)
  have HC := Aside0.mk hC
  have HN := Aside0.mk (And.intro hn (And.intro hnc hm))
  have HFR := Aside0.mk (And.intro hbase hfresh)
  obtain ⟨vp, hvp⟩ : ∃ vp, vp = ptr p := ⟨_, rfl⟩
  rw [← hvp]
  have HVP := Aside0.mk hvp
  have HLA := Aside0.mk h.lk.la
  have HFL := Aside0.mk h.lk.xfl
  have HOK := Aside0.mk h.ra.1
  have hlas : s.la ≤ 2147483647 := h.ra.1.2.2.2.2.1
  clear hvp h hlen hC hn hnc hm hbase hfresh
  unfold actV
  have hbx0 : (W.alloc (.cells #[.int .i64 a.k, .int .i64 a.n, .int .i64 a.m, .int .i64 a.e.f0, .int .i64 a.e.f1, .int .i64 a.e.f2, .int .i64 a.e.f3, .int .i64 a.e.f4, .slice A n c] 47)).heap[W.heap.size]? = some (.cells #[.int .i64 a.k, .int .i64 a.n, .int .i64 a.m, .int .i64 a.e.f0, .int .i64 a.e.f1, .int .i64 a.e.f2, .int .i64 a.e.f3, .int .i64 a.e.f4, .slice A n c] 47) := heap_alloc_new W _
  have hB0 : Below W.heap.size W (W.alloc (.cells #[.int .i64 a.k, .int .i64 a.n, .int .i64 a.m, .int .i64 a.e.f0, .int .i64 a.e.f1, .int .i64 a.e.f2, .int .i64 a.e.f3, .int .i64 a.e.f4, .slice A n c] 47)) := below_alloc (Below.refl _ _) _
  obtain ⟨W1, hW1⟩ : ∃ W1, W1 = W.alloc (.cells #[.int .i64 a.k, .int .i64 a.n, .int .i64 a.m, .int .i64 a.e.f0, .int .i64 a.e.f1, .int .i64 a.e.f2, .int .i64 a.e.f3, .int .i64 a.e.f4, .slice A n c] 47) := ⟨_, rfl⟩
  rw [← hW1] at hbx0 hB0
  have m0 : W1.cell? ⟨W.heap.size, 0, none⟩ = some (.int .i64 a.k) := (blk_cell hbx0 0).trans rfl
  have m1 : W1.cell? ⟨W.heap.size, 1, none⟩ = some (.int .i64 a.n) := (blk_cell hbx0 1).trans rfl
  have HBX := Aside0.mk hbx0
  have HB0 := Aside0.mk hB0
  have HW1 := Aside0.mk hW1
  clear hbx0 hB0 hW1
  go_enter Try.func26, Try.ntmps26
  go_wp2_with fail
  rw [← HW1.out]
  refine (xlast_C (XAt_below H.out.xa HB0.out) HL.out).mono ?_
  rintro e w1 ⟨rfl, ⟨⟨n1, rfl⟩⟩⟩
  rw [HLA.out]
  go_wp2_with fail
  refine (xfloor_C (x := x) (XAt_below H.out.xa (pw_below_drewN HB0.out _)) HL.out).mono ?_
  rintro e w2 ⟨rfl, ⟨⟨n2, rfl⟩⟩⟩
  rw [HFL.out]
  have m2 : (W1.drewN (n1 + n2)).cell? ⟨W.heap.size, 2, none⟩ = some (.int .i64 a.m) := (blk_cell (show (W1.drewN (n1 + n2)).heap[W.heap.size]? = some _ from HBX.out) 2).trans rfl
  have m3 : (W1.drewN (n1 + n2)).cell? ⟨W.heap.size, 3, none⟩ = some (.int .i64 a.e.f0) := (blk_cell (show (W1.drewN (n1 + n2)).heap[W.heap.size]? = some _ from HBX.out) 3).trans rfl
  have m4 : (W1.drewN (n1 + n2)).cell? ⟨W.heap.size, 4, none⟩ = some (.int .i64 a.e.f1) := (blk_cell (show (W1.drewN (n1 + n2)).heap[W.heap.size]? = some _ from HBX.out) 4).trans rfl
  have m5 : (W1.drewN (n1 + n2)).cell? ⟨W.heap.size, 5, none⟩ = some (.int .i64 a.e.f2) := (blk_cell (show (W1.drewN (n1 + n2)).heap[W.heap.size]? = some _ from HBX.out) 5).trans rfl
  have m6 : (W1.drewN (n1 + n2)).cell? ⟨W.heap.size, 6, none⟩ = some (.int .i64 a.e.f3) := (blk_cell (show (W1.drewN (n1 + n2)).heap[W.heap.size]? = some _ from HBX.out) 6).trans rfl
  have m7 : (W1.drewN (n1 + n2)).cell? ⟨W.heap.size, 7, none⟩ = some (.int .i64 a.e.f4) := (blk_cell (show (W1.drewN (n1 + n2)).heap[W.heap.size]? = some _ from HBX.out) 7).trans rfl
  have m8 : (W1.drewN (n1 + n2)).cell? ⟨W.heap.size, 8, none⟩ = some (.slice A n c) := (blk_cell (show (W1.drewN (n1 + n2)).heap[W.heap.size]? = some _ from HBX.out) 8).trans rfl
  go_wp2_with fail
  rw [HVP.out]
  refine (asked_B (H.out.below (pw_below_drewN HB0.out _)) a (.slice A n c) a.n HL.out).mono ?_
  rintro r w3 ⟨rfl, hB3⟩
  rw [← HVP.out]
  have HB3 := Aside0.mk (below_then (pw_below_drewN HB0.out (n1 + n2)) (show W.heap.size ≤ (W1.drewN (n1 + n2)).heap.size from HB0.out.size) hB3)
  clear hB3
  go_wp2
  go_ret
  exact ⟨rfl, Played.same H.out HB3.out⟩
set_option maxHeartbeats 8000000 in
set_option maxRecDepth 100000 in
theorem played_k11 (h : Both W base ok p g s x) (a : S47) (A : Option Addr) (n c : Nat) (hn : a.e.f5.length = n) (hC : ∀ W', Frm W W' (mine base ok) → Kd.C k55 W' A n a.e.f5) (hnc : n ≤ c) (hm : opsOk a.e) (hbase : base ≤ W.heap.size) (hfresh : ∀ k, W.heap.size ≤ k → ok k) (hlen : x.l.length ≤ 4294967295) (k1 : (a.k == 1) = false) (k2 : (a.k == 2) = false) (k3 : (a.k == 3) = false) (k4 : (a.k == 4) = false) (k5 : (a.k == 5) = false) (k6 : (a.k == 6) = false) (k7 : (a.k == 7) = false) (k9 : (a.k == 9) = false) (k8 : (a.k == 8) = false) (k10 : (a.k == 10) = false) (k11 : (a.k == 11) = true) :
    Calls Try.prog 26 #[ptr p, .pointer (some ⟨g, 0, none⟩), actV a (.slice A n c)] W fun r w' => r = .returned (.bool true) ∧ Played W base ok p g x w' := by
  have H := Aside0.mk h
  have HL := Aside0.mk (show x.l.length ≤ 4294967296 by omega)
  have HC := Aside0.mk hC
  have HN := Aside0.mk (And.intro hn (And.intro hnc hm))
  have HFR := Aside0.mk (And.intro hbase hfresh)
  obtain ⟨vp, hvp⟩ : ∃ vp, vp = ptr p := ⟨_, rfl⟩
  rw [← hvp]
  have HVP := Aside0.mk hvp
  have HLA := Aside0.mk h.lk.la
  have HFL := Aside0.mk h.lk.xfl
  have HOK := Aside0.mk h.ra.1
  have hlas : s.la ≤ 2147483647 := h.ra.1.2.2.2.2.1
  clear hvp h hlen hC hn hnc hm hbase hfresh
  obtain ⟨x0, hx0⟩ : ∃ x0, wrap64 ((s.fl : Int) + a.n) = x0 := ⟨_, rfl⟩
  have HX0 := Aside0.mk hx0
  clear hx0
  unfold actV
  have hbx0 : (W.alloc (.cells #[.int .i64 a.k, .int .i64 a.n, .int .i64 a.m, .int .i64 a.e.f0, .int .i64 a.e.f1, .int .i64 a.e.f2, .int .i64 a.e.f3, .int .i64 a.e.f4, .slice A n c] 47)).heap[W.heap.size]? = some (.cells #[.int .i64 a.k, .int .i64 a.n, .int .i64 a.m, .int .i64 a.e.f0, .int .i64 a.e.f1, .int .i64 a.e.f2, .int .i64 a.e.f3, .int .i64 a.e.f4, .slice A n c] 47) := heap_alloc_new W _
  have hB0 : Below W.heap.size W (W.alloc (.cells #[.int .i64 a.k, .int .i64 a.n, .int .i64 a.m, .int .i64 a.e.f0, .int .i64 a.e.f1, .int .i64 a.e.f2, .int .i64 a.e.f3, .int .i64 a.e.f4, .slice A n c] 47)) := below_alloc (Below.refl _ _) _
  obtain ⟨W1, hW1⟩ : ∃ W1, W1 = W.alloc (.cells #[.int .i64 a.k, .int .i64 a.n, .int .i64 a.m, .int .i64 a.e.f0, .int .i64 a.e.f1, .int .i64 a.e.f2, .int .i64 a.e.f3, .int .i64 a.e.f4, .slice A n c] 47) := ⟨_, rfl⟩
  rw [← hW1] at hbx0 hB0
  have m0 : W1.cell? ⟨W.heap.size, 0, none⟩ = some (.int .i64 a.k) := (blk_cell hbx0 0).trans rfl
  have m1 : W1.cell? ⟨W.heap.size, 1, none⟩ = some (.int .i64 a.n) := (blk_cell hbx0 1).trans rfl
  have HBX := Aside0.mk hbx0
  have HB0 := Aside0.mk hB0
  have HW1 := Aside0.mk hW1
  clear hbx0 hB0 hW1
  go_enter Try.func26, Try.ntmps26
  go_wp2_with fail
  rw [← HW1.out]
  refine (xlast_C (XAt_below H.out.xa HB0.out) HL.out).mono ?_
  rintro e w1 ⟨rfl, ⟨⟨n1, rfl⟩⟩⟩
  rw [HLA.out]
  go_wp2_with fail
  refine (xfloor_C (x := x) (XAt_below H.out.xa (pw_below_drewN HB0.out _)) HL.out).mono ?_
  rintro e w2 ⟨rfl, ⟨⟨n2, rfl⟩⟩⟩
  rw [HFL.out]
  have m2 : (W1.drewN (n1 + n2)).cell? ⟨W.heap.size, 2, none⟩ = some (.int .i64 a.m) := (blk_cell (show (W1.drewN (n1 + n2)).heap[W.heap.size]? = some _ from HBX.out) 2).trans rfl
  have m3 : (W1.drewN (n1 + n2)).cell? ⟨W.heap.size, 3, none⟩ = some (.int .i64 a.e.f0) := (blk_cell (show (W1.drewN (n1 + n2)).heap[W.heap.size]? = some _ from HBX.out) 3).trans rfl
  have m4 : (W1.drewN (n1 + n2)).cell? ⟨W.heap.size, 4, none⟩ = some (.int .i64 a.e.f1) := (blk_cell (show (W1.drewN (n1 + n2)).heap[W.heap.size]? = some _ from HBX.out) 4).trans rfl
  have m5 : (W1.drewN (n1 + n2)).cell? ⟨W.heap.size, 5, none⟩ = some (.int .i64 a.e.f2) := (blk_cell (show (W1.drewN (n1 + n2)).heap[W.heap.size]? = some _ from HBX.out) 5).trans rfl
  have m6 : (W1.drewN (n1 + n2)).cell? ⟨W.heap.size, 6, none⟩ = some (.int .i64 a.e.f3) := (blk_cell (show (W1.drewN (n1 + n2)).heap[W.heap.size]? = some _ from HBX.out) 6).trans rfl
  have m7 : (W1.drewN (n1 + n2)).cell? ⟨W.heap.size, 7, none⟩ = some (.int .i64 a.e.f4) := (blk_cell (show (W1.drewN (n1 + n2)).heap[W.heap.size]? = some _ from HBX.out) 7).trans rfl
  have m8 : (W1.drewN (n1 + n2)).cell? ⟨W.heap.size, 8, none⟩ = some (.slice A n c) := (blk_cell (show (W1.drewN (n1 + n2)).heap[W.heap.size]? = some _ from HBX.out) 8).trans rfl
  go_wp2_with fail
  try rw [HX0.out]
  rw [HVP.out]
  refine (asked_B (H.out.below (pw_below_drewN HB0.out _)) a (.slice A n c) x0 HL.out).mono ?_
  rintro r w3 ⟨rfl, hB3⟩
  rw [← HVP.out]
  have HB3 := Aside0.mk (below_then (pw_below_drewN HB0.out (n1 + n2)) (show W.heap.size ≤ (W1.drewN (n1 + n2)).heap.size from HB0.out.size) hB3)
  clear hB3
  go_wp2
  go_ret
  exact ⟨rfl, Played.same H.out HB3.out⟩
set_option maxHeartbeats 8000000 in
set_option maxRecDepth 100000 in
theorem played_k12 (h : Both W base ok p g s x) (a : S47) (A : Option Addr) (n c : Nat) (hn : a.e.f5.length = n) (hC : ∀ W', Frm W W' (mine base ok) → Kd.C k55 W' A n a.e.f5) (hnc : n ≤ c) (hm : opsOk a.e) (hbase : base ≤ W.heap.size) (hfresh : ∀ k, W.heap.size ≤ k → ok k) (hlen : x.l.length ≤ 4294967295) (k1 : (a.k == 1) = false) (k2 : (a.k == 2) = false) (k3 : (a.k == 3) = false) (k4 : (a.k == 4) = false) (k5 : (a.k == 5) = false) (k6 : (a.k == 6) = false) (k7 : (a.k == 7) = false) (k9 : (a.k == 9) = false) (k8 : (a.k == 8) = false) (k10 : (a.k == 10) = false) (k11 : (a.k == 11) = false) (k12 : (a.k == 12) = true) :
    Calls Try.prog 26 #[ptr p, .pointer (some ⟨g, 0, none⟩), actV a (.slice A n c)] W fun r w' => r = .returned (.bool true) ∧ Played W base ok p g x w' := by
  have H := Aside0.mk h
  have HL := Aside0.mk (show x.l.length ≤ 4294967296 by omega)
  have HC := Aside0.mk hC
  have HN := Aside0.mk (And.intro hn (And.intro hnc hm))
  have HFR := Aside0.mk (And.intro hbase hfresh)
  obtain ⟨vp, hvp⟩ : ∃ vp, vp = ptr p := ⟨_, rfl⟩
  rw [← hvp]
  have HVP := Aside0.mk hvp
  have HLA := Aside0.mk h.lk.la
  have HFL := Aside0.mk h.lk.xfl
  have HOK := Aside0.mk h.ra.1
  have hlas : s.la ≤ 2147483647 := h.ra.1.2.2.2.2.1
  clear hvp h hlen hC hn hnc hm hbase hfresh
  obtain ⟨x0, hx0⟩ : ∃ x0, wrap64 ((s.fl : Int) + a.n) = x0 := ⟨_, rfl⟩
  have HX0 := Aside0.mk hx0
  clear hx0
  unfold actV
  have hbx0 : (W.alloc (.cells #[.int .i64 a.k, .int .i64 a.n, .int .i64 a.m, .int .i64 a.e.f0, .int .i64 a.e.f1, .int .i64 a.e.f2, .int .i64 a.e.f3, .int .i64 a.e.f4, .slice A n c] 47)).heap[W.heap.size]? = some (.cells #[.int .i64 a.k, .int .i64 a.n, .int .i64 a.m, .int .i64 a.e.f0, .int .i64 a.e.f1, .int .i64 a.e.f2, .int .i64 a.e.f3, .int .i64 a.e.f4, .slice A n c] 47) := heap_alloc_new W _
  have hB0 : Below W.heap.size W (W.alloc (.cells #[.int .i64 a.k, .int .i64 a.n, .int .i64 a.m, .int .i64 a.e.f0, .int .i64 a.e.f1, .int .i64 a.e.f2, .int .i64 a.e.f3, .int .i64 a.e.f4, .slice A n c] 47)) := below_alloc (Below.refl _ _) _
  obtain ⟨W1, hW1⟩ : ∃ W1, W1 = W.alloc (.cells #[.int .i64 a.k, .int .i64 a.n, .int .i64 a.m, .int .i64 a.e.f0, .int .i64 a.e.f1, .int .i64 a.e.f2, .int .i64 a.e.f3, .int .i64 a.e.f4, .slice A n c] 47) := ⟨_, rfl⟩
  rw [← hW1] at hbx0 hB0
  have m0 : W1.cell? ⟨W.heap.size, 0, none⟩ = some (.int .i64 a.k) := (blk_cell hbx0 0).trans rfl
  have m1 : W1.cell? ⟨W.heap.size, 1, none⟩ = some (.int .i64 a.n) := (blk_cell hbx0 1).trans rfl
  have HBX := Aside0.mk hbx0
  have HB0 := Aside0.mk hB0
  have HW1 := Aside0.mk hW1
  clear hbx0 hB0 hW1
  go_enter Try.func26, Try.ntmps26
  go_wp2_with fail
  rw [← HW1.out]
  refine (xlast_C (XAt_below H.out.xa HB0.out) HL.out).mono ?_
  rintro e w1 ⟨rfl, ⟨⟨n1, rfl⟩⟩⟩
  rw [HLA.out]
  go_wp2_with fail
  refine (xfloor_C (x := x) (XAt_below H.out.xa (pw_below_drewN HB0.out _)) HL.out).mono ?_
  rintro e w2 ⟨rfl, ⟨⟨n2, rfl⟩⟩⟩
  rw [HFL.out]
  have m2 : (W1.drewN (n1 + n2)).cell? ⟨W.heap.size, 2, none⟩ = some (.int .i64 a.m) := (blk_cell (show (W1.drewN (n1 + n2)).heap[W.heap.size]? = some _ from HBX.out) 2).trans rfl
  have m3 : (W1.drewN (n1 + n2)).cell? ⟨W.heap.size, 3, none⟩ = some (.int .i64 a.e.f0) := (blk_cell (show (W1.drewN (n1 + n2)).heap[W.heap.size]? = some _ from HBX.out) 3).trans rfl
  have m4 : (W1.drewN (n1 + n2)).cell? ⟨W.heap.size, 4, none⟩ = some (.int .i64 a.e.f1) := (blk_cell (show (W1.drewN (n1 + n2)).heap[W.heap.size]? = some _ from HBX.out) 4).trans rfl
  have m5 : (W1.drewN (n1 + n2)).cell? ⟨W.heap.size, 5, none⟩ = some (.int .i64 a.e.f2) := (blk_cell (show (W1.drewN (n1 + n2)).heap[W.heap.size]? = some _ from HBX.out) 5).trans rfl
  have m6 : (W1.drewN (n1 + n2)).cell? ⟨W.heap.size, 6, none⟩ = some (.int .i64 a.e.f3) := (blk_cell (show (W1.drewN (n1 + n2)).heap[W.heap.size]? = some _ from HBX.out) 6).trans rfl
  have m7 : (W1.drewN (n1 + n2)).cell? ⟨W.heap.size, 7, none⟩ = some (.int .i64 a.e.f4) := (blk_cell (show (W1.drewN (n1 + n2)).heap[W.heap.size]? = some _ from HBX.out) 7).trans rfl
  have m8 : (W1.drewN (n1 + n2)).cell? ⟨W.heap.size, 8, none⟩ = some (.slice A n c) := (blk_cell (show (W1.drewN (n1 + n2)).heap[W.heap.size]? = some _ from HBX.out) 8).trans rfl
  go_wp2_with fail
  try rw [HX0.out]
  rw [HVP.out]
  refine (asked_B (H.out.below (pw_below_drewN HB0.out _)) a (.slice A n c) x0 HL.out).mono ?_
  rintro r w3 ⟨rfl, hB3⟩
  rw [← HVP.out]
  have HB3 := Aside0.mk (below_then (pw_below_drewN HB0.out (n1 + n2)) (show W.heap.size ≤ (W1.drewN (n1 + n2)).heap.size from HB0.out.size) hB3)
  clear hB3
  go_wp2
  go_ret
  exact ⟨rfl, Played.same H.out HB3.out⟩
set_option maxHeartbeats 8000000 in
set_option maxRecDepth 100000 in
theorem played_k2 (h : Both W base ok p g s x) (a : S47) (A : Option Addr) (n c : Nat) (hn : a.e.f5.length = n) (hC : ∀ W', Frm W W' (mine base ok) → Kd.C k55 W' A n a.e.f5) (hnc : n ≤ c) (hm : opsOk a.e) (hbase : base ≤ W.heap.size) (hfresh : ∀ k, W.heap.size ≤ k → ok k) (hlen : x.l.length ≤ 4294967295) (k1 : (a.k == 1) = false) (k2 : (a.k == 2) = true) :
    Calls Try.prog 26 #[ptr p, .pointer (some ⟨g, 0, none⟩), actV a (.slice A n c)] W fun r w' => r = .returned (.bool true) ∧ Played W base ok p g x w' := by
  have H := Aside0.mk h
  have HL := Aside0.mk (show x.l.length ≤ 4294967296 by omega)
  have HC := Aside0.mk hC
  have HN := Aside0.mk (And.intro hn (And.intro hnc hm))
  have HFR := Aside0.mk (And.intro hbase hfresh)
  obtain ⟨vp, hvp⟩ : ∃ vp, vp = ptr p := ⟨_, rfl⟩
  rw [← hvp]
  have HVP := Aside0.mk hvp
  have HLA := Aside0.mk h.lk.la
  have HFL := Aside0.mk h.lk.xfl
  have HOK := Aside0.mk h.ra.1
  have hlas : s.la ≤ 2147483647 := h.ra.1.2.2.2.2.1
  clear hvp h hlen hC hn hnc hm hbase hfresh
  unfold actV
  have hbx0 : (W.alloc (.cells #[.int .i64 a.k, .int .i64 a.n, .int .i64 a.m, .int .i64 a.e.f0, .int .i64 a.e.f1, .int .i64 a.e.f2, .int .i64 a.e.f3, .int .i64 a.e.f4, .slice A n c] 47)).heap[W.heap.size]? = some (.cells #[.int .i64 a.k, .int .i64 a.n, .int .i64 a.m, .int .i64 a.e.f0, .int .i64 a.e.f1, .int .i64 a.e.f2, .int .i64 a.e.f3, .int .i64 a.e.f4, .slice A n c] 47) := heap_alloc_new W _
  have hB0 : Below W.heap.size W (W.alloc (.cells #[.int .i64 a.k, .int .i64 a.n, .int .i64 a.m, .int .i64 a.e.f0, .int .i64 a.e.f1, .int .i64 a.e.f2, .int .i64 a.e.f3, .int .i64 a.e.f4, .slice A n c] 47)) := below_alloc (Below.refl _ _) _
  obtain ⟨W1, hW1⟩ : ∃ W1, W1 = W.alloc (.cells #[.int .i64 a.k, .int .i64 a.n, .int .i64 a.m, .int .i64 a.e.f0, .int .i64 a.e.f1, .int .i64 a.e.f2, .int .i64 a.e.f3, .int .i64 a.e.f4, .slice A n c] 47) := ⟨_, rfl⟩
  rw [← hW1] at hbx0 hB0
  have m0 : W1.cell? ⟨W.heap.size, 0, none⟩ = some (.int .i64 a.k) := (blk_cell hbx0 0).trans rfl
  have m1 : W1.cell? ⟨W.heap.size, 1, none⟩ = some (.int .i64 a.n) := (blk_cell hbx0 1).trans rfl
  have HBX := Aside0.mk hbx0
  have HB0 := Aside0.mk hB0
  have HW1 := Aside0.mk hW1
  clear hbx0 hB0 hW1
  go_enter Try.func26, Try.ntmps26
  go_wp2_with fail
  rw [← HW1.out]
  refine (xlast_C (XAt_below H.out.xa HB0.out) HL.out).mono ?_
  rintro e w1 ⟨rfl, ⟨⟨n1, rfl⟩⟩⟩
  rw [HLA.out]
  go_wp2_with fail
  refine (xfloor_C (x := x) (XAt_below H.out.xa (pw_below_drewN HB0.out _)) HL.out).mono ?_
  rintro e w2 ⟨rfl, ⟨⟨n2, rfl⟩⟩⟩
  rw [HFL.out]
  have m2 : (W1.drewN (n1 + n2)).cell? ⟨W.heap.size, 2, none⟩ = some (.int .i64 a.m) := (blk_cell (show (W1.drewN (n1 + n2)).heap[W.heap.size]? = some _ from HBX.out) 2).trans rfl
  have m3 : (W1.drewN (n1 + n2)).cell? ⟨W.heap.size, 3, none⟩ = some (.int .i64 a.e.f0) := (blk_cell (show (W1.drewN (n1 + n2)).heap[W.heap.size]? = some _ from HBX.out) 3).trans rfl
  have m4 : (W1.drewN (n1 + n2)).cell? ⟨W.heap.size, 4, none⟩ = some (.int .i64 a.e.f1) := (blk_cell (show (W1.drewN (n1 + n2)).heap[W.heap.size]? = some _ from HBX.out) 4).trans rfl
  have m5 : (W1.drewN (n1 + n2)).cell? ⟨W.heap.size, 5, none⟩ = some (.int .i64 a.e.f2) := (blk_cell (show (W1.drewN (n1 + n2)).heap[W.heap.size]? = some _ from HBX.out) 5).trans rfl
  have m6 : (W1.drewN (n1 + n2)).cell? ⟨W.heap.size, 6, none⟩ = some (.int .i64 a.e.f3) := (blk_cell (show (W1.drewN (n1 + n2)).heap[W.heap.size]? = some _ from HBX.out) 6).trans rfl
  have m7 : (W1.drewN (n1 + n2)).cell? ⟨W.heap.size, 7, none⟩ = some (.int .i64 a.e.f4) := (blk_cell (show (W1.drewN (n1 + n2)).heap[W.heap.size]? = some _ from HBX.out) 7).trans rfl
  have m8 : (W1.drewN (n1 + n2)).cell? ⟨W.heap.size, 8, none⟩ = some (.slice A n c) := (blk_cell (show (W1.drewN (n1 + n2)).heap[W.heap.size]? = some _ from HBX.out) 8).trans rfl
  have hFW : Frm W (W1.drewN (n1 + n2)) (mine base ok) := Frm.of_below (pw_below_drewN HB0.out _) _
  go_wp2_with fail
  rw [HVP.out]
  refine (append1_B (H.out.below (pw_below_drewN HB0.out _)) a.e A n c HN.out.1 (fun W' hf => HC.out W' (hFW.then_ hf (fun k hk _ => hk))) HN.out.2.1 HN.out.2.2 (Nat.le_trans HFR.out.1 hFW.size) (fun k hk => HFR.out.2 k (Nat.le_trans hFW.size hk)) HL.out).mono ?_
  rintro r w3 ⟨rfl, hb3, hf3⟩
  rw [← HVP.out]
  have hP : Played W base ok p g x w3 := ⟨⟨_, _, hb3, x.app_len _⟩, hFW.then_ hf3 (fun k hk _ => hk)⟩
  clear hb3 hf3
  have HP3 := Aside0.mk hP
  clear hP
  go_wp2
  go_ret
  exact ⟨rfl, HP3.out⟩
set_option maxHeartbeats 8000000 in
set_option maxRecDepth 100000 in
theorem played_k1 (h : Both W base ok p g s x) (a : S47) (A : Option Addr) (n c : Nat) (hn : a.e.f5.length = n) (hC : ∀ W', Frm W W' (mine base ok) → Kd.C k55 W' A n a.e.f5) (hnc : n ≤ c) (hm : opsOk a.e) (hbase : base ≤ W.heap.size) (hfresh : ∀ k, W.heap.size ≤ k → ok k) (hlen : x.l.length ≤ 4294967295) (k1 : (a.k == 1) = true) :
    Calls Try.prog 26 #[ptr p, .pointer (some ⟨g, 0, none⟩), actV a (.slice A n c)] W fun r w' => r = .returned (.bool true) ∧ Played W base ok p g x w' := by
  have H := Aside0.mk h
  have HL := Aside0.mk (show x.l.length ≤ 4294967296 by omega)
  have HC := Aside0.mk hC
  have HN := Aside0.mk (And.intro hn (And.intro hnc hm))
  have HFR := Aside0.mk (And.intro hbase hfresh)
  obtain ⟨vp, hvp⟩ : ∃ vp, vp = ptr p := ⟨_, rfl⟩
  rw [← hvp]
  have HVP := Aside0.mk hvp
  have HLA := Aside0.mk h.lk.la
  have HFL := Aside0.mk h.lk.xfl
  have HOK := Aside0.mk h.ra.1
  have hlas : s.la ≤ 2147483647 := h.ra.1.2.2.2.2.1
  clear hvp h hlen hC hn hnc hm hbase hfresh
  unfold actV
  have hbx0 : (W.alloc (.cells #[.int .i64 a.k, .int .i64 a.n, .int .i64 a.m, .int .i64 a.e.f0, .int .i64 a.e.f1, .int .i64 a.e.f2, .int .i64 a.e.f3, .int .i64 a.e.f4, .slice A n c] 47)).heap[W.heap.size]? = some (.cells #[.int .i64 a.k, .int .i64 a.n, .int .i64 a.m, .int .i64 a.e.f0, .int .i64 a.e.f1, .int .i64 a.e.f2, .int .i64 a.e.f3, .int .i64 a.e.f4, .slice A n c] 47) := heap_alloc_new W _
  have hB0 : Below W.heap.size W (W.alloc (.cells #[.int .i64 a.k, .int .i64 a.n, .int .i64 a.m, .int .i64 a.e.f0, .int .i64 a.e.f1, .int .i64 a.e.f2, .int .i64 a.e.f3, .int .i64 a.e.f4, .slice A n c] 47)) := below_alloc (Below.refl _ _) _
  obtain ⟨W1, hW1⟩ : ∃ W1, W1 = W.alloc (.cells #[.int .i64 a.k, .int .i64 a.n, .int .i64 a.m, .int .i64 a.e.f0, .int .i64 a.e.f1, .int .i64 a.e.f2, .int .i64 a.e.f3, .int .i64 a.e.f4, .slice A n c] 47) := ⟨_, rfl⟩
  rw [← hW1] at hbx0 hB0
  have m0 : W1.cell? ⟨W.heap.size, 0, none⟩ = some (.int .i64 a.k) := (blk_cell hbx0 0).trans rfl
  have m1 : W1.cell? ⟨W.heap.size, 1, none⟩ = some (.int .i64 a.n) := (blk_cell hbx0 1).trans rfl
  have HBX := Aside0.mk hbx0
  have HB0 := Aside0.mk hB0
  have HW1 := Aside0.mk hW1
  clear hbx0 hB0 hW1
  go_enter Try.func26, Try.ntmps26
  go_wp2_with fail
  rw [← HW1.out]
  refine (xlast_C (XAt_below H.out.xa HB0.out) HL.out).mono ?_
  rintro e w1 ⟨rfl, ⟨⟨n1, rfl⟩⟩⟩
  rw [HLA.out]
  go_wp2_with fail
  refine (xfloor_C (x := x) (XAt_below H.out.xa (pw_below_drewN HB0.out _)) HL.out).mono ?_
  rintro e w2 ⟨rfl, ⟨⟨n2, rfl⟩⟩⟩
  rw [HFL.out]
  have m2 : (W1.drewN (n1 + n2)).cell? ⟨W.heap.size, 2, none⟩ = some (.int .i64 a.m) := (blk_cell (show (W1.drewN (n1 + n2)).heap[W.heap.size]? = some _ from HBX.out) 2).trans rfl
  have m3 : (W1.drewN (n1 + n2)).cell? ⟨W.heap.size, 3, none⟩ = some (.int .i64 a.e.f0) := (blk_cell (show (W1.drewN (n1 + n2)).heap[W.heap.size]? = some _ from HBX.out) 3).trans rfl
  have m4 : (W1.drewN (n1 + n2)).cell? ⟨W.heap.size, 4, none⟩ = some (.int .i64 a.e.f1) := (blk_cell (show (W1.drewN (n1 + n2)).heap[W.heap.size]? = some _ from HBX.out) 4).trans rfl
  have m5 : (W1.drewN (n1 + n2)).cell? ⟨W.heap.size, 5, none⟩ = some (.int .i64 a.e.f2) := (blk_cell (show (W1.drewN (n1 + n2)).heap[W.heap.size]? = some _ from HBX.out) 5).trans rfl
  have m6 : (W1.drewN (n1 + n2)).cell? ⟨W.heap.size, 6, none⟩ = some (.int .i64 a.e.f3) := (blk_cell (show (W1.drewN (n1 + n2)).heap[W.heap.size]? = some _ from HBX.out) 6).trans rfl
  have m7 : (W1.drewN (n1 + n2)).cell? ⟨W.heap.size, 7, none⟩ = some (.int .i64 a.e.f4) := (blk_cell (show (W1.drewN (n1 + n2)).heap[W.heap.size]? = some _ from HBX.out) 7).trans rfl
  have m8 : (W1.drewN (n1 + n2)).cell? ⟨W.heap.size, 8, none⟩ = some (.slice A n c) := (blk_cell (show (W1.drewN (n1 + n2)).heap[W.heap.size]? = some _ from HBX.out) 8).trans rfl
  go_wp2_with fail
  refine (near_C s.la x.lv a A n c _).mono ?_
  rintro r w3 ⟨rfl, hB3⟩
  have hW3 : Below W.heap.size W w3 := below_then (pw_below_drewN HB0.out (n1 + n2)) (show W.heap.size ≤ (W1.drewN (n1 + n2)).heap.size from HB0.out.size) hB3
  obtain ⟨y, hy⟩ : ∃ y, y = nearE s.la x.lv a := ⟨_, rfl⟩
  have hy5 : y.f5 = a.e.f5 := by rw [hy]; exact nearE_f5 _ _ _
  rw [← hy]
  have HY5 := Aside0.mk hy5
  have HB3 := Aside0.mk hW3
  clear hB3 hW3 hy hy5
  unfold entV
  have HNEW := Aside0.mk (heap_alloc_new w3 (.cells zeroCells 33))
  go_wp2_with (with_reducible refine stop_store rfl ?_)
  refine wpList_store rfl rfl 33 (.tmp 11) (.tmp 29) rfl (.agg #[.int .i64 y.f0, .int .i64 y.f1, .int .i64 y.f2, .int .i64 y.f3, .int .i64 y.f4, .slice A n c]) (cells6 y (.slice A n c)) rfl rfl HNEW.out rfl size33 (by show 0 + 6 ≤ 6; omega) (by simp [cells6, Value.oneCell']) ?_
  rw [alloc_full (w := w3) (cur := zeroCells) (e := 33) (cells6 y (.slice A n c)) rfl]
  have hbx4 : (w3.alloc (.cells (cells6 y (.slice A n c)).toArray 33)).heap[w3.heap.size]? = some (.cells (cells6 y (.slice A n c)).toArray 33) := heap_alloc_new w3 _
  have HB4 := Aside0.mk (show Below W.heap.size W (w3.alloc (.cells (cells6 y (.slice A n c)).toArray 33)) from below_alloc HB3.out _)
  obtain ⟨G4, hG4⟩ : ∃ G4, G4 = w3.heap.size := ⟨_, rfl⟩
  rw [← hG4] at hbx4 ⊢
  clear HNEW
  obtain ⟨w4, hw4⟩ : ∃ w4, w4 = w3.alloc (.cells (cells6 y (.slice A n c)).toArray 33) := ⟨_, rfl⟩
  rw [← hw4] at hbx4 HB4 ⊢
  have e0 : w4.cell? ⟨G4, 0, none⟩ = some (.int .i64 y.f0) := (blk_cell hbx4 0).trans rfl
  have e1 : w4.cell? ⟨G4, 1, none⟩ = some (.int .i64 y.f1) := (blk_cell hbx4 1).trans rfl
  have e2 : w4.cell? ⟨G4, 2, none⟩ = some (.int .i64 y.f2) := (blk_cell hbx4 2).trans rfl
  have e3 : w4.cell? ⟨G4, 3, none⟩ = some (.int .i64 y.f3) := (blk_cell hbx4 3).trans rfl
  have e4 : w4.cell? ⟨G4, 4, none⟩ = some (.int .i64 y.f4) := (blk_cell hbx4 4).trans rfl
  have e5 : w4.cell? ⟨G4, 5, none⟩ = some (.slice A n c) := (blk_cell hbx4 5).trans rfl
  have HFW := Aside0.mk (show Frm W w4 (mine base ok) from Frm.of_below HB4.out _)
  clear hw4 hG4 hbx4 m0 m1 m2 m3 m4 m5 m6 m7 m8
  go_wp2_with fail
  rw [HVP.out]
  refine (append1_B (H.out.below HB4.out) y A n c (by rw [HY5.out]; exact HN.out.1) (fun W' hf => by rw [HY5.out]; exact HC.out W' (HFW.out.then_ hf (fun k hk _ => hk))) HN.out.2.1 (show y.f5.length ≤ _ by rw [HY5.out]; exact HN.out.2.2) (Nat.le_trans HFR.out.1 HFW.out.size) (fun k hk => HFR.out.2 k (Nat.le_trans HFW.out.size hk)) HL.out).mono ?_
  rintro r w5 ⟨rfl, hb5, hf5⟩
  rw [← HVP.out]
  have hP : Played W base ok p g x w5 := ⟨⟨_, _, hb5, x.app_len _⟩, HFW.out.then_ hf5 (fun k hk _ => hk)⟩
  clear hb5 hf5
  have HP3 := Aside0.mk hP
  clear hP
  go_wp2
  go_ret
  exact ⟨rfl, HP3.out⟩
theorem hf4_cell {w w' : World} {S : Nat → Prop} {a : Addr} {v : Value} (hc : w.cell? a = some v) (hf : Frm w w' S) (hn : ¬ S a.block) : w'.cell? a = some v := by
  have h := hf.block a.block (World.block_lt_of_cell? w a hc) hn
  rw [← hc]
  unfold World.cell?
  rw [h]
set_option maxHeartbeats 8000000 in
set_option maxRecDepth 100000 in
theorem played_k3 (h : Both W base ok p g s x) (a : S47) (A : Option Addr) (n c : Nat) (hn : a.e.f5.length = n) (hC : ∀ W', Frm W W' (mine base ok) → Kd.C k55 W' A n a.e.f5) (hnc : n ≤ c) (hm : opsOk a.e) (hbase : base ≤ W.heap.size) (hfresh : ∀ k, W.heap.size ≤ k → ok k) (hlen : x.l.length ≤ 4294967295) (k1 : (a.k == 1) = false) (k2 : (a.k == 2) = false) (k3 : (a.k == 3) = true) :
    Calls Try.prog 26 #[ptr p, .pointer (some ⟨g, 0, none⟩), actV a (.slice A n c)] W fun r w' => r = .returned (.bool true) ∧ Played W base ok p g x w' := by
  have H := Aside0.mk h
  have HL := Aside0.mk (show x.l.length ≤ 4294967296 by omega)
  have HC := Aside0.mk hC
  have HN := Aside0.mk (And.intro hn (And.intro hnc hm))
  have HFR := Aside0.mk (And.intro hbase hfresh)
  obtain ⟨vp, hvp⟩ : ∃ vp, vp = ptr p := ⟨_, rfl⟩
  rw [← hvp]
  have HVP := Aside0.mk hvp
  have HLA := Aside0.mk h.lk.la
  have HFL := Aside0.mk h.lk.xfl
  have HOK := Aside0.mk h.ra.1
  have hlas : s.la ≤ 2147483647 := h.ra.1.2.2.2.2.1
  clear hvp h hlen hC hn hnc hm hbase hfresh
  obtain ⟨x0, hx0⟩ : ∃ x0, wrap64 ((x.ho : Int) + a.n) = x0 := ⟨_, rfl⟩
  obtain ⟨cc, hcc⟩ : ∃ cc, cc = s.code x0 := ⟨_, rfl⟩
  have HCC := Aside0.mk (And.intro hcc ((H.out.lk.code x0).trans hcc.symm))
  have hccc : (cc == cc) = true := by simp
  have HX0 := Aside0.mk hx0
  clear hx0 hcc
  unfold actV
  have hbx0 : (W.alloc (.cells #[.int .i64 a.k, .int .i64 a.n, .int .i64 a.m, .int .i64 a.e.f0, .int .i64 a.e.f1, .int .i64 a.e.f2, .int .i64 a.e.f3, .int .i64 a.e.f4, .slice A n c] 47)).heap[W.heap.size]? = some (.cells #[.int .i64 a.k, .int .i64 a.n, .int .i64 a.m, .int .i64 a.e.f0, .int .i64 a.e.f1, .int .i64 a.e.f2, .int .i64 a.e.f3, .int .i64 a.e.f4, .slice A n c] 47) := heap_alloc_new W _
  have hB0 : Below W.heap.size W (W.alloc (.cells #[.int .i64 a.k, .int .i64 a.n, .int .i64 a.m, .int .i64 a.e.f0, .int .i64 a.e.f1, .int .i64 a.e.f2, .int .i64 a.e.f3, .int .i64 a.e.f4, .slice A n c] 47)) := below_alloc (Below.refl _ _) _
  obtain ⟨W1, hW1⟩ : ∃ W1, W1 = W.alloc (.cells #[.int .i64 a.k, .int .i64 a.n, .int .i64 a.m, .int .i64 a.e.f0, .int .i64 a.e.f1, .int .i64 a.e.f2, .int .i64 a.e.f3, .int .i64 a.e.f4, .slice A n c] 47) := ⟨_, rfl⟩
  rw [← hW1] at hbx0 hB0
  have m0 : W1.cell? ⟨W.heap.size, 0, none⟩ = some (.int .i64 a.k) := (blk_cell hbx0 0).trans rfl
  have m1 : W1.cell? ⟨W.heap.size, 1, none⟩ = some (.int .i64 a.n) := (blk_cell hbx0 1).trans rfl
  have HBX := Aside0.mk hbx0
  have HB0 := Aside0.mk hB0
  have HW1 := Aside0.mk hW1
  clear hbx0 hB0 hW1
  go_enter Try.func26, Try.ntmps26
  go_wp2_with fail
  rw [← HW1.out]
  refine (xlast_C (XAt_below H.out.xa HB0.out) HL.out).mono ?_
  rintro e w1 ⟨rfl, ⟨⟨n1, rfl⟩⟩⟩
  rw [HLA.out]
  go_wp2_with fail
  refine (xfloor_C (x := x) (XAt_below H.out.xa (pw_below_drewN HB0.out _)) HL.out).mono ?_
  rintro e w2 ⟨rfl, ⟨⟨n2, rfl⟩⟩⟩
  rw [HFL.out]
  go_wp2
  obtain ⟨Wq, hWq⟩ : ∃ Wq, Wq = W1.drewN (n1 + n2) := ⟨_, rfl⟩
  rw [← hWq]
  have hBq : Below W.heap.size W Wq.drew := by rw [hWq]; exact below_drew (pw_below_drewN HB0.out _)
  have m1q : Wq.drew.cell? ⟨W.heap.size, 1, none⟩ = some (.int .i64 a.n) := by rw [hWq]; exact m1
  have hbq : Wq.drew.heap[W.heap.size]? = some (.cells #[.int .i64 a.k, .int .i64 a.n, .int .i64 a.m, .int .i64 a.e.f0, .int .i64 a.e.f1, .int .i64 a.e.f2, .int .i64 a.e.f3, .int .i64 a.e.f4, .slice A n c] 47) := by rw [hWq]; exact HBX.out
  have HBQ := Aside0.mk (H.out.below hBq)
  have HFQ := Aside0.mk hBq
  have HBX9 := Aside0.mk hbq
  clear hBq hbq hWq m0 m1
  refine start_ (n := 16) (S := fun w' => w'.cell? ⟨W.heap.size, 1, none⟩ = some (.int .i64 a.n)) (ds := []) #[false, false, false, false, false, false, false, false, false, false, false, false, false, false, false, false] (by kernel_rfl) rfl rfl (m1q) (fun hHeld => ?_)
  refine with_tabW rg26.tab10 rg26.bits10 (fun HT_ HW_ => ?_)
  refine pure_ (i := 0) (N := some 43) (v := ?_) (a' := ?_) #[true, false, false, false, false, false, false, false, false, false, false, false, false, false, false, false] rfl rfl (any_of HT_.out (by kernel_rfl)) (fun _ _ _ h => h) (Or.inl ⟨by rfl, ?_⟩) ?_ ?_
  rotate_left
  · intro w'
    go_simp
    with_reducible rfl
  rotate_left
  · simp only [Act.put, List.setIfInBounds_toArray, List.set_cons_zero, List.set_cons_succ, i64_w, i32_w]
    rfl
  refine pure_ (i := 1) (N := some 44) (v := ?_) (a' := ?_) #[true, true, false, false, false, false, false, false, false, false, false, false, false, false, false, false] rfl rfl (any_of HT_.out (by kernel_rfl)) (fun _ _ _ h => h) (Or.inl ⟨by rfl, ?_⟩) ?_ ?_
  rotate_left
  · intro w'
    go_simp
    with_reducible rfl
  rotate_left
  · simp only [Act.put, List.setIfInBounds_toArray, List.set_cons_zero, List.set_cons_succ, i64_w, i32_w]
    rfl
  refine pure_ (i := 3) (N := some 46) (v := ?_) (a' := ?_) #[true, true, false, true, false, false, false, false, false, false, false, false, false, false, false, false] rfl rfl (any_of HT_.out (by kernel_rfl)) (fun _ _ _ h => h) (Or.inl ⟨by rfl, ?_⟩) ?_ ?_
  rotate_left
  · intro w'
    go_simp
    with_reducible rfl
  rotate_left
  · simp only [Act.put, List.setIfInBounds_toArray, List.set_cons_zero, List.set_cons_succ, i64_w, i32_w]
    rfl
  refine pure_ (i := 7) (N := some 50) (v := ?_) (a' := ?_) #[true, true, false, true, false, false, false, true, false, false, false, false, false, false, false, false] rfl rfl (any_of HT_.out (by kernel_rfl)) (fun _ _ _ h => h) (Or.inl ⟨by rfl, ?_⟩) ?_ ?_
  rotate_left
  · intro w'
    go_simp
    with_reducible rfl
  rotate_left
  · simp only [Act.put, List.setIfInBounds_toArray, List.set_cons_zero, List.set_cons_succ, i64_w, i32_w]
    rfl
  refine pure_ (i := 8) (N := some 51) (v := ?_) (a' := ?_) #[true, true, false, true, false, false, false, true, true, false, false, false, false, false, false, false] rfl rfl (any_of HT_.out (by kernel_rfl)) (fun _ _ _ h => h) (Or.inl ⟨by rfl, ?_⟩) ?_ ?_
  rotate_left
  · intro w'
    go_simp
    with_reducible rfl
  rotate_left
  · simp only [Act.put, List.setIfInBounds_toArray, List.set_cons_zero, List.set_cons_succ, i64_w, i32_w]
    rfl
  refine pure_ (i := 10) (N := some 53) (v := ?_) (a' := ?_) #[true, true, false, true, false, false, false, true, true, false, true, false, false, false, false, false] rfl rfl (any_of HT_.out (by kernel_rfl)) (fun _ _ _ h => h) (Or.inl ⟨by rfl, ?_⟩) ?_ ?_
  rotate_left
  · intro w'
    go_simp
    with_reducible rfl
  rotate_left
  · simp only [Act.put, List.setIfInBounds_toArray, List.set_cons_zero, List.set_cons_succ, i64_w, i32_w]
    rfl
  refine take_ (i := 4) (N := some 47) (v := ?_) (a' := ?_) #[true, true, false, true, true, false, false, true, true, false, true, false, false, false, false, false] rfl rfl (take_ofW HT_.out HW_.out (by kernel_rfl)) (fun _ _ _ h => h) (Or.inl ⟨by rfl, ?_⟩) hHeld ?_ ?_
  rotate_left
  · intro w' s0
    go_simp
    with_reducible rfl
  rotate_left
  · simp only [Act.put, List.setIfInBounds_toArray, List.set_cons_zero, List.set_cons_succ, i64_w, i32_w]
    rfl
  refine take_ (i := 11) (N := some 54) (v := ?_) (a' := ?_) #[true, true, false, true, true, false, false, true, true, false, true, true, false, false, false, false] rfl rfl (take_ofW HT_.out HW_.out (by kernel_rfl)) (fun _ _ _ h => h) (Or.inl ⟨by rfl, ?_⟩) hHeld ?_ ?_
  rotate_left
  · intro w' s0
    go_simp
    with_reducible rfl
  rotate_left
  · simp only [Act.put, List.setIfInBounds_toArray, List.set_cons_zero, List.set_cons_succ, i64_w, i32_w]
    rfl
  refine one_ (i := 2) (N := some 45) #[true, true, true, true, true, false, false, true, true, false, true, true, false, false, false, false] rfl rfl (one_of HT_.out (by kernel_rfl)) (by decide) (fun K hK => ?_)
  refine goes_ Try.func46 (by kernel_rfl) rfl #[.pointer (some ⟨g, 0, none⟩)] (by rfl) rfl rfl (by simp only [List.map_toArray, List.map_cons, List.map_nil]; rfl) ?_
  with_reducible refine (xheld_C HBQ.out.xa).mono ?_
  rintro e w9 ⟨rfl, hw9⟩
  obtain rfl := hw9
  refine ⟨_, rfl, ?_⟩
  refine hK.out _ _ (m1q) (fun hHeld => ?_)
  clear hK K
  refine norm_ (a' := ?_) ?_ ?_
  rotate_left
  · show Act.put _ (some 45) _ = _
    simp only [Act.put, List.setIfInBounds_toArray, List.set_cons_zero, List.set_cons_succ, i64_w, i32_w]
    rfl
  refine pure_ (i := 5) (N := some 48) (v := ?_) (a' := ?_) #[true, true, true, true, true, true, false, true, true, false, true, true, false, false, false, false] rfl rfl (any_of HT_.out (by kernel_rfl)) (fun _ _ _ h => h) (Or.inl ⟨by rfl, ?_⟩) ?_ ?_
  rotate_left
  · intro w'
    go_simp
    with_reducible rfl
  rotate_left
  · simp only [Act.put, List.setIfInBounds_toArray, List.set_cons_zero, List.set_cons_succ, i64_w, i32_w]
    rfl
  refine one_ (i := 6) (N := some 49) #[true, true, true, true, true, true, true, true, true, false, true, true, false, false, false, false] rfl rfl (one_of HT_.out (by kernel_rfl)) (by decide) (fun K hK => ?_)
  refine goes_ Try.func17 (by kernel_rfl) rfl #[vp, .int .i64 (wrap64 ((x.ho : Int) + a.n))] (by rfl) rfl rfl (by simp only [List.map_toArray, List.map_cons, List.map_nil]; rfl) ?_
  rw [HX0.out, HVP.out]
  with_reducible refine (hold_R x0 HBQ.out.ra).mono ?_
  rintro e w3 ⟨rfl, hr3, hf3⟩
  rw [← HCC.out.1]
  have m1r : w3.cell? ⟨W.heap.size, 1, none⟩ = some (.int .i64 a.n) := (blk_cell (hf3.blk HBX9.out (fun hk => by obtain ⟨cs, t, h1, h2, h3, h4⟩ := own1_type HBQ.out.ra _ hk; have h5 := HBX9.out; have := H.out.ra; cases hk; exact absurd (World.block_lt_of_cell? W ⟨W.heap.size, 384, none⟩ (by obtain ⟨_, E, hR, _⟩ := this; exact (RingAt_cells hR).1)) (Nat.lt_irrefl _))) 1).trans rfl
  have HR3 := Aside0.mk hr3
  have HX3 := Aside0.mk (XAt_ring HBQ.out.xa HBQ.out.ra hf3)
  have HF3 := Aside0.mk ((Frm.of_below HFQ.out (mine base ok)).then_ (mine_ring HBQ.out.ra hf3) (fun k hk _ => hk))
  clear hr3 hf3
  refine ⟨_, rfl, ?_⟩
  refine hK.out _ _ (m1r) (fun hHeld => ?_)
  clear hK K
  refine norm_ (a' := ?_) ?_ ?_
  rotate_left
  · show Act.put _ (some 49) _ = _
    simp only [Act.put, List.setIfInBounds_toArray, List.set_cons_zero, List.set_cons_succ, i64_w, i32_w]
    rfl
  refine one_ (i := 9) (N := some 52) #[true, true, true, true, true, true, true, true, true, true, true, true, false, false, false, false] rfl rfl (one_of HT_.out (by kernel_rfl)) (by decide) (fun K hK => ?_)
  refine goes_ Try.func46 (by kernel_rfl) rfl #[.pointer (some ⟨g, 0, none⟩)] (by rfl) rfl rfl (by simp only [List.map_toArray, List.map_cons, List.map_nil]; rfl) ?_
  with_reducible refine (xheld_C HX3.out).mono ?_
  rintro e w9 ⟨rfl, hw9⟩
  obtain rfl := hw9
  refine ⟨_, rfl, ?_⟩
  refine hK.out _ _ (m1r) (fun hHeld => ?_)
  clear hK K
  refine norm_ (a' := ?_) ?_ ?_
  rotate_left
  · show Act.put _ (some 52) _ = _
    simp only [Act.put, List.setIfInBounds_toArray, List.set_cons_zero, List.set_cons_succ, i64_w, i32_w]
    rfl
  refine pure_ (i := 12) (N := some 55) (v := ?_) (a' := ?_) #[true, true, true, true, true, true, true, true, true, true, true, true, true, false, false, false] rfl rfl (any_of HT_.out (by kernel_rfl)) (fun _ _ _ h => h) (Or.inl ⟨by rfl, ?_⟩) ?_ ?_
  rotate_left
  · intro w'
    go_simp
    with_reducible rfl
  rotate_left
  · simp only [Act.put, List.setIfInBounds_toArray, List.set_cons_zero, List.set_cons_succ, i64_w, i32_w]
    rfl
  refine one_ (i := 13) (N := some 56) #[true, true, true, true, true, true, true, true, true, true, true, true, true, true, false, false] rfl rfl (one_of HT_.out (by kernel_rfl)) (by decide) (fun K hK => ?_)
  refine goes_ Try.func47 (by kernel_rfl) rfl #[.pointer (some ⟨g, 0, none⟩), .int .i64 (wrap64 ((x.ho : Int) + a.n))] (by rfl) rfl rfl (by simp only [List.map_toArray, List.map_cons, List.map_nil]; rfl) ?_
  try rw [HX0.out]
  with_reducible refine (xhold_C HX3.out HL.out x0).mono ?_
  rintro e w4 ⟨rfl, hx4, hf4⟩
  rw [HCC.out.2]
  have m1s : w4.cell? ⟨W.heap.size, 1, none⟩ = some (.int .i64 a.n) := hf4_cell m1r hf4 (fun e => absurd (XAt_lt H.out.xa) (by have e : W.heap.size = g := e; rw [← e]; exact Nat.lt_irrefl _))
  have HP4 := Aside0.mk (show Played W base ok p g x w4 from ⟨⟨_, _, ⟨RingIs_ref HR3.out HX3.out (frm_g hf4), hx4, H.out.lk.hold x0⟩, by rw [x.hold_len]; exact Nat.le_succ _⟩, HF3.out.then_ (mine_ref HX3.out (frm_g hf4)) (fun k hk _ => hk)⟩)
  clear hx4 hf4
  refine ⟨_, rfl, ?_⟩
  refine hK.out _ _ (m1s) (fun hHeld => ?_)
  clear hK K
  refine norm_ (a' := ?_) ?_ ?_
  rotate_left
  · show Act.put _ (some 56) _ = _
    simp only [Act.put, List.setIfInBounds_toArray, List.set_cons_zero, List.set_cons_succ, i64_w, i32_w]
    rfl
  refine pure_ (i := 14) (N := some 57) (v := ?_) (a' := ?_) #[true, true, true, true, true, true, true, true, true, true, true, true, true, true, true, false] rfl rfl (any_of HT_.out (by kernel_rfl)) (fun _ _ _ h => h) (Or.inl ⟨by rfl, ?_⟩) ?_ ?_
  rotate_left
  · intro w'
    go_simp
    with_reducible rfl
  rotate_left
  · simp only [Act.put, List.setIfInBounds_toArray, List.set_cons_zero, List.set_cons_succ, i64_w, i32_w]
    rfl
  refine pure_ (i := 15) (N := some 6) (v := ?_) (a' := ?_) #[true, true, true, true, true, true, true, true, true, true, true, true, true, true, true, true] rfl rfl (any_of HT_.out (by kernel_rfl)) (fun _ _ _ h => h) (Or.inl ⟨by rfl, ?_⟩) ?_ ?_
  rotate_left
  · intro w'
    go_simp
    with_reducible rfl
  rotate_left
  · simp only [Act.put, List.setIfInBounds_toArray, List.set_cons_zero, List.set_cons_succ, i64_w, i32_w]
    rfl
  refine done_ (done_of HT_.out (by kernel_rfl)) ?_
  go_wp2
  go_ret
  exact ⟨rfl, HP4.out⟩
set_option maxHeartbeats 8000000 in
set_option maxRecDepth 100000 in
theorem played_k4 (h : Both W base ok p g s x) (a : S47) (A : Option Addr) (n c : Nat) (hn : a.e.f5.length = n) (hC : ∀ W', Frm W W' (mine base ok) → Kd.C k55 W' A n a.e.f5) (hnc : n ≤ c) (hm : opsOk a.e) (hbase : base ≤ W.heap.size) (hfresh : ∀ k, W.heap.size ≤ k → ok k) (hlen : x.l.length ≤ 4294967295) (k1 : (a.k == 1) = false) (k2 : (a.k == 2) = false) (k3 : (a.k == 3) = false) (k4 : (a.k == 4) = true) :
    Calls Try.prog 26 #[ptr p, .pointer (some ⟨g, 0, none⟩), actV a (.slice A n c)] W fun r w' => r = .returned (.bool true) ∧ Played W base ok p g x w' := by
  have H := Aside0.mk h
  have HL := Aside0.mk (show x.l.length ≤ 4294967296 by omega)
  have HC := Aside0.mk hC
  have HN := Aside0.mk (And.intro hn (And.intro hnc hm))
  have HFR := Aside0.mk (And.intro hbase hfresh)
  obtain ⟨vp, hvp⟩ : ∃ vp, vp = ptr p := ⟨_, rfl⟩
  rw [← hvp]
  have HVP := Aside0.mk hvp
  have HLA := Aside0.mk h.lk.la
  have HFL := Aside0.mk h.lk.xfl
  have HOK := Aside0.mk h.ra.1
  have hlas : s.la ≤ 2147483647 := h.ra.1.2.2.2.2.1
  clear hvp h hlen hC hn hnc hm hbase hfresh
  obtain ⟨x0, hx0⟩ : ∃ x0, a.n = x0 := ⟨_, rfl⟩
  obtain ⟨cc, hcc⟩ : ∃ cc, cc = s.code x0 := ⟨_, rfl⟩
  have HCC := Aside0.mk (And.intro hcc ((H.out.lk.code x0).trans hcc.symm))
  have hccc : (cc == cc) = true := by simp
  have HX0 := Aside0.mk hx0
  clear hx0 hcc
  unfold actV
  have hbx0 : (W.alloc (.cells #[.int .i64 a.k, .int .i64 a.n, .int .i64 a.m, .int .i64 a.e.f0, .int .i64 a.e.f1, .int .i64 a.e.f2, .int .i64 a.e.f3, .int .i64 a.e.f4, .slice A n c] 47)).heap[W.heap.size]? = some (.cells #[.int .i64 a.k, .int .i64 a.n, .int .i64 a.m, .int .i64 a.e.f0, .int .i64 a.e.f1, .int .i64 a.e.f2, .int .i64 a.e.f3, .int .i64 a.e.f4, .slice A n c] 47) := heap_alloc_new W _
  have hB0 : Below W.heap.size W (W.alloc (.cells #[.int .i64 a.k, .int .i64 a.n, .int .i64 a.m, .int .i64 a.e.f0, .int .i64 a.e.f1, .int .i64 a.e.f2, .int .i64 a.e.f3, .int .i64 a.e.f4, .slice A n c] 47)) := below_alloc (Below.refl _ _) _
  obtain ⟨W1, hW1⟩ : ∃ W1, W1 = W.alloc (.cells #[.int .i64 a.k, .int .i64 a.n, .int .i64 a.m, .int .i64 a.e.f0, .int .i64 a.e.f1, .int .i64 a.e.f2, .int .i64 a.e.f3, .int .i64 a.e.f4, .slice A n c] 47) := ⟨_, rfl⟩
  rw [← hW1] at hbx0 hB0
  have m0 : W1.cell? ⟨W.heap.size, 0, none⟩ = some (.int .i64 a.k) := (blk_cell hbx0 0).trans rfl
  have m1 : W1.cell? ⟨W.heap.size, 1, none⟩ = some (.int .i64 a.n) := (blk_cell hbx0 1).trans rfl
  have HBX := Aside0.mk hbx0
  have HB0 := Aside0.mk hB0
  have HW1 := Aside0.mk hW1
  clear hbx0 hB0 hW1
  go_enter Try.func26, Try.ntmps26
  go_wp2_with fail
  rw [← HW1.out]
  refine (xlast_C (XAt_below H.out.xa HB0.out) HL.out).mono ?_
  rintro e w1 ⟨rfl, ⟨⟨n1, rfl⟩⟩⟩
  rw [HLA.out]
  go_wp2_with fail
  refine (xfloor_C (x := x) (XAt_below H.out.xa (pw_below_drewN HB0.out _)) HL.out).mono ?_
  rintro e w2 ⟨rfl, ⟨⟨n2, rfl⟩⟩⟩
  rw [HFL.out]
  go_wp2
  obtain ⟨Wq, hWq⟩ : ∃ Wq, Wq = W1.drewN (n1 + n2) := ⟨_, rfl⟩
  rw [← hWq]
  have hBq : Below W.heap.size W Wq.drew := by rw [hWq]; exact below_drew (pw_below_drewN HB0.out _)
  have m1q : Wq.drew.cell? ⟨W.heap.size, 1, none⟩ = some (.int .i64 a.n) := by rw [hWq]; exact m1
  have hbq : Wq.drew.heap[W.heap.size]? = some (.cells #[.int .i64 a.k, .int .i64 a.n, .int .i64 a.m, .int .i64 a.e.f0, .int .i64 a.e.f1, .int .i64 a.e.f2, .int .i64 a.e.f3, .int .i64 a.e.f4, .slice A n c] 47) := by rw [hWq]; exact HBX.out
  have HBQ := Aside0.mk (H.out.below hBq)
  have HFQ := Aside0.mk hBq
  have HBX9 := Aside0.mk hbq
  clear hBq hbq hWq m0 m1
  refine start_ (n := 10) (S := fun w' => w'.cell? ⟨W.heap.size, 1, none⟩ = some (.int .i64 a.n)) (ds := []) #[false, false, false, false, false, false, false, false, false, false] (by kernel_rfl) rfl rfl (m1q) (fun hHeld => ?_)
  refine with_tabW rg26.tab12 rg26.bits12 (fun HT_ HW_ => ?_)
  refine pure_ (i := 0) (N := some 60) (v := ?_) (a' := ?_) #[true, false, false, false, false, false, false, false, false, false] rfl rfl (any_of HT_.out (by kernel_rfl)) (fun _ _ _ h => h) (Or.inl ⟨by rfl, ?_⟩) ?_ ?_
  rotate_left
  · intro w'
    go_simp
    with_reducible rfl
  rotate_left
  · simp only [Act.put, List.setIfInBounds_toArray, List.set_cons_zero, List.set_cons_succ, i64_w, i32_w]
    rfl
  refine pure_ (i := 1) (N := some 61) (v := ?_) (a' := ?_) #[true, true, false, false, false, false, false, false, false, false] rfl rfl (any_of HT_.out (by kernel_rfl)) (fun _ _ _ h => h) (Or.inl ⟨by rfl, ?_⟩) ?_ ?_
  rotate_left
  · intro w'
    go_simp
    with_reducible rfl
  rotate_left
  · simp only [Act.put, List.setIfInBounds_toArray, List.set_cons_zero, List.set_cons_succ, i64_w, i32_w]
    rfl
  refine pure_ (i := 4) (N := some 64) (v := ?_) (a' := ?_) #[true, true, false, false, true, false, false, false, false, false] rfl rfl (any_of HT_.out (by kernel_rfl)) (fun _ _ _ h => h) (Or.inl ⟨by rfl, ?_⟩) ?_ ?_
  rotate_left
  · intro w'
    go_simp
    with_reducible rfl
  rotate_left
  · simp only [Act.put, List.setIfInBounds_toArray, List.set_cons_zero, List.set_cons_succ, i64_w, i32_w]
    rfl
  refine pure_ (i := 5) (N := some 65) (v := ?_) (a' := ?_) #[true, true, false, false, true, true, false, false, false, false] rfl rfl (any_of HT_.out (by kernel_rfl)) (fun _ _ _ h => h) (Or.inl ⟨by rfl, ?_⟩) ?_ ?_
  rotate_left
  · intro w'
    go_simp
    with_reducible rfl
  rotate_left
  · simp only [Act.put, List.setIfInBounds_toArray, List.set_cons_zero, List.set_cons_succ, i64_w, i32_w]
    rfl
  refine take_ (i := 2) (N := some 62) (v := ?_) (a' := ?_) #[true, true, true, false, true, true, false, false, false, false] rfl rfl (take_ofW HT_.out HW_.out (by kernel_rfl)) (fun _ _ _ h => h) (Or.inl ⟨by rfl, ?_⟩) hHeld ?_ ?_
  rotate_left
  · intro w' s0
    go_simp
    with_reducible rfl
  rotate_left
  · simp only [Act.put, List.setIfInBounds_toArray, List.set_cons_zero, List.set_cons_succ, i64_w, i32_w]
    rfl
  refine take_ (i := 6) (N := some 66) (v := ?_) (a' := ?_) #[true, true, true, false, true, true, true, false, false, false] rfl rfl (take_ofW HT_.out HW_.out (by kernel_rfl)) (fun _ _ _ h => h) (Or.inl ⟨by rfl, ?_⟩) hHeld ?_ ?_
  rotate_left
  · intro w' s0
    go_simp
    with_reducible rfl
  rotate_left
  · simp only [Act.put, List.setIfInBounds_toArray, List.set_cons_zero, List.set_cons_succ, i64_w, i32_w]
    rfl
  refine one_ (i := 3) (N := some 63) #[true, true, true, true, true, true, true, false, false, false] rfl rfl (one_of HT_.out (by kernel_rfl)) (by decide) (fun K hK => ?_)
  refine goes_ Try.func17 (by kernel_rfl) rfl #[vp, .int .i64 (a.n)] (by rfl) rfl rfl (by simp only [List.map_toArray, List.map_cons, List.map_nil]; rfl) ?_
  rw [HX0.out, HVP.out]
  with_reducible refine (hold_R x0 HBQ.out.ra).mono ?_
  rintro e w3 ⟨rfl, hr3, hf3⟩
  rw [← HCC.out.1]
  have m1r : w3.cell? ⟨W.heap.size, 1, none⟩ = some (.int .i64 a.n) := (blk_cell (hf3.blk HBX9.out (fun hk => by obtain ⟨cs, t, h1, h2, h3, h4⟩ := own1_type HBQ.out.ra _ hk; have h5 := HBX9.out; have := H.out.ra; cases hk; exact absurd (World.block_lt_of_cell? W ⟨W.heap.size, 384, none⟩ (by obtain ⟨_, E, hR, _⟩ := this; exact (RingAt_cells hR).1)) (Nat.lt_irrefl _))) 1).trans rfl
  have HR3 := Aside0.mk hr3
  have HX3 := Aside0.mk (XAt_ring HBQ.out.xa HBQ.out.ra hf3)
  have HF3 := Aside0.mk ((Frm.of_below HFQ.out (mine base ok)).then_ (mine_ring HBQ.out.ra hf3) (fun k hk _ => hk))
  clear hr3 hf3
  refine ⟨_, rfl, ?_⟩
  refine hK.out _ _ (m1r) (fun hHeld => ?_)
  clear hK K
  refine norm_ (a' := ?_) ?_ ?_
  rotate_left
  · show Act.put _ (some 63) _ = _
    simp only [Act.put, List.setIfInBounds_toArray, List.set_cons_zero, List.set_cons_succ, i64_w, i32_w]
    rfl
  refine one_ (i := 7) (N := some 67) #[true, true, true, true, true, true, true, true, false, false] rfl rfl (one_of HT_.out (by kernel_rfl)) (by decide) (fun K hK => ?_)
  refine goes_ Try.func47 (by kernel_rfl) rfl #[.pointer (some ⟨g, 0, none⟩), .int .i64 (x0)] (by rfl) rfl rfl (by simp only [List.map_toArray, List.map_cons, List.map_nil]; rfl) ?_
  try rw [HX0.out]
  with_reducible refine (xhold_C HX3.out HL.out x0).mono ?_
  rintro e w4 ⟨rfl, hx4, hf4⟩
  rw [HCC.out.2]
  have m1s : w4.cell? ⟨W.heap.size, 1, none⟩ = some (.int .i64 a.n) := hf4_cell m1r hf4 (fun e => absurd (XAt_lt H.out.xa) (by have e : W.heap.size = g := e; rw [← e]; exact Nat.lt_irrefl _))
  have HP4 := Aside0.mk (show Played W base ok p g x w4 from ⟨⟨_, _, ⟨RingIs_ref HR3.out HX3.out (frm_g hf4), hx4, H.out.lk.hold x0⟩, by rw [x.hold_len]; exact Nat.le_succ _⟩, HF3.out.then_ (mine_ref HX3.out (frm_g hf4)) (fun k hk _ => hk)⟩)
  clear hx4 hf4
  refine ⟨_, rfl, ?_⟩
  refine hK.out _ _ (m1s) (fun hHeld => ?_)
  clear hK K
  refine norm_ (a' := ?_) ?_ ?_
  rotate_left
  · show Act.put _ (some 67) _ = _
    simp only [Act.put, List.setIfInBounds_toArray, List.set_cons_zero, List.set_cons_succ, i64_w, i32_w]
    rfl
  refine pure_ (i := 8) (N := some 68) (v := ?_) (a' := ?_) #[true, true, true, true, true, true, true, true, true, false] rfl rfl (any_of HT_.out (by kernel_rfl)) (fun _ _ _ h => h) (Or.inl ⟨by rfl, ?_⟩) ?_ ?_
  rotate_left
  · intro w'
    go_simp
    with_reducible rfl
  rotate_left
  · simp only [Act.put, List.setIfInBounds_toArray, List.set_cons_zero, List.set_cons_succ, i64_w, i32_w]
    rfl
  refine pure_ (i := 9) (N := some 6) (v := ?_) (a' := ?_) #[true, true, true, true, true, true, true, true, true, true] rfl rfl (any_of HT_.out (by kernel_rfl)) (fun _ _ _ h => h) (Or.inl ⟨by rfl, ?_⟩) ?_ ?_
  rotate_left
  · intro w'
    go_simp
    with_reducible rfl
  rotate_left
  · simp only [Act.put, List.setIfInBounds_toArray, List.set_cons_zero, List.set_cons_succ, i64_w, i32_w]
    rfl
  refine done_ (done_of HT_.out (by kernel_rfl)) ?_
  go_wp2
  go_ret
  exact ⟨rfl, HP4.out⟩
set_option maxHeartbeats 8000000 in
set_option maxRecDepth 100000 in
theorem played_k5 (h : Both W base ok p g s x) (a : S47) (A : Option Addr) (n c : Nat) (hn : a.e.f5.length = n) (hC : ∀ W', Frm W W' (mine base ok) → Kd.C k55 W' A n a.e.f5) (hnc : n ≤ c) (hm : opsOk a.e) (hbase : base ≤ W.heap.size) (hfresh : ∀ k, W.heap.size ≤ k → ok k) (hlen : x.l.length ≤ 4294967295) (k1 : (a.k == 1) = false) (k2 : (a.k == 2) = false) (k3 : (a.k == 3) = false) (k4 : (a.k == 4) = false) (k5 : (a.k == 5) = true) :
    Calls Try.prog 26 #[ptr p, .pointer (some ⟨g, 0, none⟩), actV a (.slice A n c)] W fun r w' => r = .returned (.bool true) ∧ Played W base ok p g x w' := by
  have H := Aside0.mk h
  have HL := Aside0.mk (show x.l.length ≤ 4294967296 by omega)
  have HC := Aside0.mk hC
  have HN := Aside0.mk (And.intro hn (And.intro hnc hm))
  have HFR := Aside0.mk (And.intro hbase hfresh)
  obtain ⟨vp, hvp⟩ : ∃ vp, vp = ptr p := ⟨_, rfl⟩
  rw [← hvp]
  have HVP := Aside0.mk hvp
  have HLA := Aside0.mk h.lk.la
  have HFL := Aside0.mk h.lk.xfl
  have HOK := Aside0.mk h.ra.1
  have hlas : s.la ≤ 2147483647 := h.ra.1.2.2.2.2.1
  clear hvp h hlen hC hn hnc hm hbase hfresh
  obtain ⟨x0, hx0⟩ : ∃ x0, wrap64 ((s.la : Int) - a.n) = x0 := ⟨_, rfl⟩
  obtain ⟨cc, hcc⟩ : ∃ cc, cc = s.code x0 := ⟨_, rfl⟩
  have HCC := Aside0.mk (And.intro hcc ((H.out.lk.code x0).trans hcc.symm))
  have hccc : (cc == cc) = true := by simp
  have HX0 := Aside0.mk hx0
  clear hx0 hcc
  unfold actV
  have hbx0 : (W.alloc (.cells #[.int .i64 a.k, .int .i64 a.n, .int .i64 a.m, .int .i64 a.e.f0, .int .i64 a.e.f1, .int .i64 a.e.f2, .int .i64 a.e.f3, .int .i64 a.e.f4, .slice A n c] 47)).heap[W.heap.size]? = some (.cells #[.int .i64 a.k, .int .i64 a.n, .int .i64 a.m, .int .i64 a.e.f0, .int .i64 a.e.f1, .int .i64 a.e.f2, .int .i64 a.e.f3, .int .i64 a.e.f4, .slice A n c] 47) := heap_alloc_new W _
  have hB0 : Below W.heap.size W (W.alloc (.cells #[.int .i64 a.k, .int .i64 a.n, .int .i64 a.m, .int .i64 a.e.f0, .int .i64 a.e.f1, .int .i64 a.e.f2, .int .i64 a.e.f3, .int .i64 a.e.f4, .slice A n c] 47)) := below_alloc (Below.refl _ _) _
  obtain ⟨W1, hW1⟩ : ∃ W1, W1 = W.alloc (.cells #[.int .i64 a.k, .int .i64 a.n, .int .i64 a.m, .int .i64 a.e.f0, .int .i64 a.e.f1, .int .i64 a.e.f2, .int .i64 a.e.f3, .int .i64 a.e.f4, .slice A n c] 47) := ⟨_, rfl⟩
  rw [← hW1] at hbx0 hB0
  have m0 : W1.cell? ⟨W.heap.size, 0, none⟩ = some (.int .i64 a.k) := (blk_cell hbx0 0).trans rfl
  have m1 : W1.cell? ⟨W.heap.size, 1, none⟩ = some (.int .i64 a.n) := (blk_cell hbx0 1).trans rfl
  have HBX := Aside0.mk hbx0
  have HB0 := Aside0.mk hB0
  have HW1 := Aside0.mk hW1
  clear hbx0 hB0 hW1
  go_enter Try.func26, Try.ntmps26
  go_wp2_with fail
  rw [← HW1.out]
  refine (xlast_C (XAt_below H.out.xa HB0.out) HL.out).mono ?_
  rintro e w1 ⟨rfl, ⟨⟨n1, rfl⟩⟩⟩
  rw [HLA.out]
  go_wp2_with fail
  refine (xfloor_C (x := x) (XAt_below H.out.xa (pw_below_drewN HB0.out _)) HL.out).mono ?_
  rintro e w2 ⟨rfl, ⟨⟨n2, rfl⟩⟩⟩
  rw [HFL.out]
  go_wp2
  obtain ⟨Wq, hWq⟩ : ∃ Wq, Wq = W1.drewN (n1 + n2) := ⟨_, rfl⟩
  rw [← hWq]
  have hBq : Below W.heap.size W Wq.drew := by rw [hWq]; exact below_drew (pw_below_drewN HB0.out _)
  have m1q : Wq.drew.cell? ⟨W.heap.size, 1, none⟩ = some (.int .i64 a.n) := by rw [hWq]; exact m1
  have hbq : Wq.drew.heap[W.heap.size]? = some (.cells #[.int .i64 a.k, .int .i64 a.n, .int .i64 a.m, .int .i64 a.e.f0, .int .i64 a.e.f1, .int .i64 a.e.f2, .int .i64 a.e.f3, .int .i64 a.e.f4, .slice A n c] 47) := by rw [hWq]; exact HBX.out
  have HBQ := Aside0.mk (H.out.below hBq)
  have HFQ := Aside0.mk hBq
  have HBX9 := Aside0.mk hbq
  clear hBq hbq hWq m0 m1
  refine start_ (n := 14) (S := fun w' => w'.cell? ⟨W.heap.size, 1, none⟩ = some (.int .i64 a.n)) (ds := []) #[false, false, false, false, false, false, false, false, false, false, false, false, false, false] (by kernel_rfl) rfl rfl (m1q) (fun hHeld => ?_)
  refine with_tabW rg26.tab14 rg26.bits14 (fun HT_ HW_ => ?_)
  refine pure_ (i := 0) (N := some 71) (v := ?_) (a' := ?_) #[true, false, false, false, false, false, false, false, false, false, false, false, false, false] rfl rfl (any_of HT_.out (by kernel_rfl)) (fun _ _ _ h => h) (Or.inl ⟨by rfl, ?_⟩) ?_ ?_
  rotate_left
  · intro w'
    go_simp
    with_reducible rfl
  rotate_left
  · simp only [Act.put, List.setIfInBounds_toArray, List.set_cons_zero, List.set_cons_succ, i64_w, i32_w]
    rfl
  refine pure_ (i := 1) (N := some 72) (v := ?_) (a' := ?_) #[true, true, false, false, false, false, false, false, false, false, false, false, false, false] rfl rfl (any_of HT_.out (by kernel_rfl)) (fun _ _ _ h => h) (Or.inl ⟨by rfl, ?_⟩) ?_ ?_
  rotate_left
  · intro w'
    go_simp
    with_reducible rfl
  rotate_left
  · simp only [Act.put, List.setIfInBounds_toArray, List.set_cons_zero, List.set_cons_succ, i64_w, i32_w]
    rfl
  refine pure_ (i := 2) (N := some 73) (v := ?_) (a' := ?_) #[true, true, true, false, false, false, false, false, false, false, false, false, false, false] rfl rfl (any_of HT_.out (by kernel_rfl)) (fun _ _ _ h => h) (Or.inl ⟨by rfl, ?_⟩) ?_ ?_
  rotate_left
  · intro w'
    go_simp
    with_reducible rfl
  rotate_left
  · simp only [Act.put, List.setIfInBounds_toArray, List.set_cons_zero, List.set_cons_succ, i64_w, i32_w]
    rfl
  refine pure_ (i := 6) (N := some 77) (v := ?_) (a' := ?_) #[true, true, true, false, false, false, true, false, false, false, false, false, false, false] rfl rfl (any_of HT_.out (by kernel_rfl)) (fun _ _ _ h => h) (Or.inl ⟨by rfl, ?_⟩) ?_ ?_
  rotate_left
  · intro w'
    go_simp
    with_reducible rfl
  rotate_left
  · simp only [Act.put, List.setIfInBounds_toArray, List.set_cons_zero, List.set_cons_succ, i64_w, i32_w]
    rfl
  refine pure_ (i := 7) (N := some 78) (v := ?_) (a' := ?_) #[true, true, true, false, false, false, true, true, false, false, false, false, false, false] rfl rfl (any_of HT_.out (by kernel_rfl)) (fun _ _ _ h => h) (Or.inl ⟨by rfl, ?_⟩) ?_ ?_
  rotate_left
  · intro w'
    go_simp
    with_reducible rfl
  rotate_left
  · simp only [Act.put, List.setIfInBounds_toArray, List.set_cons_zero, List.set_cons_succ, i64_w, i32_w]
    rfl
  refine pure_ (i := 8) (N := some 79) (v := ?_) (a' := ?_) #[true, true, true, false, false, false, true, true, true, false, false, false, false, false] rfl rfl (any_of HT_.out (by kernel_rfl)) (fun _ _ _ h => h) (Or.inl ⟨by rfl, ?_⟩) ?_ ?_
  rotate_left
  · intro w'
    go_simp
    with_reducible rfl
  rotate_left
  · simp only [Act.put, List.setIfInBounds_toArray, List.set_cons_zero, List.set_cons_succ, i64_w, i32_w]
    rfl
  refine take_ (i := 3) (N := some 74) (v := ?_) (a' := ?_) #[true, true, true, true, false, false, true, true, true, false, false, false, false, false] rfl rfl (take_ofW HT_.out HW_.out (by kernel_rfl)) (fun _ _ _ h => h) (Or.inl ⟨by rfl, ?_⟩) hHeld ?_ ?_
  rotate_left
  · intro w' s0
    go_simp
    with_reducible rfl
  rotate_left
  · simp only [Act.put, List.setIfInBounds_toArray, List.set_cons_zero, List.set_cons_succ, i64_w, i32_w]
    rfl
  refine pure_ (i := 4) (N := some 75) (v := ?_) (a' := ?_) #[true, true, true, true, true, false, true, true, true, false, false, false, false, false] rfl rfl (any_of HT_.out (by kernel_rfl)) (fun _ _ _ h => h) (Or.inl ⟨by rfl, ?_⟩) ?_ ?_
  rotate_left
  · intro w'
    go_simp
    with_reducible rfl
  rotate_left
  · simp only [Act.put, List.setIfInBounds_toArray, List.set_cons_zero, List.set_cons_succ, i64_w, i32_w]
    rfl
  refine take_ (i := 9) (N := some 80) (v := ?_) (a' := ?_) #[true, true, true, true, true, false, true, true, true, true, false, false, false, false] rfl rfl (take_ofW HT_.out HW_.out (by kernel_rfl)) (fun _ _ _ h => h) (Or.inl ⟨by rfl, ?_⟩) hHeld ?_ ?_
  rotate_left
  · intro w' s0
    go_simp
    with_reducible rfl
  rotate_left
  · simp only [Act.put, List.setIfInBounds_toArray, List.set_cons_zero, List.set_cons_succ, i64_w, i32_w]
    rfl
  refine pure_ (i := 10) (N := some 81) (v := ?_) (a' := ?_) #[true, true, true, true, true, false, true, true, true, true, true, false, false, false] rfl rfl (any_of HT_.out (by kernel_rfl)) (fun _ _ _ h => h) (Or.inl ⟨by rfl, ?_⟩) ?_ ?_
  rotate_left
  · intro w'
    go_simp
    with_reducible rfl
  rotate_left
  · simp only [Act.put, List.setIfInBounds_toArray, List.set_cons_zero, List.set_cons_succ, i64_w, i32_w]
    rfl
  refine one_ (i := 5) (N := some 76) #[true, true, true, true, true, true, true, true, true, true, true, false, false, false] rfl rfl (one_of HT_.out (by kernel_rfl)) (by decide) (fun K hK => ?_)
  refine goes_ Try.func31 (by kernel_rfl) rfl #[vp, .int .i64 (wrap64 ((s.la : Int) - a.n))] (by rfl) rfl rfl (by simp only [List.map_toArray, List.map_cons, List.map_nil]; rfl) ?_
  rw [HX0.out, HVP.out]
  with_reducible refine (cut_R x0 HBQ.out.ra).mono ?_
  rintro e w3 ⟨rfl, hr3, hf3⟩
  rw [← HCC.out.1]
  have m1r : w3.cell? ⟨W.heap.size, 1, none⟩ = some (.int .i64 a.n) := (blk_cell (hf3.blk HBX9.out (fun hk => by obtain ⟨cs, t, h1, h2, h3, h4⟩ := own1_type HBQ.out.ra _ hk; have h5 := HBX9.out; have := H.out.ra; cases hk; exact absurd (World.block_lt_of_cell? W ⟨W.heap.size, 384, none⟩ (by obtain ⟨_, E, hR, _⟩ := this; exact (RingAt_cells hR).1)) (Nat.lt_irrefl _))) 1).trans rfl
  have HR3 := Aside0.mk hr3
  have HX3 := Aside0.mk (XAt_ring HBQ.out.xa HBQ.out.ra hf3)
  have HF3 := Aside0.mk ((Frm.of_below HFQ.out (mine base ok)).then_ (mine_ring HBQ.out.ra hf3) (fun k hk _ => hk))
  clear hr3 hf3
  refine ⟨_, rfl, ?_⟩
  refine hK.out _ _ (m1r) (fun hHeld => ?_)
  clear hK K
  refine norm_ (a' := ?_) ?_ ?_
  rotate_left
  · show Act.put _ (some 76) _ = _
    simp only [Act.put, List.setIfInBounds_toArray, List.set_cons_zero, List.set_cons_succ, i64_w, i32_w]
    rfl
  refine one_ (i := 11) (N := some 82) #[true, true, true, true, true, true, true, true, true, true, true, true, false, false] rfl rfl (one_of HT_.out (by kernel_rfl)) (by decide) (fun K hK => ?_)
  refine goes_ Try.func48 (by kernel_rfl) rfl #[.pointer (some ⟨g, 0, none⟩), .int .i64 (x0)] (by rfl) rfl rfl (by simp only [List.map_toArray, List.map_cons, List.map_nil]; rfl) ?_
  try rw [HX0.out]
  with_reducible refine (xcut_C HX3.out HL.out x0 (fun hz => (H.out.lk.cut_d HOK.out x0 (by rw [← H.out.lk.code]; exact hz)).1)).mono ?_
  rintro e w4 ⟨rfl, hx4, hf4⟩
  rw [HCC.out.2]
  have m1s : w4.cell? ⟨W.heap.size, 1, none⟩ = some (.int .i64 a.n) := hf4_cell m1r hf4 (fun e => absurd (XAt_lt H.out.xa) (by have e : W.heap.size = g := e; rw [← e]; exact Nat.lt_irrefl _))
  have HP4 := Aside0.mk (show Played W base ok p g x w4 from ⟨⟨_, _, ⟨RingIs_ref HR3.out HX3.out (frm_g hf4), hx4, H.out.lk.cut H.out.ra.1 x0⟩, by exact Nat.le_succ_of_le (x.cut_len _)⟩, HF3.out.then_ (mine_ref HX3.out (frm_g hf4)) (fun k hk _ => hk)⟩)
  clear hx4 hf4
  refine ⟨_, rfl, ?_⟩
  refine hK.out _ _ (m1s) (fun hHeld => ?_)
  clear hK K
  refine norm_ (a' := ?_) ?_ ?_
  rotate_left
  · show Act.put _ (some 82) _ = _
    simp only [Act.put, List.setIfInBounds_toArray, List.set_cons_zero, List.set_cons_succ, i64_w, i32_w]
    rfl
  refine pure_ (i := 12) (N := some 83) (v := ?_) (a' := ?_) #[true, true, true, true, true, true, true, true, true, true, true, true, true, false] rfl rfl (any_of HT_.out (by kernel_rfl)) (fun _ _ _ h => h) (Or.inl ⟨by rfl, ?_⟩) ?_ ?_
  rotate_left
  · intro w'
    go_simp
    with_reducible rfl
  rotate_left
  · simp only [Act.put, List.setIfInBounds_toArray, List.set_cons_zero, List.set_cons_succ, i64_w, i32_w]
    rfl
  refine pure_ (i := 13) (N := some 6) (v := ?_) (a' := ?_) #[true, true, true, true, true, true, true, true, true, true, true, true, true, true] rfl rfl (any_of HT_.out (by kernel_rfl)) (fun _ _ _ h => h) (Or.inl ⟨by rfl, ?_⟩) ?_ ?_
  rotate_left
  · intro w'
    go_simp
    with_reducible rfl
  rotate_left
  · simp only [Act.put, List.setIfInBounds_toArray, List.set_cons_zero, List.set_cons_succ, i64_w, i32_w]
    rfl
  refine done_ (done_of HT_.out (by kernel_rfl)) ?_
  go_wp2
  go_ret
  exact ⟨rfl, HP4.out⟩
set_option maxHeartbeats 8000000 in
set_option maxRecDepth 100000 in
theorem played_k6 (h : Both W base ok p g s x) (a : S47) (A : Option Addr) (n c : Nat) (hn : a.e.f5.length = n) (hC : ∀ W', Frm W W' (mine base ok) → Kd.C k55 W' A n a.e.f5) (hnc : n ≤ c) (hm : opsOk a.e) (hbase : base ≤ W.heap.size) (hfresh : ∀ k, W.heap.size ≤ k → ok k) (hlen : x.l.length ≤ 4294967295) (k1 : (a.k == 1) = false) (k2 : (a.k == 2) = false) (k3 : (a.k == 3) = false) (k4 : (a.k == 4) = false) (k5 : (a.k == 5) = false) (k6 : (a.k == 6) = true) :
    Calls Try.prog 26 #[ptr p, .pointer (some ⟨g, 0, none⟩), actV a (.slice A n c)] W fun r w' => r = .returned (.bool true) ∧ Played W base ok p g x w' := by
  have H := Aside0.mk h
  have HL := Aside0.mk (show x.l.length ≤ 4294967296 by omega)
  have HC := Aside0.mk hC
  have HN := Aside0.mk (And.intro hn (And.intro hnc hm))
  have HFR := Aside0.mk (And.intro hbase hfresh)
  obtain ⟨vp, hvp⟩ : ∃ vp, vp = ptr p := ⟨_, rfl⟩
  rw [← hvp]
  have HVP := Aside0.mk hvp
  have HLA := Aside0.mk h.lk.la
  have HFL := Aside0.mk h.lk.xfl
  have HOK := Aside0.mk h.ra.1
  have hlas : s.la ≤ 2147483647 := h.ra.1.2.2.2.2.1
  clear hvp h hlen hC hn hnc hm hbase hfresh
  obtain ⟨x0, hx0⟩ : ∃ x0, a.n = x0 := ⟨_, rfl⟩
  obtain ⟨cc, hcc⟩ : ∃ cc, cc = s.code x0 := ⟨_, rfl⟩
  have HCC := Aside0.mk (And.intro hcc ((H.out.lk.code x0).trans hcc.symm))
  have hccc : (cc == cc) = true := by simp
  have HX0 := Aside0.mk hx0
  clear hx0 hcc
  unfold actV
  have hbx0 : (W.alloc (.cells #[.int .i64 a.k, .int .i64 a.n, .int .i64 a.m, .int .i64 a.e.f0, .int .i64 a.e.f1, .int .i64 a.e.f2, .int .i64 a.e.f3, .int .i64 a.e.f4, .slice A n c] 47)).heap[W.heap.size]? = some (.cells #[.int .i64 a.k, .int .i64 a.n, .int .i64 a.m, .int .i64 a.e.f0, .int .i64 a.e.f1, .int .i64 a.e.f2, .int .i64 a.e.f3, .int .i64 a.e.f4, .slice A n c] 47) := heap_alloc_new W _
  have hB0 : Below W.heap.size W (W.alloc (.cells #[.int .i64 a.k, .int .i64 a.n, .int .i64 a.m, .int .i64 a.e.f0, .int .i64 a.e.f1, .int .i64 a.e.f2, .int .i64 a.e.f3, .int .i64 a.e.f4, .slice A n c] 47)) := below_alloc (Below.refl _ _) _
  obtain ⟨W1, hW1⟩ : ∃ W1, W1 = W.alloc (.cells #[.int .i64 a.k, .int .i64 a.n, .int .i64 a.m, .int .i64 a.e.f0, .int .i64 a.e.f1, .int .i64 a.e.f2, .int .i64 a.e.f3, .int .i64 a.e.f4, .slice A n c] 47) := ⟨_, rfl⟩
  rw [← hW1] at hbx0 hB0
  have m0 : W1.cell? ⟨W.heap.size, 0, none⟩ = some (.int .i64 a.k) := (blk_cell hbx0 0).trans rfl
  have m1 : W1.cell? ⟨W.heap.size, 1, none⟩ = some (.int .i64 a.n) := (blk_cell hbx0 1).trans rfl
  have HBX := Aside0.mk hbx0
  have HB0 := Aside0.mk hB0
  have HW1 := Aside0.mk hW1
  clear hbx0 hB0 hW1
  go_enter Try.func26, Try.ntmps26
  go_wp2_with fail
  rw [← HW1.out]
  refine (xlast_C (XAt_below H.out.xa HB0.out) HL.out).mono ?_
  rintro e w1 ⟨rfl, ⟨⟨n1, rfl⟩⟩⟩
  rw [HLA.out]
  go_wp2_with fail
  refine (xfloor_C (x := x) (XAt_below H.out.xa (pw_below_drewN HB0.out _)) HL.out).mono ?_
  rintro e w2 ⟨rfl, ⟨⟨n2, rfl⟩⟩⟩
  rw [HFL.out]
  go_wp2
  obtain ⟨Wq, hWq⟩ : ∃ Wq, Wq = W1.drewN (n1 + n2) := ⟨_, rfl⟩
  rw [← hWq]
  have hBq : Below W.heap.size W Wq.drew := by rw [hWq]; exact below_drew (pw_below_drewN HB0.out _)
  have m1q : Wq.drew.cell? ⟨W.heap.size, 1, none⟩ = some (.int .i64 a.n) := by rw [hWq]; exact m1
  have hbq : Wq.drew.heap[W.heap.size]? = some (.cells #[.int .i64 a.k, .int .i64 a.n, .int .i64 a.m, .int .i64 a.e.f0, .int .i64 a.e.f1, .int .i64 a.e.f2, .int .i64 a.e.f3, .int .i64 a.e.f4, .slice A n c] 47) := by rw [hWq]; exact HBX.out
  have HBQ := Aside0.mk (H.out.below hBq)
  have HFQ := Aside0.mk hBq
  have HBX9 := Aside0.mk hbq
  clear hBq hbq hWq m0 m1
  refine start_ (n := 10) (S := fun w' => w'.cell? ⟨W.heap.size, 1, none⟩ = some (.int .i64 a.n)) (ds := []) #[false, false, false, false, false, false, false, false, false, false] (by kernel_rfl) rfl rfl (m1q) (fun hHeld => ?_)
  refine with_tabW rg26.tab16 rg26.bits16 (fun HT_ HW_ => ?_)
  refine pure_ (i := 0) (N := some 86) (v := ?_) (a' := ?_) #[true, false, false, false, false, false, false, false, false, false] rfl rfl (any_of HT_.out (by kernel_rfl)) (fun _ _ _ h => h) (Or.inl ⟨by rfl, ?_⟩) ?_ ?_
  rotate_left
  · intro w'
    go_simp
    with_reducible rfl
  rotate_left
  · simp only [Act.put, List.setIfInBounds_toArray, List.set_cons_zero, List.set_cons_succ, i64_w, i32_w]
    rfl
  refine pure_ (i := 1) (N := some 87) (v := ?_) (a' := ?_) #[true, true, false, false, false, false, false, false, false, false] rfl rfl (any_of HT_.out (by kernel_rfl)) (fun _ _ _ h => h) (Or.inl ⟨by rfl, ?_⟩) ?_ ?_
  rotate_left
  · intro w'
    go_simp
    with_reducible rfl
  rotate_left
  · simp only [Act.put, List.setIfInBounds_toArray, List.set_cons_zero, List.set_cons_succ, i64_w, i32_w]
    rfl
  refine pure_ (i := 4) (N := some 90) (v := ?_) (a' := ?_) #[true, true, false, false, true, false, false, false, false, false] rfl rfl (any_of HT_.out (by kernel_rfl)) (fun _ _ _ h => h) (Or.inl ⟨by rfl, ?_⟩) ?_ ?_
  rotate_left
  · intro w'
    go_simp
    with_reducible rfl
  rotate_left
  · simp only [Act.put, List.setIfInBounds_toArray, List.set_cons_zero, List.set_cons_succ, i64_w, i32_w]
    rfl
  refine pure_ (i := 5) (N := some 91) (v := ?_) (a' := ?_) #[true, true, false, false, true, true, false, false, false, false] rfl rfl (any_of HT_.out (by kernel_rfl)) (fun _ _ _ h => h) (Or.inl ⟨by rfl, ?_⟩) ?_ ?_
  rotate_left
  · intro w'
    go_simp
    with_reducible rfl
  rotate_left
  · simp only [Act.put, List.setIfInBounds_toArray, List.set_cons_zero, List.set_cons_succ, i64_w, i32_w]
    rfl
  refine take_ (i := 2) (N := some 88) (v := ?_) (a' := ?_) #[true, true, true, false, true, true, false, false, false, false] rfl rfl (take_ofW HT_.out HW_.out (by kernel_rfl)) (fun _ _ _ h => h) (Or.inl ⟨by rfl, ?_⟩) hHeld ?_ ?_
  rotate_left
  · intro w' s0
    go_simp
    with_reducible rfl
  rotate_left
  · simp only [Act.put, List.setIfInBounds_toArray, List.set_cons_zero, List.set_cons_succ, i64_w, i32_w]
    rfl
  refine take_ (i := 6) (N := some 92) (v := ?_) (a' := ?_) #[true, true, true, false, true, true, true, false, false, false] rfl rfl (take_ofW HT_.out HW_.out (by kernel_rfl)) (fun _ _ _ h => h) (Or.inl ⟨by rfl, ?_⟩) hHeld ?_ ?_
  rotate_left
  · intro w' s0
    go_simp
    with_reducible rfl
  rotate_left
  · simp only [Act.put, List.setIfInBounds_toArray, List.set_cons_zero, List.set_cons_succ, i64_w, i32_w]
    rfl
  refine one_ (i := 3) (N := some 89) #[true, true, true, true, true, true, true, false, false, false] rfl rfl (one_of HT_.out (by kernel_rfl)) (by decide) (fun K hK => ?_)
  refine goes_ Try.func31 (by kernel_rfl) rfl #[vp, .int .i64 (a.n)] (by rfl) rfl rfl (by simp only [List.map_toArray, List.map_cons, List.map_nil]; rfl) ?_
  rw [HX0.out, HVP.out]
  with_reducible refine (cut_R x0 HBQ.out.ra).mono ?_
  rintro e w3 ⟨rfl, hr3, hf3⟩
  rw [← HCC.out.1]
  have m1r : w3.cell? ⟨W.heap.size, 1, none⟩ = some (.int .i64 a.n) := (blk_cell (hf3.blk HBX9.out (fun hk => by obtain ⟨cs, t, h1, h2, h3, h4⟩ := own1_type HBQ.out.ra _ hk; have h5 := HBX9.out; have := H.out.ra; cases hk; exact absurd (World.block_lt_of_cell? W ⟨W.heap.size, 384, none⟩ (by obtain ⟨_, E, hR, _⟩ := this; exact (RingAt_cells hR).1)) (Nat.lt_irrefl _))) 1).trans rfl
  have HR3 := Aside0.mk hr3
  have HX3 := Aside0.mk (XAt_ring HBQ.out.xa HBQ.out.ra hf3)
  have HF3 := Aside0.mk ((Frm.of_below HFQ.out (mine base ok)).then_ (mine_ring HBQ.out.ra hf3) (fun k hk _ => hk))
  clear hr3 hf3
  refine ⟨_, rfl, ?_⟩
  refine hK.out _ _ (m1r) (fun hHeld => ?_)
  clear hK K
  refine norm_ (a' := ?_) ?_ ?_
  rotate_left
  · show Act.put _ (some 89) _ = _
    simp only [Act.put, List.setIfInBounds_toArray, List.set_cons_zero, List.set_cons_succ, i64_w, i32_w]
    rfl
  refine one_ (i := 7) (N := some 93) #[true, true, true, true, true, true, true, true, false, false] rfl rfl (one_of HT_.out (by kernel_rfl)) (by decide) (fun K hK => ?_)
  refine goes_ Try.func48 (by kernel_rfl) rfl #[.pointer (some ⟨g, 0, none⟩), .int .i64 (x0)] (by rfl) rfl rfl (by simp only [List.map_toArray, List.map_cons, List.map_nil]; rfl) ?_
  try rw [HX0.out]
  with_reducible refine (xcut_C HX3.out HL.out x0 (fun hz => (H.out.lk.cut_d HOK.out x0 (by rw [← H.out.lk.code]; exact hz)).1)).mono ?_
  rintro e w4 ⟨rfl, hx4, hf4⟩
  rw [HCC.out.2]
  have m1s : w4.cell? ⟨W.heap.size, 1, none⟩ = some (.int .i64 a.n) := hf4_cell m1r hf4 (fun e => absurd (XAt_lt H.out.xa) (by have e : W.heap.size = g := e; rw [← e]; exact Nat.lt_irrefl _))
  have HP4 := Aside0.mk (show Played W base ok p g x w4 from ⟨⟨_, _, ⟨RingIs_ref HR3.out HX3.out (frm_g hf4), hx4, H.out.lk.cut H.out.ra.1 x0⟩, by exact Nat.le_succ_of_le (x.cut_len _)⟩, HF3.out.then_ (mine_ref HX3.out (frm_g hf4)) (fun k hk _ => hk)⟩)
  clear hx4 hf4
  refine ⟨_, rfl, ?_⟩
  refine hK.out _ _ (m1s) (fun hHeld => ?_)
  clear hK K
  refine norm_ (a' := ?_) ?_ ?_
  rotate_left
  · show Act.put _ (some 93) _ = _
    simp only [Act.put, List.setIfInBounds_toArray, List.set_cons_zero, List.set_cons_succ, i64_w, i32_w]
    rfl
  refine pure_ (i := 8) (N := some 94) (v := ?_) (a' := ?_) #[true, true, true, true, true, true, true, true, true, false] rfl rfl (any_of HT_.out (by kernel_rfl)) (fun _ _ _ h => h) (Or.inl ⟨by rfl, ?_⟩) ?_ ?_
  rotate_left
  · intro w'
    go_simp
    with_reducible rfl
  rotate_left
  · simp only [Act.put, List.setIfInBounds_toArray, List.set_cons_zero, List.set_cons_succ, i64_w, i32_w]
    rfl
  refine pure_ (i := 9) (N := some 6) (v := ?_) (a' := ?_) #[true, true, true, true, true, true, true, true, true, true] rfl rfl (any_of HT_.out (by kernel_rfl)) (fun _ _ _ h => h) (Or.inl ⟨by rfl, ?_⟩) ?_ ?_
  rotate_left
  · intro w'
    go_simp
    with_reducible rfl
  rotate_left
  · simp only [Act.put, List.setIfInBounds_toArray, List.set_cons_zero, List.set_cons_succ, i64_w, i32_w]
    rfl
  refine done_ (done_of HT_.out (by kernel_rfl)) ?_
  go_wp2
  go_ret
  exact ⟨rfl, HP4.out⟩
end
end Go.Proofs.Ytcbejpmmlcdhnaa.PW
namespace Go.Proofs.Ytcbejpmmlcdhnaa.PW
open Go.RowKit Go.Proofs.YtcbejpmmlcdhnaaW.PrintWords Go.Proofs.YtcbejpmmlcdhnaaW.PrintLast Go.Proofs.YtcbejpmmlcdhnaaW.PrintMore
set_option linter.unusedVariables false
set_option linter.unusedSimpArgs false

theorem played_B {W : World} {base g : Nat} {ok : Nat → Prop} {p : Option Nat} {s : RS} {x : XS} (h : Both W base ok p g s x) (a : S47) (A : Option Addr) (n c : Nat) (hn : a.e.f5.length = n) (hC : ∀ W', Frm W W' (mine base ok) → Kd.C k55 W' A n a.e.f5) (hnc : n ≤ c) (hm : opsOk a.e) (hbase : base ≤ W.heap.size) (hfresh : ∀ k, W.heap.size ≤ k → ok k) (hlen : x.l.length ≤ 4294967295) :
    Calls Try.prog 26 #[ptr p, .pointer (some ⟨g, 0, none⟩), actV a (.slice A n c)] W fun r w' => r = .returned (.bool true) ∧ Played W base ok p g x w' := by
  cases k1 : a.k == 1 with
  | true => exact played_k1 h a A n c hn hC hnc hm hbase hfresh hlen k1
  | false =>
    cases k2 : a.k == 2 with
    | true => exact played_k2 h a A n c hn hC hnc hm hbase hfresh hlen k1 k2
    | false =>
      cases k3 : a.k == 3 with
      | true => exact played_k3 h a A n c hn hC hnc hm hbase hfresh hlen k1 k2 k3
      | false =>
        cases k4 : a.k == 4 with
        | true => exact played_k4 h a A n c hn hC hnc hm hbase hfresh hlen k1 k2 k3 k4
        | false =>
          cases k5 : a.k == 5 with
          | true => exact played_k5 h a A n c hn hC hnc hm hbase hfresh hlen k1 k2 k3 k4 k5
          | false =>
            cases k6 : a.k == 6 with
            | true => exact played_k6 h a A n c hn hC hnc hm hbase hfresh hlen k1 k2 k3 k4 k5 k6
            | false =>
              cases k7 : a.k == 7 with
              | true => exact played_k7 h a A n c hn hC hnc hm hbase hfresh hlen k1 k2 k3 k4 k5 k6 k7
              | false =>
                cases k9 : a.k == 9 with
                | true => exact played_k9 h a A n c hn hC hnc hm hbase hfresh hlen k1 k2 k3 k4 k5 k6 k7 k9
                | false =>
                  cases k8 : a.k == 8 with
                  | true => exact played_k8 h a A n c hn hC hnc hm hbase hfresh hlen k1 k2 k3 k4 k5 k6 k7 k9 k8
                  | false =>
                    cases k10 : a.k == 10 with
                    | true => exact played_k10 h a A n c hn hC hnc hm hbase hfresh hlen k1 k2 k3 k4 k5 k6 k7 k9 k8 k10
                    | false =>
                      cases k11 : a.k == 11 with
                      | true => exact played_k11 h a A n c hn hC hnc hm hbase hfresh hlen k1 k2 k3 k4 k5 k6 k7 k9 k8 k10 k11
                      | false =>
                        cases k12 : a.k == 12 with
                        | true => exact played_k12 h a A n c hn hC hnc hm hbase hfresh hlen k1 k2 k3 k4 k5 k6 k7 k9 k8 k10 k11 k12
                        | false =>
                          exact played_none h a A n c hn hC hnc hm hbase hfresh hlen k1 k2 k3 k4 k5 k6 k7 k9 k8 k10 k11 k12
end Go.Proofs.Ytcbejpmmlcdhnaa.PW
namespace Go.Proofs.Ytcbejpmmlcdhnaa.PW
open Go.RowKit Go.Proofs.YtcbejpmmlcdhnaaW.PrintWords Go.Proofs.YtcbejpmmlcdhnaaW.PrintLast Go.Proofs.YtcbejpmmlcdhnaaW.PrintMore
set_option linter.unusedVariables false
set_option linter.unusedSimpArgs false

set_option maxHeartbeats 16000000 in
set_option maxRecDepth 100000 in
theorem ringPlays_no (a0 a1 a2 : Int) (v : Value) (w : World) (h : ¬ (1 ≤ a0 ∧ a0 ≤ 64 ∧ isB a1 = true ∧ isB a2 = true)) :
    Calls Try.prog 7 #[.int .i64 a0, .int .i64 a1, .int .i64 a2, v] w fun e w' => e = .returned (.bool true) ∧ Below w.heap.size w w' := by
  by_cases hr : 1 ≤ a0 ∧ a0 ≤ 64
  · have h2 : (isB a1 && isB a2) = false := by
      cases h1 : isB a1 with
      | false => rfl
      | true =>
        cases h2 : isB a2 with
        | false => rfl
        | true => exact absurd ⟨hr.1, hr.2, h1, h2⟩ h
    have HH := Aside0.mk (And.intro hr.1 (And.intro hr.2 h2))
    clear h hr h2
    go_enter Try.func7, Try.ntmps7
    go_wp2_with fail
    refine (begins_R w).mono ?_
    rintro e w1 ⟨rfl, hb⟩
    have HB := Aside0.mk hb
    clear hb
    go_wp2_with fail
    refine (new_num a0 a1 a2 w1 HH.out.1 HH.out.2.1 HH.out.2.2).mono ?_
    rintro e w2 ⟨rfl, hw2⟩
    obtain rfl := hw2
    go_wp2_with fail
    refine (xnew_num a0 a1 a2 w2 HH.out.1 HH.out.2.1 HH.out.2.2).mono ?_
    rintro e w3 ⟨rfl, hw3⟩
    obtain rfl := hw3
    go_wp2
    go_ret
    exact ⟨rfl, HB.out⟩
  · have HH := Aside0.mk (show a0 < 1 ∨ 64 < a0 by omega)
    clear h hr
    go_enter Try.func7, Try.ntmps7
    go_wp2_with fail
    refine (begins_R w).mono ?_
    rintro e w1 ⟨rfl, hb⟩
    have HB := Aside0.mk hb
    clear hb
    go_wp2_with fail
    refine (new_room a0 a1 a2 w1 HH.out).mono ?_
    rintro e w2 ⟨rfl, hw2⟩
    obtain rfl := hw2
    go_wp2_with fail
    refine (xnew_room a0 a1 a2 w2 HH.out).mono ?_
    rintro e w3 ⟨rfl, hw3⟩
    obtain rfl := hw3
    go_wp2
    go_ret
    exact ⟨rfl, HB.out⟩
theorem mine_below {w wr W' : World} {ok : Nat → Prop} (hB : Below w.heap.size w wr) (hf : Frm wr W' (mine w.heap.size ok)) : Below w.heap.size w W' :=
  hB.trans (hf.below (B := w.heap.size) (fun k hk _ => hk.1) hB.size)
set_option maxHeartbeats 32000000 in
set_option maxRecDepth 100000 in
theorem ringPlays_in (room fl : Nat) (o : Int) (A : Option Addr) (n c : Nat) (L : List S47) (w : World) (h1 : 1 ≤ room) (h2 : room ≤ 64) (hfl : fl ≤ 2147483647) (ho : isB o = true)
    (hn : L.length = n) (hC : Kd.C k47 w A n L) (hnc : n ≤ c) (hok : ∀ a ∈ L, opsOk a.e) :
    Calls Try.prog 7 #[.int .i64 (room : Int), .int .i64 (fl : Int), .int .i64 o, .slice A n c] w fun e w' => e = .returned (.bool true) ∧ Below w.heap.size w w' := by
  have HC := Aside0.mk hC
  have HN := Aside0.mk hn
  have HO := Aside0.mk ho
  have HOK := Aside0.mk hok
  clear hC hn ho hok
  go_enter Try.func7, Try.ntmps7
  go_wp2_with fail
  refine (begins_R w).mono ?_
  rintro e w1 ⟨rfl, hb⟩
  have HB := Aside0.mk hb
  clear hb
  go_wp2_with fail
  refine (new_R (base := w.heap.size) (ok := fun _ => True) room fl o h1 h2 hfl HO.out HB.out.size trivial).mono ?_
  rintro e w2 ⟨rfl, hr, hb⟩
  have HR2 := Aside0.mk hr
  have HB2 := Aside0.mk (below_step HB.out hb)
  clear hr hb
  go_wp2_with fail
  refine (xnew_C room fl o w2 h1 h2 hfl HO.out (base := w.heap.size) (ok := fun _ => True) HB2.out.size trivial).mono ?_
  rintro e w3 ⟨rfl, hx, hb⟩
  have HBO := Aside0.mk (Both.mk (RingIs_below HR2.out hb) hx (Link.new room fl o))
  have HB3 := Aside0.mk (below_step HB2.out hb)
  obtain ⟨b, hb1⟩ : ∃ b, b = w1.heap.size := ⟨_, rfl⟩
  obtain ⟨g, hg1⟩ : ∃ g, g = w2.heap.size := ⟨_, rfl⟩
  rw [← hb1, ← hg1] at HBO
  rw [← hb1, ← hg1]
  clear hx hb hb1 hg1 HR2 HB2 HB
  go_wp2
  go_loopw [14, 15] (fun v14 v15 wr => ∃ (k : Nat) (s : RS) (x : XS), k ≤ n ∧ v14 = .int .i64 (k : Int) ∧ Aside0 (Both wr w.heap.size (fun _ => True) (some b) g s x) ∧ Aside0 (x.l.length ≤ k ∧ k ≤ 120) ∧ Aside0 (Below w.heap.size w wr)) (fun v14 _ _ => n - (intOf v14).toNat)
  case atStart => exact ⟨0, _, _, Nat.zero_le _, rfl, HBO, ⟨⟨Nat.zero_le _, by omega⟩⟩, HB3⟩
  case round =>
    obtain ⟨k, s, x, hk, rfl, HBO, HK, HW⟩ := hrel
    by_cases hlt : k < n
    · have hd : decide ((k : Int) < (n : Int)) = true := decide_eq_true (by omega)
      have hdn : decide (k < n) = true := decide_eq_true hlt
      by_cases hlt2 : k < 120
      · have hd2 : decide ((k : Int) < 120) = true := decide_eq_true (by omega)
        have hd2n : decide (k < 120) = true := decide_eq_true hlt2
        obtain ⟨ad, A5, c5, hA, hcells, hxl, hxc⟩ := at_T47 HC.out k hlt
        subst hA
        obtain ⟨a, ha⟩ : ∃ a, a = rd_T47 L (k : Int) := ⟨_, rfl⟩
        rw [← ha] at hcells hxl hxc
        have hopa : opsOk a.e := by rw [ha]; exact HOK.out _ (rd_T47_mem (by rw [HN.out]; exact hlt))
        have HOP := Aside0.mk hopa
        obtain ⟨m5, hm5⟩ : ∃ m5, a.e.f5.length = m5 := ⟨_, rfl⟩
        rw [hm5] at hcells hxl hxc
        have HXL := Aside0.mk hxl
        have HXC := Aside0.mk hxc
        have HM5 := Aside0.mk hm5
        obtain ⟨x0, x1, x2, x3, x4, x5, x6, x7, x8⟩ := hcells
        replace x0 := pw_cell_below HW.out x0
        replace x1 := pw_cell_below HW.out x1
        replace x2 := pw_cell_below HW.out x2
        replace x3 := pw_cell_below HW.out x3
        replace x4 := pw_cell_below HW.out x4
        replace x5 := pw_cell_below HW.out x5
        replace x6 := pw_cell_below HW.out x6
        replace x7 := pw_cell_below HW.out x7
        replace x8 := pw_cell_below HW.out x8
        clear ha hxl hxc hopa hm5
        go_wp2_with fail
        refine (played_B HBO.out a A5 m5 c5 HM5.out (fun W' hf => Kd.C_below HXC.out (mine_below HW.out hf)) HXL.out HOP.out HW.out.size (fun _ _ => trivial) (by have := HK.out; omega)).mono ?_
        rintro e w4 ⟨rfl, ⟨s1, x1', hb4, hl4⟩, hf4⟩
        have HB4 := Aside0.mk hb4
        have HL4 := Aside0.mk hl4
        have HW4 := Aside0.mk (mine_below HW.out hf4)
        clear x0 x1 x2 x3 x4 x5 x6 x7 x8 hb4 hl4 hf4
        go_wp2_with fail
        refine (stands_B (p := some b) HB4.out (by have := HK.out; have := HL4.out; omega)).mono ?_
        rintro e w5 ⟨rfl, hb5⟩
        have HB5 := Aside0.mk (HB4.out.below hb5)
        have HW5 := Aside0.mk (below_step HW4.out hb5)
        clear hb5
        go_wp2
        go_roundw
        case rel => exact ⟨k + 1, s1, x1', by omega, by go_num, HB5, ⟨⟨by have := HK.out; have := HL4.out; omega, by omega⟩⟩, HW5⟩
        case measure => simp [intOf]; omega
      · have hd2 : decide ((k : Int) < 120) = false := decide_eq_false (by omega)
        have hd2n : decide (k < 120) = false := decide_eq_false hlt2
        go_wp2_with fail
        refine (stands_B (p := some b) HBO.out (by have := HK.out; omega)).mono ?_
        rintro e w5 ⟨rfl, hb5⟩
        have HW5 := Aside0.mk (below_step HW.out hb5)
        clear hb5
        go_wp2
        go_ret
        exact ⟨rfl, HW5.out⟩
    · have hd : decide ((k : Int) < (n : Int)) = false := decide_eq_false (by omega)
      have hdn : decide (k < n) = false := decide_eq_false hlt
      go_wp2_with fail
      refine (stands_B (p := some b) HBO.out (by have := HK.out; omega)).mono ?_
      rintro e w5 ⟨rfl, hb5⟩
      have HW5 := Aside0.mk (below_step HW.out hb5)
      clear hb5
      go_wp2
      go_ret
      exact ⟨rfl, HW5.out⟩
theorem ringPlays_walk (a0 a1 a2 : Int) (A : Option Addr) (n c : Nat) (L : List S47) (w : World) (hn : L.length = n) (hC : Kd.C k47 w A n L) (hnc : n ≤ c) (hok : ∀ a ∈ L, opsOk a.e) :
    Calls Try.prog 7 #[.int .i64 a0, .int .i64 a1, .int .i64 a2, .slice A n c] w fun e w' => e = .returned (.bool true) ∧ Below w.heap.size w w' := by
  by_cases h : 1 ≤ a0 ∧ a0 ≤ 64 ∧ isB a1 = true ∧ isB a2 = true
  · obtain ⟨h1, h2, h3, h4⟩ := h
    have h5 := isB_yes h3
    obtain ⟨r, rfl⟩ : ∃ r : Nat, a0 = r := ⟨a0.toNat, by omega⟩
    obtain ⟨f, rfl⟩ : ∃ f : Nat, a1 = f := ⟨a1.toNat, by omega⟩
    exact ringPlays_in r f a2 A n c L w (by omega) (by omega) (by omega) h4 hn hC hnc hok
  · exact ringPlays_no a0 a1 a2 _ w h
end Go.Proofs.Ytcbejpmmlcdhnaa.PW
namespace Go.Proofs.Ytcbejpmmlcdhnaa.PW
open Go.RowKit Go.Proofs.YtcbejpmmlcdhnaaW.PrintWords Go.Proofs.YtcbejpmmlcdhnaaW.PrintLast Go.Proofs.YtcbejpmmlcdhnaaW.PrintMore
set_option linter.unusedVariables false
set_option linter.unusedSimpArgs false

theorem ring66_zero : ring66 0 0 0 0 0 = zero66 := by kernel_rfl
theorem zero_ok : RS.zero.ok := ⟨by decide, by decide, by decide, by decide, by decide, fun e he => by cases he⟩
/-- Two pairs, apart. -/
structure Apart (W : World) (base : Nat) (O1 O2 : Nat → Prop) (b g1 g2 : Nat) (s1 : RS) (x1 : XS) (s2 : RS) (x2 : XS) : Prop where
  a1 : Both W base O1 none g1 s1 x1
  a2 : Both W base O2 (some b) g2 s2 x2
  ap : ∀ k, O1 k → ¬ O2 k
  b1 : ∀ k, O1 k → k < W.heap.size
  b2 : ∀ k, O2 k → k < W.heap.size
section
variable {W W' : World} {base b g1 g2 : Nat} {O1 O2 : Nat → Prop} {s1 s2 s' : RS} {x1 x2 x' : XS}
theorem Apart.below (h : Apart W base O1 O2 b g1 g2 s1 x1 s2 x2) (hb : Below W.heap.size W W') : Apart W' base O1 O2 b g1 g2 s1 x1 s2 x2 :=
  ⟨h.a1.below hb, h.a2.below hb, h.ap, fun k hk => Nat.lt_of_lt_of_le (h.b1 k hk) hb.size, fun k hk => Nat.lt_of_lt_of_le (h.b2 k hk) hb.size⟩
theorem Apart.first (h : Apart W base O1 O2 b g1 g2 s1 x1 s2 x2) (hb : Both W' base (fun k => O1 k ∨ W.heap.size ≤ k) none g1 s' x') (hf : Frm W W' (mine base (fun k => O1 k ∨ W.heap.size ≤ k))) :
    Apart W' base (fun k => (O1 k ∨ W.heap.size ≤ k) ∧ k < W'.heap.size) O2 b g1 g2 s' x' s2 x2 := by
  refine ⟨hb.bound, h.a2.step (fun k hk hlt => hf.block k hlt ?_), ?_, fun k hk => hk.2, fun k hk => Nat.lt_of_lt_of_le (h.b2 k hk) hf.size⟩
  · rintro ⟨_, h1 | h1⟩
    · exact h.ap k h1 hk
    · omega
  · rintro k ⟨h1 | h1, _⟩ h2
    · exact h.ap k h1 h2
    · have := h.b2 k h2
      omega
theorem Apart.second (h : Apart W base O1 O2 b g1 g2 s1 x1 s2 x2) (hb : Both W' base (fun k => O2 k ∨ W.heap.size ≤ k) (some b) g2 s' x') (hf : Frm W W' (mine base (fun k => O2 k ∨ W.heap.size ≤ k))) :
    Apart W' base O1 (fun k => (O2 k ∨ W.heap.size ≤ k) ∧ k < W'.heap.size) b g1 g2 s1 x1 s' x' := by
  refine ⟨h.a1.step (fun k hk hlt => hf.block k hlt ?_), hb.bound, ?_, fun k hk => Nat.lt_of_lt_of_le (h.b1 k hk) hf.size, fun k hk => hk.2⟩
  · rintro ⟨_, h1 | h1⟩
    · exact h.ap k hk h1
    · omega
  · rintro k h2 ⟨h1 | h1, _⟩
    · exact h.ap k h2 h1
    · have := h.b1 k h2
      omega
end
set_option maxHeartbeats 32000000 in
set_option maxRecDepth 100000 in
theorem ringOfNothing_walk (A : Option Addr) (n c : Nat) (L : List S47) (w : World) 
    (hn : L.length = n) (hC : Kd.C k47 w A n L) (hnc : n ≤ c) (hok : ∀ a ∈ L, opsOk a.e) :
    Calls Try.prog 8 #[.slice A n c] w fun e w' => e = .returned (.bool true) ∧ Below w.heap.size w w' := by
  have HC := Aside0.mk hC
  have HN := Aside0.mk hn
  have HOK := Aside0.mk hok
  clear hC hn hok
  have hz := zero66_run
  have hzs := zero66_size
  obtain ⟨Z, hZ⟩ : ∃ Z, Z = zero66 := ⟨_, rfl⟩
  rw [← hZ] at hz hzs
  have HZ := Aside0.mk hZ
  clear hZ
  go_enter Try.func8, Try.ntmps8
  go_wp2_with fail
  refine (begins_R w).mono ?_
  rintro e w1 ⟨rfl, hb⟩
  have HB := Aside0.mk hb
  clear hb
  go_wp2
  obtain ⟨c0, c1, c2, c3, hB3⟩ := blk3 w1 (.cells Z 66) (.cells #[.int .i64 0, .int .i64 0, .int .i64 0, .int .i64 0, .slice none 0 0, .int .i64 0] 68) (.cells #[.int .i64 0, .int .i64 0, .int .i64 0, .int .i64 0, .slice none 0 0, .int .i64 0] 68) rfl
  obtain ⟨w3, hw3⟩ : ∃ w3, w3 = ((w1.alloc (.cells Z 66)).alloc (.cells #[.int .i64 0, .int .i64 0, .int .i64 0, .int .i64 0, .slice none 0 0, .int .i64 0] 68)).alloc (.cells #[.int .i64 0, .int .i64 0, .int .i64 0, .int .i64 0, .slice none 0 0, .int .i64 0] 68) := ⟨_, rfl⟩
  rw [← hw3] at c0 c1 c2 c3 hB3 ⊢
  rw [HZ.out, ← ring66_zero] at c0
  have hs1 := HB.out.size
  have HAP := Aside0.mk (show Apart w3 w.heap.size (fun k => k = w1.heap.size + 1) (fun k => k = w1.heap.size ∨ k = w1.heap.size + 1 + 1) w1.heap.size (w1.heap.size + 1) (w1.heap.size + 1 + 1) RS.zero XS.zero RS.zero XS.zero from
    ⟨⟨⟨zero_ok, rfl⟩, ⟨by omega, rfl, Nat.le_refl _, none, 0, c1, Kd.S_nil _ _ _ _ _⟩, Link.zero⟩,
     ⟨⟨zero_ok, fun _ => z33, RingAt_new (by omega) (.inl rfl) c0, fun i hi => by simp [RS.zero] at hi⟩, ⟨by omega, .inr rfl, Nat.le_refl _, none, 0, c2, Kd.S_nil _ _ _ _ _⟩, Link.zero⟩,
     fun k h1 h2 => by omega, fun k h1 => by omega, fun k h1 => by omega⟩)
  have HB3 := Aside0.mk (below_step HB.out hB3)
  obtain ⟨b, hb1⟩ : ∃ b, b = w1.heap.size := ⟨_, rfl⟩
  obtain ⟨g1, hg1⟩ : ∃ g1, g1 = w1.heap.size + 1 := ⟨_, rfl⟩
  obtain ⟨g2, hg2⟩ : ∃ g2, g2 = w1.heap.size + 1 + 1 := ⟨_, rfl⟩
  rw [← hg2, ← hg1, ← hb1] at HAP
  rw [← hg2, ← hg1, ← hb1]
  clear c0 c1 c2 c3 hB3 hw3 hb1 hg1 hg2 hs1 HB hz hzs HZ
  go_loopw [8, 9, 10] (fun v8 v9 v10 wr => ∃ (k : Nat) (O1 O2 : Nat → Prop) (s1 : RS) (x1 : XS) (s2 : RS) (x2 : XS), k ≤ n ∧ v8 = .int .i64 (k : Int) ∧ Aside0 (Apart wr w.heap.size O1 O2 b g1 g2 s1 x1 s2 x2) ∧ Aside0 (x1.l.length ≤ k ∧ x2.l.length ≤ k ∧ k ≤ 40) ∧ Aside0 (Below w.heap.size w wr)) (fun v8 _ _ _ => n - (intOf v8).toNat)
  case atStart => exact ⟨0, _, _, _, _, _, _, Nat.zero_le _, rfl, HAP, ⟨⟨Nat.zero_le _, Nat.zero_le _, by omega⟩⟩, HB3⟩
  case round =>
    obtain ⟨k, O1, O2, s1, x1, s2, x2, hk, rfl, HAP, HK, HW⟩ := hrel
    by_cases hlt : k < n
    · have hd : decide ((k : Int) < (n : Int)) = true := decide_eq_true (by omega)
      have hdn : decide (k < n) = true := decide_eq_true hlt
      by_cases hlt2 : k < 40
      · have hd2 : decide ((k : Int) < 40) = true := decide_eq_true (by omega)
        have hd2n : decide (k < 40) = true := decide_eq_true hlt2
        obtain ⟨ad, A5, c5, hA, hcells, hxl, hxc⟩ := at_T47 HC.out k hlt
        subst hA
        obtain ⟨a, ha⟩ : ∃ a, a = rd_T47 L (k : Int) := ⟨_, rfl⟩
        rw [← ha] at hcells hxl hxc
        have hopa : opsOk a.e := by rw [ha]; exact HOK.out _ (rd_T47_mem (by rw [HN.out]; exact hlt))
        have HOP := Aside0.mk hopa
        obtain ⟨m5, hm5⟩ : ∃ m5, a.e.f5.length = m5 := ⟨_, rfl⟩
        rw [hm5] at hcells hxl hxc
        have HCELLS := Aside0.mk hcells
        have HXL := Aside0.mk hxl
        have HXC := Aside0.mk hxc
        have HM5 := Aside0.mk hm5
        obtain ⟨y0, y1, y2, y3, y4, y5, y6, y7, y8⟩ := hcells
        replace y0 := pw_cell_below HW.out y0
        replace y1 := pw_cell_below HW.out y1
        replace y2 := pw_cell_below HW.out y2
        replace y3 := pw_cell_below HW.out y3
        replace y4 := pw_cell_below HW.out y4
        replace y5 := pw_cell_below HW.out y5
        replace y6 := pw_cell_below HW.out y6
        replace y7 := pw_cell_below HW.out y7
        replace y8 := pw_cell_below HW.out y8
        clear ha hxl hxc hopa hm5
        go_wp2_with fail
        refine (played_B (p := none) (HAP.out.a1.mono (ok' := fun k => O1 k ∨ wr.heap.size ≤ k) (fun k hk => .inl hk)) a A5 m5 c5 HM5.out (fun W' hf => Kd.C_below HXC.out (mine_below HW.out hf)) HXL.out HOP.out HW.out.size (fun k hk => .inr hk) (by have := HK.out; omega)).mono ?_
        rintro e w4 ⟨rfl, ⟨t1, z1, hb4, hl4⟩, hf4⟩
        have HAP4 := Aside0.mk (HAP.out.first hb4 hf4)
        have HL4 := Aside0.mk hl4
        have HW4 := Aside0.mk (mine_below HW.out hf4)
        clear y0 y1 y2 y3 y4 y5 y6 y7 y8 hb4 hl4 hf4
        obtain ⟨y0, y1, y2, y3, y4, y5, y6, y7, y8⟩ := HCELLS.out
        replace y0 := pw_cell_below HW4.out y0
        replace y1 := pw_cell_below HW4.out y1
        replace y2 := pw_cell_below HW4.out y2
        replace y3 := pw_cell_below HW4.out y3
        replace y4 := pw_cell_below HW4.out y4
        replace y5 := pw_cell_below HW4.out y5
        replace y6 := pw_cell_below HW4.out y6
        replace y7 := pw_cell_below HW4.out y7
        replace y8 := pw_cell_below HW4.out y8
        go_wp2_with fail
        refine (played_B (p := some b) (HAP4.out.a2.mono (ok' := fun k => O2 k ∨ w4.heap.size ≤ k) (fun k hk => .inl hk)) a A5 m5 c5 HM5.out (fun W' hf => Kd.C_below HXC.out (mine_below HW4.out hf)) HXL.out HOP.out HW4.out.size (fun k hk => .inr hk) (by have := HK.out; omega)).mono ?_
        rintro e w5 ⟨rfl, ⟨t2, z2, hb5, hl5⟩, hf5⟩
        have HAP5 := Aside0.mk (HAP4.out.second hb5 hf5)
        have HL5 := Aside0.mk hl5
        have HW5 := Aside0.mk (mine_below HW4.out hf5)
        clear y0 y1 y2 y3 y4 y5 y6 y7 y8 hb5 hl5 hf5
        go_wp2_with fail
        refine (stands_B (p := none) HAP5.out.a1 (by have := HK.out; have := HL4.out; omega)).mono ?_
        rintro e w6 ⟨rfl, hb6⟩
        have HAP6 := Aside0.mk (HAP5.out.below hb6)
        have HW6 := Aside0.mk (below_step HW5.out hb6)
        clear hb6
        go_wp2_with fail
        refine (stands_B (p := some b) HAP6.out.a2 (by have := HK.out; have := HL5.out; omega)).mono ?_
        rintro e w7 ⟨rfl, hb7⟩
        have HAP7 := Aside0.mk (HAP6.out.below hb7)
        have HW7 := Aside0.mk (below_step HW6.out hb7)
        clear hb7
        go_wp2
        go_roundw
        case rel => exact ⟨k + 1, _, _, t1, z1, t2, z2, by omega, by go_num, HAP7, ⟨⟨by have := HK.out; have := HL4.out; omega, by have := HK.out; have := HL5.out; omega, by omega⟩⟩, HW7⟩
        case measure => simp [intOf]; omega
      · have hd2 : decide ((k : Int) < 40) = false := decide_eq_false (by omega)
        have hd2n : decide (k < 40) = false := decide_eq_false hlt2
        go_wp2_with fail
        refine (stands_B (p := none) HAP.out.a1 (by have := HK.out; omega)).mono ?_
        rintro e w6 ⟨rfl, hb6⟩
        have HAP6 := Aside0.mk (HAP.out.below hb6)
        have HW6 := Aside0.mk (below_step HW.out hb6)
        clear hb6
        go_wp2_with fail
        refine (stands_B (p := some b) HAP6.out.a2 (by have := HK.out; omega)).mono ?_
        rintro e w7 ⟨rfl, hb7⟩
        have HW7 := Aside0.mk (below_step HW6.out hb7)
        clear hb7
        go_wp2
        go_ret
        exact ⟨rfl, HW7.out⟩
    · have hd : decide ((k : Int) < (n : Int)) = false := decide_eq_false (by omega)
      have hdn : decide (k < n) = false := decide_eq_false hlt
      go_wp2_with fail
      refine (stands_B (p := none) HAP.out.a1 (by have := HK.out; omega)).mono ?_
      rintro e w6 ⟨rfl, hb6⟩
      have HAP6 := Aside0.mk (HAP.out.below hb6)
      have HW6 := Aside0.mk (below_step HW.out hb6)
      clear hb6
      go_wp2_with fail
      refine (stands_B (p := some b) HAP6.out.a2 (by have := HK.out; omega)).mono ?_
      rintro e w7 ⟨rfl, hb7⟩
      have HW7 := Aside0.mk (below_step HW6.out hb7)
      clear hb7
      go_wp2
      go_ret
      exact ⟨rfl, HW7.out⟩
end Go.Proofs.Ytcbejpmmlcdhnaa.PW
namespace Go.Proofs.Ytcbejpmmlcdhnaa.PW
open Go.ChangeShapes Go.WideShapes Go.ChangeAt Go.RowKit Go.Deep
open Go.Proofs.YtcbejpmmlcdhnaaW.PrintWords Go.Proofs.YtcbejpmmlcdhnaaW.PrintLast Go.Proofs.YtcbejpmmlcdhnaaW.PrintMore
set_option linter.unusedVariables false
set_option linter.unusedSimpArgs false

/-- No list in it is heavier than the form's own reach. -/
def Wt {H : Type} (t : TypeId) (d : DataW H) : Prop := ∀ n ∈ d.weights Try.prog t, n ≤ reachBytes
theorem mem_weightsAll {H : Type} {P : Program} {e : TypeId} {d : DataW H} {n : Nat} : ∀ {l : List (DataW H)}, d ∈ l → n ∈ d.weights P e → n ∈ DataW.weightsAll P e l
  | x :: r, hd, hn => by
    simp only [DataW.weightsAll, List.mem_append]
    rcases List.mem_cons.1 hd with rfl | hd
    · exact .inl hn
    · exact .inr (mem_weightsAll hd hn)
theorem c3 : Try.prog.cellsOf 3 = 1 := by kernel_rfl
theorem c9 : Try.prog.cellsOf 9 = 1 := by kernel_rfl
theorem c31 : Try.prog.cellsOf 31 = 1 := by kernel_rfl
theorem c55 : Try.prog.cellsOf 55 = 5 := by kernel_rfl
theorem c33 : Try.prog.cellsOf 33 = 6 := by kernel_rfl
theorem c47 : Try.prog.cellsOf 47 = 9 := by kernel_rfl
theorem bytes55 : Try.prog.bytesOf 55 = 56 := by kernel_rfl
instance : Inhabited S55 := ⟨z55⟩
instance : Inhabited S47 := ⟨z47⟩
section
variable {H : Type} {enc : TypeId × Value → H} {W : World}
theorem row_of {α : Type} [Inhabited α] {d : Kd α} {t e : TypeId} (ht : Try.prog.underlying t = some (.slice e)) (hc : Try.prog.cellsOf e = d.sz) (good : α → Prop)
    (hopen : ∀ (n : Nat) (cs : List Value) (x : DataW H × List MemPlace), DataW.trod enc Try.prog W 0 (fun _ => true) true n e cs = some x → Wt e x.1 → ∃ y, d.K W y cs ∧ good y)
    {n : Nat} {cs : List Value} {x : DataW H × List MemPlace} (h : DataW.trod enc Try.prog W 0 (fun _ => true) true n t cs = some x) (hw : Wt t x.1) :
    ∃ A c len, ∃ l : List α, cs = [.slice A len c] ∧ l.length = len ∧ len ≤ c ∧ Kd.C d W A len l ∧ (∀ y ∈ l, good y) ∧ len * Try.prog.bytesOf e ≤ reachBytes := by
  rcases open_slice ht h with ⟨rfl, rfl⟩ | ⟨a, len, cap, m, k, D, Pl, rfl, hb, hl, hm, hmm, rfl, hx⟩
  · exact ⟨none, 0, 0, [], rfl, rfl, Nat.le_refl _, ⟨rfl, by omega, fun h => absurd h (by omega)⟩, fun y hy => by simp at hy, by simp⟩
  · have hmm' : m = cap := by simpa using hmm
    have hel : ∀ i, i < len → Wt e (D i) := by
      intro i hi q hq
      refine hw q ?_
      simp only [DataW.weights, ht, List.mem_cons, List.mem_append]
      exact .inr (.inl (mem_weightsAll (List.mem_map.2 ⟨i, List.mem_range.2 hi, rfl⟩) hq))
    have each : ∀ i, i < len → ∃ y : α, ∃ cs', W.cells? 0 (a.add (i * d.sz)) d.sz = some cs' ∧ d.K W y cs' ∧ good y := by
      intro i hi
      obtain ⟨cs', h1, h2⟩ := hx i (by omega)
      rw [hc] at h1
      obtain ⟨y, h3, h4⟩ := hopen _ _ _ h2 (hel i hi)
      exact ⟨y, cs', h1, h3, h4⟩
    obtain ⟨g, hg⟩ := choose_lt each
    have hlen : ((List.range len).map g).length = len := by simp
    have hmax : maxLen = 9223372036854775807 := rfl
    refine ⟨some a, cap, len, (List.range len).map g, rfl, hlen, hl, ⟨hlen, by omega, fun _ => ⟨a, rfl, fun j p hj => ?_⟩⟩, fun y hy => ?_, ?_⟩
    · rw [List.getElem?_map] at hj
      obtain ⟨j', hj', rfl⟩ := Option.map_eq_some_iff.1 hj
      obtain ⟨hjl, he⟩ := List.getElem?_eq_some_iff.1 hj'
      rw [List.getElem_range] at he
      subst he
      rw [List.length_range] at hjl
      obtain ⟨cs', h1, h2, h3⟩ := hg j hjl
      obtain ⟨_, hlc, hcell⟩ := World.cells?_some h1
      refine ⟨cs', hlc, h2, fun i u hu => ?_⟩
      have hi : i < cs'.length := (List.getElem?_eq_some_iff.1 hu).1
      rw [← Go.Deep.add_add, hcell i (by omega)]
      exact hu
    · obtain ⟨r, hr, rfl⟩ := List.mem_map.1 hy
      obtain ⟨cs', h1, h2, h3⟩ := hg r (List.mem_range.1 hr)
      exact h3
    · have h0 := hw ((((List.range len).map D).length + ((List.range (m - len)).map fun j => D (len + j)).length) * Try.prog.bytesOf e) (by simp only [DataW.weights, ht, List.mem_cons]; exact .inl trivial)
      refine Nat.le_trans (Nat.mul_le_mul_right _ ?_) h0
      rw [List.length_map, List.length_range]
      omega
theorem open55 (n : Nat) (cs : List Value) (x : DataW H × List MemPlace) (h : DataW.trod enc Try.prog W 0 (fun _ => true) true n 55 cs = some x) : ∃ y : S55, k55.K W y cs := by
  obtain ⟨xs, m, _, rfl, hl, hxl, hf⟩ := DataW.trod_struct Try.underlying55 h
  rw [c55] at hl
  match cs, hl, xs, hxl with
  | [v0, v1, v2, v3, v4], _, [x0, x1, x2, x3, x4], _ =>
    have e0 : DataW.trod enc Try.prog W 0 (fun _ => true) true m 3 [v0] = some x0 := by simpa [c3] using hf 0 _ rfl
    have e1 : DataW.trod enc Try.prog W 0 (fun _ => true) true m 9 [v1] = some x1 := by simpa [c9] using hf 1 _ rfl
    have e2 : DataW.trod enc Try.prog W 0 (fun _ => true) true m 9 [v2] = some x2 := by simpa [c9] using hf 2 _ rfl
    have e3 : DataW.trod enc Try.prog W 0 (fun _ => true) true m 3 [v3] = some x3 := by simpa [c3] using hf 3 _ rfl
    have e4 : DataW.trod enc Try.prog W 0 (fun _ => true) true m 3 [v4] = some x4 := by simpa [c3] using hf 4 _ rfl
    obtain ⟨a0, h0, _⟩ := DataW.trod_int Try.underlying3 e0
    obtain ⟨a1, h1, _⟩ := DataW.trod_string Try.underlying9 e1
    obtain ⟨a2, h2, _⟩ := DataW.trod_string Try.underlying9 e2
    obtain ⟨a3, h3, _⟩ := DataW.trod_int Try.underlying3 e3
    obtain ⟨a4, h4, _⟩ := DataW.trod_int Try.underlying3 e4
    injection h0 with h0 _
    injection h1 with h1 _
    injection h2 with h2 _
    injection h3 with h3 _
    injection h4 with h4 _
    rw [h0, h1, h2, h3, h4]
    exact ⟨⟨a0, a1, a2, a3, a4⟩, k55_mk W _⟩
theorem Wt.agg {t : TypeId} {fs : Array Field} {parts : List (DataW H)} (h : Wt t (.agg parts)) (ht : Try.prog.underlying t = some (.struct fs)) {j : Nat} {f : Field} {d : DataW H} (hf : fs[j]? = some f) (hd : parts[j]? = some d) : Wt f.type d := by
  intro n hn
  refine h n ?_
  simp only [DataW.weights, ht]
  exact DataW.weights_mem_each (j := j) (by rw [List.getElem?_map, Array.getElem?_toList, hf]; rfl) hd n hn
theorem open33 (n : Nat) (cs : List Value) (x : DataW H × List MemPlace) (h : DataW.trod enc Try.prog W 0 (fun _ => true) true n 33 cs = some x) (hw : Wt 33 x.1) : ∃ y : S33, k33.K W y cs ∧ opsOk y := by
  obtain ⟨xs, m, _, rfl, hl, hxl, hf⟩ := DataW.trod_struct Try.underlying33 h
  rw [c33] at hl
  match cs, hl, xs, hxl with
  | [v0, v1, v2, v3, v4, v5], _, [x0, x1, x2, x3, x4, x5], _ =>
    have e0 : DataW.trod enc Try.prog W 0 (fun _ => true) true m 3 [v0] = some x0 := by simpa [c3] using hf 0 _ rfl
    have e1 : DataW.trod enc Try.prog W 0 (fun _ => true) true m 3 [v1] = some x1 := by simpa [c3] using hf 1 _ rfl
    have e2 : DataW.trod enc Try.prog W 0 (fun _ => true) true m 3 [v2] = some x2 := by simpa [c3] using hf 2 _ rfl
    have e3 : DataW.trod enc Try.prog W 0 (fun _ => true) true m 3 [v3] = some x3 := by simpa [c3] using hf 3 _ rfl
    have e4 : DataW.trod enc Try.prog W 0 (fun _ => true) true m 3 [v4] = some x4 := by simpa [c3] using hf 4 _ rfl
    have e5 : DataW.trod enc Try.prog W 0 (fun _ => true) true m 31 [v5] = some x5 := by simpa [c31] using hf 5 _ rfl
    have hw5 : Wt 31 x5.1 := Wt.agg (j := 5) hw Try.underlying33 rfl rfl
    obtain ⟨a0, h0, _⟩ := DataW.trod_int Try.underlying3 e0
    obtain ⟨a1, h1, _⟩ := DataW.trod_int Try.underlying3 e1
    obtain ⟨a2, h2, _⟩ := DataW.trod_int Try.underlying3 e2
    obtain ⟨a3, h3, _⟩ := DataW.trod_int Try.underlying3 e3
    obtain ⟨a4, h4, _⟩ := DataW.trod_int Try.underlying3 e4
    obtain ⟨A, c, len, l, h5, hll, hlc, hC, _, hb⟩ := row_of (d := k55) Try.underlying31 c55 (fun _ => True) (fun n cs x h _ => by obtain ⟨y, hy⟩ := open55 n cs x h; exact ⟨y, hy, trivial⟩) e5 hw5
    rw [bytes55] at hb
    injection h0 with h0 _
    injection h1 with h1 _
    injection h2 with h2 _
    injection h3 with h3 _
    injection h4 with h4 _
    injection h5 with h5 _
    rw [h0, h1, h2, h3, h4, h5, ← hll]
    refine ⟨⟨a0, a1, a2, a3, a4, l⟩, k33_mk W _ (by rw [hll]; exact hlc) (by rw [hll]; exact hC), ?_⟩
    show l.length ≤ 2513169434843
    have : reachBytes = 140737488351232 := rfl
    omega
theorem open47 (n : Nat) (cs : List Value) (x : DataW H × List MemPlace) (h : DataW.trod enc Try.prog W 0 (fun _ => true) true n 47 cs = some x) (hw : Wt 47 x.1) : ∃ y : S47, k47.K W y cs ∧ opsOk y.e := by
  obtain ⟨xs, m, _, rfl, hl, hxl, hf⟩ := DataW.trod_struct Try.underlying47 h
  rw [c47] at hl
  match cs, hl, xs, hxl with
  | [v0, v1, v2, v3, v4, v5, v6, v7, v8], _, [x0, x1, x2, x3], _ =>
    have e0 : DataW.trod enc Try.prog W 0 (fun _ => true) true m 3 [v0] = some x0 := by simpa [c3] using hf 0 _ rfl
    have e1 : DataW.trod enc Try.prog W 0 (fun _ => true) true m 3 [v1] = some x1 := by simpa [c3] using hf 1 _ rfl
    have e2 : DataW.trod enc Try.prog W 0 (fun _ => true) true m 3 [v2] = some x2 := by simpa [c3] using hf 2 _ rfl
    have e3 : DataW.trod enc Try.prog W 0 (fun _ => true) true m 33 [v3, v4, v5, v6, v7, v8] = some x3 := by simpa [c33] using hf 3 _ rfl
    have hw3 : Wt 33 x3.1 := Wt.agg (j := 3) hw Try.underlying47 rfl rfl
    obtain ⟨a0, h0, _⟩ := DataW.trod_int Try.underlying3 e0
    obtain ⟨a1, h1, _⟩ := DataW.trod_int Try.underlying3 e1
    obtain ⟨a2, h2, _⟩ := DataW.trod_int Try.underlying3 e2
    obtain ⟨y, hy, hoy⟩ := open33 _ _ _ e3 hw3
    injection h0 with h0 _
    injection h1 with h1 _
    injection h2 with h2 _
    rw [h0, h1, h2]
    exact ⟨⟨a0, a1, a2, y⟩, ⟨[.int .i64 a0], [.int .i64 a1, .int .i64 a2, v3, v4, v5, v6, v7, v8], rfl, rfl, ⟨[.int .i64 a1], [.int .i64 a2, v3, v4, v5, v6, v7, v8], rfl, rfl, ⟨[.int .i64 a2], [v3, v4, v5, v6, v7, v8], rfl, rfl, hy⟩⟩⟩, hoy⟩
/-- WHAT A SCRIPT READS AS. -/
theorem open_script {a : Option Addr} {len cap : Nat} {d : DataW H} {p : List MemPlace} (h0 : DataW.Trod enc Try.prog W 0 (fun _ => true) true 41 (.slice a len cap) d p) (hw : Wt 41 d) :
    ∃ L : List S47, L.length = len ∧ Kd.C k47 W a len L ∧ len ≤ cap ∧ ∀ y ∈ L, opsOk y.e := by
  obtain ⟨fuel, hf⟩ := h0
  obtain ⟨A, c, n, L, h1, h2, h3, h4, h5, _⟩ := row_of (d := k47) Try.underlying41 c47 (fun y => opsOk y.e) (fun n cs x h hw => open47 n cs x h hw) hf hw
  injection h1 with h1 _
  injection h1 with e1 e2 e3
  subst e1
  subst e2
  subst e3
  exact ⟨L, h2, h4, h3, h5⟩
end
end Go.Proofs.Ytcbejpmmlcdhnaa.PW
namespace Go.Proofs.Ytcbejpmmlcdhnaa.PW
open Go.ChangeShapes Go.WideShapes Go.ChangeAt Go.RowKit Go.Deep
open Go.Proofs.YtcbejpmmlcdhnaaW.PrintWords Go.Proofs.YtcbejpmmlcdhnaaW.PrintLast Go.Proofs.YtcbejpmmlcdhnaaW.PrintMore
set_option linter.unusedVariables false
set_option linter.unusedSimpArgs false

/-- Its bulk is bounded. -/
def Bk {H : Type} (d : DataW H) : Prop := Rows.uptoBulk d ≤ 1048576
theorem bulkAll_mem {H : Type} {d : DataW H} : ∀ {l : List (DataW H)}, d ∈ l → Rows.uptoBulk d ≤ Rows.uptoBulkAll l
  | x :: r, hd => by
    simp only [Rows.uptoBulkAll]
    rcases List.mem_cons.1 hd with rfl | hd
    · omega
    · have := bulkAll_mem hd
      omega
theorem bulk_pos {H : Type} (d : DataW H) : 1 ≤ Rows.uptoBulk d := by
  cases d with
  | lit l => cases l <;> simp [Rows.uptoBulk]
  | _ => simp [Rows.uptoBulk]
theorem bulkAll_len {H : Type} : ∀ (l : List (DataW H)), l.length ≤ Rows.uptoBulkAll l
  | [] => Nat.zero_le _
  | x :: r => by
    have h1 := bulkAll_len r
    have h2 := bulk_pos x
    simp only [Rows.uptoBulkAll, List.length_cons]
    omega
theorem bulk_slice {H : Type} (a b : List (DataW H)) : Rows.uptoBulk (.slice a b) = Rows.uptoBulkAll a + Rows.uptoBulkAll b + 1 := by simp [Rows.uptoBulk]
theorem bulk_agg {H : Type} (a : List (DataW H)) : Rows.uptoBulk (.agg a) = Rows.uptoBulkAll a + 1 := by simp [Rows.uptoBulk]
section
variable {H : Type} {enc : TypeId × Value → H} {W : World}
theorem row_ofB {α : Type} [Inhabited α] {d : Kd α} {t e : TypeId} (ht : Try.prog.underlying t = some (.slice e)) (hc : Try.prog.cellsOf e = d.sz) (good : α → Prop)
    (hopen : ∀ (n : Nat) (cs : List Value) (x : DataW H × List MemPlace), DataW.trod enc Try.prog W 0 (fun _ => true) true n e cs = some x → Bk x.1 → ∃ y, d.K W y cs ∧ good y)
    {n : Nat} {cs : List Value} {x : DataW H × List MemPlace} (h : DataW.trod enc Try.prog W 0 (fun _ => true) true n t cs = some x) (hw : Bk x.1) :
    ∃ A c len, ∃ l : List α, cs = [.slice A len c] ∧ l.length = len ∧ len ≤ c ∧ Kd.C d W A len l ∧ (∀ y ∈ l, good y) ∧ len ≤ 1048576 := by
  rcases open_slice ht h with ⟨rfl, rfl⟩ | ⟨a, len, cap, m, k, D, Pl, rfl, hb, hl, hm, hmm, rfl, hx⟩
  · exact ⟨none, 0, 0, [], rfl, rfl, Nat.le_refl _, ⟨rfl, by omega, fun h => absurd h (by omega)⟩, fun y hy => by simp at hy, by simp⟩
  · have hmm' : m = cap := by simpa using hmm
    have hw' : Rows.uptoBulk (DataW.slice ((List.range len).map D) ((List.range (m - len)).map fun j => D (len + j))) ≤ 1048576 := hw
    rw [bulk_slice] at hw'
    have hel : ∀ i, i < len → Bk (D i) := by
      intro i hi
      have := bulkAll_mem (l := (List.range len).map D) (List.mem_map.2 ⟨i, List.mem_range.2 hi, rfl⟩)
      unfold Bk
      omega
    have each : ∀ i, i < len → ∃ y : α, ∃ cs', W.cells? 0 (a.add (i * d.sz)) d.sz = some cs' ∧ d.K W y cs' ∧ good y := by
      intro i hi
      obtain ⟨cs', h1, h2⟩ := hx i (by omega)
      rw [hc] at h1
      obtain ⟨y, h3, h4⟩ := hopen _ _ _ h2 (hel i hi)
      exact ⟨y, cs', h1, h3, h4⟩
    obtain ⟨g, hg⟩ := choose_lt each
    have hlen : ((List.range len).map g).length = len := by simp
    have hmax : maxLen = 9223372036854775807 := rfl
    refine ⟨some a, cap, len, (List.range len).map g, rfl, hlen, hl, ⟨hlen, by omega, fun _ => ⟨a, rfl, fun j p hj => ?_⟩⟩, fun y hy => ?_, ?_⟩
    · rw [List.getElem?_map] at hj
      obtain ⟨j', hj', rfl⟩ := Option.map_eq_some_iff.1 hj
      obtain ⟨hjl, he⟩ := List.getElem?_eq_some_iff.1 hj'
      rw [List.getElem_range] at he
      subst he
      rw [List.length_range] at hjl
      obtain ⟨cs', h1, h2, h3⟩ := hg j hjl
      obtain ⟨_, hlc, hcell⟩ := World.cells?_some h1
      refine ⟨cs', hlc, h2, fun i u hu => ?_⟩
      have hi : i < cs'.length := (List.getElem?_eq_some_iff.1 hu).1
      rw [← Go.Deep.add_add, hcell i (by omega)]
      exact hu
    · obtain ⟨r, hr, rfl⟩ := List.mem_map.1 hy
      obtain ⟨cs', h1, h2, h3⟩ := hg r (List.mem_range.1 hr)
      exact h3
    · have := bulkAll_len ((List.range len).map D)
      rw [List.length_map, List.length_range] at this
      omega
theorem open55B (n : Nat) (cs : List Value) (x : DataW H × List MemPlace) (h : DataW.trod enc Try.prog W 0 (fun _ => true) true n 55 cs = some x) : ∃ y : S55, k55.K W y cs := by
  obtain ⟨xs, m, _, rfl, hl, hxl, hf⟩ := DataW.trod_struct Try.underlying55 h
  rw [c55] at hl
  match cs, hl, xs, hxl with
  | [v0, v1, v2, v3, v4], _, [x0, x1, x2, x3, x4], _ =>
    have e0 : DataW.trod enc Try.prog W 0 (fun _ => true) true m 3 [v0] = some x0 := by simpa [c3] using hf 0 _ rfl
    have e1 : DataW.trod enc Try.prog W 0 (fun _ => true) true m 9 [v1] = some x1 := by simpa [c9] using hf 1 _ rfl
    have e2 : DataW.trod enc Try.prog W 0 (fun _ => true) true m 9 [v2] = some x2 := by simpa [c9] using hf 2 _ rfl
    have e3 : DataW.trod enc Try.prog W 0 (fun _ => true) true m 3 [v3] = some x3 := by simpa [c3] using hf 3 _ rfl
    have e4 : DataW.trod enc Try.prog W 0 (fun _ => true) true m 3 [v4] = some x4 := by simpa [c3] using hf 4 _ rfl
    obtain ⟨a0, h0, _⟩ := DataW.trod_int Try.underlying3 e0
    obtain ⟨a1, h1, _⟩ := DataW.trod_string Try.underlying9 e1
    obtain ⟨a2, h2, _⟩ := DataW.trod_string Try.underlying9 e2
    obtain ⟨a3, h3, _⟩ := DataW.trod_int Try.underlying3 e3
    obtain ⟨a4, h4, _⟩ := DataW.trod_int Try.underlying3 e4
    injection h0 with h0 _
    injection h1 with h1 _
    injection h2 with h2 _
    injection h3 with h3 _
    injection h4 with h4 _
    rw [h0, h1, h2, h3, h4]
    exact ⟨⟨a0, a1, a2, a3, a4⟩, k55_mk W _⟩
theorem Bk.agg {parts : List (DataW H)} (h : Bk (.agg parts)) {j : Nat} {d : DataW H} (hd : parts[j]? = some d) : Bk d := by
  have h' : Rows.uptoBulk (DataW.agg parts) ≤ 1048576 := h
  rw [bulk_agg] at h'
  have := bulkAll_mem (List.mem_of_getElem? hd)
  unfold Bk
  omega
theorem open33B (n : Nat) (cs : List Value) (x : DataW H × List MemPlace) (h : DataW.trod enc Try.prog W 0 (fun _ => true) true n 33 cs = some x) (hw : Bk x.1) : ∃ y : S33, k33.K W y cs ∧ opsOk y := by
  obtain ⟨xs, m, _, rfl, hl, hxl, hf⟩ := DataW.trod_struct Try.underlying33 h
  rw [c33] at hl
  match cs, hl, xs, hxl with
  | [v0, v1, v2, v3, v4, v5], _, [x0, x1, x2, x3, x4, x5], _ =>
    have e0 : DataW.trod enc Try.prog W 0 (fun _ => true) true m 3 [v0] = some x0 := by simpa [c3] using hf 0 _ rfl
    have e1 : DataW.trod enc Try.prog W 0 (fun _ => true) true m 3 [v1] = some x1 := by simpa [c3] using hf 1 _ rfl
    have e2 : DataW.trod enc Try.prog W 0 (fun _ => true) true m 3 [v2] = some x2 := by simpa [c3] using hf 2 _ rfl
    have e3 : DataW.trod enc Try.prog W 0 (fun _ => true) true m 3 [v3] = some x3 := by simpa [c3] using hf 3 _ rfl
    have e4 : DataW.trod enc Try.prog W 0 (fun _ => true) true m 3 [v4] = some x4 := by simpa [c3] using hf 4 _ rfl
    have e5 : DataW.trod enc Try.prog W 0 (fun _ => true) true m 31 [v5] = some x5 := by simpa [c31] using hf 5 _ rfl
    have hw5 : Bk x5.1 := Bk.agg (j := 5) hw rfl
    obtain ⟨a0, h0, _⟩ := DataW.trod_int Try.underlying3 e0
    obtain ⟨a1, h1, _⟩ := DataW.trod_int Try.underlying3 e1
    obtain ⟨a2, h2, _⟩ := DataW.trod_int Try.underlying3 e2
    obtain ⟨a3, h3, _⟩ := DataW.trod_int Try.underlying3 e3
    obtain ⟨a4, h4, _⟩ := DataW.trod_int Try.underlying3 e4
    obtain ⟨A, c, len, l, h5, hll, hlc, hC, _, hb⟩ := row_ofB (d := k55) Try.underlying31 c55 (fun _ => True) (fun n cs x h _ => by obtain ⟨y, hy⟩ := open55B n cs x h; exact ⟨y, hy, trivial⟩) e5 hw5
    injection h0 with h0 _
    injection h1 with h1 _
    injection h2 with h2 _
    injection h3 with h3 _
    injection h4 with h4 _
    injection h5 with h5 _
    rw [h0, h1, h2, h3, h4, h5, ← hll]
    refine ⟨⟨a0, a1, a2, a3, a4, l⟩, k33_mk W _ (by rw [hll]; exact hlc) (by rw [hll]; exact hC), ?_⟩
    show l.length ≤ 2513169434843
    omega
theorem open47B (n : Nat) (cs : List Value) (x : DataW H × List MemPlace) (h : DataW.trod enc Try.prog W 0 (fun _ => true) true n 47 cs = some x) (hw : Bk x.1) : ∃ y : S47, k47.K W y cs ∧ opsOk y.e := by
  obtain ⟨xs, m, _, rfl, hl, hxl, hf⟩ := DataW.trod_struct Try.underlying47 h
  rw [c47] at hl
  match cs, hl, xs, hxl with
  | [v0, v1, v2, v3, v4, v5, v6, v7, v8], _, [x0, x1, x2, x3], _ =>
    have e0 : DataW.trod enc Try.prog W 0 (fun _ => true) true m 3 [v0] = some x0 := by simpa [c3] using hf 0 _ rfl
    have e1 : DataW.trod enc Try.prog W 0 (fun _ => true) true m 3 [v1] = some x1 := by simpa [c3] using hf 1 _ rfl
    have e2 : DataW.trod enc Try.prog W 0 (fun _ => true) true m 3 [v2] = some x2 := by simpa [c3] using hf 2 _ rfl
    have e3 : DataW.trod enc Try.prog W 0 (fun _ => true) true m 33 [v3, v4, v5, v6, v7, v8] = some x3 := by simpa [c33] using hf 3 _ rfl
    have hw3 : Bk x3.1 := Bk.agg (j := 3) hw rfl
    obtain ⟨a0, h0, _⟩ := DataW.trod_int Try.underlying3 e0
    obtain ⟨a1, h1, _⟩ := DataW.trod_int Try.underlying3 e1
    obtain ⟨a2, h2, _⟩ := DataW.trod_int Try.underlying3 e2
    obtain ⟨y, hy, hoy⟩ := open33B _ _ _ e3 hw3
    injection h0 with h0 _
    injection h1 with h1 _
    injection h2 with h2 _
    rw [h0, h1, h2]
    exact ⟨⟨a0, a1, a2, y⟩, ⟨[.int .i64 a0], [.int .i64 a1, .int .i64 a2, v3, v4, v5, v6, v7, v8], rfl, rfl, ⟨[.int .i64 a1], [.int .i64 a2, v3, v4, v5, v6, v7, v8], rfl, rfl, ⟨[.int .i64 a2], [v3, v4, v5, v6, v7, v8], rfl, rfl, hy⟩⟩⟩, hoy⟩
/-- WHAT A SCRIPT READS AS. -/
theorem open_scriptB {a : Option Addr} {len cap : Nat} {d : DataW H} {p : List MemPlace} (h0 : DataW.Trod enc Try.prog W 0 (fun _ => true) true 41 (.slice a len cap) d p) (hw : Bk d) :
    ∃ L : List S47, L.length = len ∧ Kd.C k47 W a len L ∧ len ≤ cap ∧ ∀ y ∈ L, opsOk y.e := by
  obtain ⟨fuel, hf⟩ := h0
  obtain ⟨A, c, n, L, h1, h2, h3, h4, h5, _⟩ := row_ofB (d := k47) Try.underlying41 c47 (fun y => opsOk y.e) (fun n cs x h hw => open47B n cs x h hw) hf hw
  injection h1 with h1 _
  injection h1 with e1 e2 e3
  subst e1
  subst e2
  subst e3
  exact ⟨L, h2, h4, h3, h5⟩
end
end Go.Proofs.Ytcbejpmmlcdhnaa.PW
