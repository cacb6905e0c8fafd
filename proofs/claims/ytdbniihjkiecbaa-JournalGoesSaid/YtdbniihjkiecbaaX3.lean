/- Words, contracts and walks of the law JournalGoes, in one text. -/
import Derived.Test.YtdbniihjkiecbaaX2
import Derived.Test.YtdbniihjkiecbaaX1
import Derived.Outline
import Derived.Test.YtdbniihjkiecbaaRows
import Derived.WalkKit
import Derived.ProofKit
import Derived.OpenShut
import Derived.ChangeOld
import Derived.Below
import Derived.SizedLaws
import Derived.Deep.Slices
namespace Go.Proofs.Ytdbniihjkiecbaa.PW
open Go.RowKit Go.Proofs.YtdbniihjkiecbaaW.PrintWords Go.Proofs.YtdbniihjkiecbaaW.PrintLast Go.Proofs.YtdbniihjkiecbaaW.PrintMore
set_option linter.unusedVariables false
set_option linter.unusedSimpArgs false

section
variable {ops : Array Oper} {o : Oper} {a : Act} {Q : Exit → Act → World → Prop} {rest : List Oper} {W : World}
/-- append(l, r): the record is laid down ahead of it. -/
theorem appJ (W0 : World) (hgd : o.guard = none) (s x : Operand) (ho : o.op = .call { callee := .builtin .append, args := #[s, x], argTypes := #[43, 43] })
    {v : Value} {l : List JR} {y : JR} {cs : List Value} {ok : Nat → Prop} (hs : a.eval s = v) (hx : a.eval x = .slice (some ⟨W.heap.size, 0, none⟩) 1 1) (hp : ∀ W2, Below W0.heap.size W0 W2 → kJ.K W2 y cs) (hfresh : ∀ k, W.heap.size ≤ k → ok k)
    (HO : RJ W0 W ok v l) (HB : Below W0.heap.size W0 W) (hl : l.length ≤ 1000010)
    (h : ∀ v1 w1, RJ W0 w1 ok v1 (l ++ [y]) → Below W0.heap.size W0 w1 → (∀ k, k < W.heap.size → some k ≠ v.ownBlock → w1.heap[k]? = W.heap[k]?) → wpList Try.prog ops Q rest (a.put o.dst v1) w1) :
    Stop (wpList Try.prog ops Q (o :: rest) a (W.alloc (.cells cs.toArray 28))) :=
  Kd.R_append (heldK kJ W0) (w0 := W0) W0.heap.size hgd s x 43 28 zeroRec 128 ho u43 infoJ rfl (by show 0 < 13; decide) (by decide) v l y cs ok (fun _ => False) hs hx hp (fun _ h => h.elim) hfresh HO HB HB.size (by omega) (fun v1 w1 h1 h2 h3 _ => h v1 w1 h1 h2 (fun k hk hne => h3.block k hk hne))
/-- append(l, r, q): two of them. -/
theorem appJ2 (W0 : World) (hgd : o.guard = none) (s x : Operand) (ho : o.op = .call { callee := .builtin .append, args := #[s, x], argTypes := #[43, 43] })
    {v : Value} {l : List JR} {y z : JR} {cs ds : List Value} {ok : Nat → Prop} (hs : a.eval s = v) (hx : a.eval x = .slice (some ⟨W.heap.size, 0, none⟩) 2 2) (hp : ∀ W2, Below W0.heap.size W0 W2 → kJ.K W2 y cs) (hq : ∀ W2, Below W0.heap.size W0 W2 → kJ.K W2 z ds) (hfresh : ∀ k, W.heap.size ≤ k → ok k)
    (HO : RJ W0 W ok v l) (HB : Below W0.heap.size W0 W) (hl : l.length ≤ 1000010)
    (h : ∀ v1 w1, RJ W0 w1 ok v1 (l ++ [y, z]) → Below W0.heap.size W0 w1 → (∀ k, k < W.heap.size → some k ≠ v.ownBlock → w1.heap[k]? = W.heap[k]?) → wpList Try.prog ops Q rest (a.put o.dst v1) w1) :
    Stop (wpList Try.prog ops Q (o :: rest) a (W.alloc (.cells (cs ++ ds).toArray 28))) := by
  have hb : Below W.heap.size W (W.alloc (.cells (cs ++ ds).toArray 28)) := below_alloc (Below.refl _ _) _
  have l1 : cs.length = 13 := kJ.K_len (hp W0 (Below.refl _ _))
  have l2 : ds.length = 13 := kJ.K_len (hq W0 (Below.refl _ _))
  have hcell : ∀ j u, (cs ++ ds)[j]? = some u → (W.alloc (.cells (cs ++ ds).toArray 28)).cell? ⟨W.heap.size, 0 + j, none⟩ = some u := fun j u hu => by
    rw [Nat.zero_add, blk_cell (heap_alloc_new W _) j]
    simpa using hu
  have HRR : ReadsRow (fun x cs => ∀ W2, Below W0.heap.size W0 W2 → kJ.K W2 x cs) 13 (W.alloc (.cells (cs ++ ds).toArray 28)) (some ⟨W.heap.size, 0, none⟩) 2 [y, z] := by
    refine ⟨rfl, by decide, fun _ => ⟨_, rfl, fun j p hp' => ?_⟩⟩
    have hadd : ∀ m : Nat, (⟨W.heap.size, 0, none⟩ : Addr).add m = ⟨W.heap.size, 0 + m, none⟩ := fun m => by rw [add_plain, Nat.zero_add]
    match j with
    | 0 =>
      obtain rfl : y = p := by simpa using hp'
      refine ⟨cs, l1, hp, fun i u hu => ?_⟩
      rw [hadd, Nat.zero_mul, Nat.zero_add]
      exact hcell i u (by rw [List.getElem?_append_left (List.getElem?_eq_some_iff.1 hu).1]; exact hu)
    | 1 =>
      obtain rfl : z = p := by simpa using hp'
      refine ⟨ds, l2, hq, fun i u hu => ?_⟩
      rw [hadd, Nat.one_mul]
      exact hcell (13 + i) u (by rw [List.getElem?_append_right (by omega), l1, Nat.add_sub_cancel_left]; exact hu)
    | j + 2 => simp at hp'
  refine Kd.R_append_rows (heldK kJ W0) (Rr := fun x cs => ∀ W2, Below W0.heap.size W0 W2 → kJ.K W2 x cs) (w0 := W0) W0.heap.size hgd s x 43 28 zeroRec 128 ho u43 infoJ rfl (by show 0 < 13; decide) (by decide) v l [y, z] (some ⟨W.heap.size, 0, none⟩) 2 2 ok (fun _ => False) hs hx (Kd.R_below HO hb) HRR (fun _ _ h => h) (fun _ h => h.elim) (fun k hk => hfresh k (by have := hb.size; omega)) (below_step HB hb) (by have := HB.size; have := hb.size; omega) (by omega) (fun v1 w1 h1 h2 h3 _ => h v1 w1 h1 h2 (fun k hk hne => (h3.block k (Nat.lt_of_lt_of_le hk hb.size) hne).trans (hb.block k hk)))
end
set_option maxHeartbeats 32000000 in
set_option maxRecDepth 100000 in
theorem compact_N (w : World) (s : SV) (E : Option Addr) (n c : Nat) (hn : s.es.length = n) (hm : n ≤ 1000000) (hC : Kd.C k24 w E n s.es) (B : List Int) (K : Nat) (F : Int) (hF : s.cpt = (B, K, F)) :
    Calls Try.prog 22 #[.agg (s.cells E n c)] w fun e w' => ∃ V, e = .returned (.tuple #[V, .int .i64 (K : Int), .int .i64 F]) ∧ R8 w' w.heap.size V B ∧ Below w.heap.size w w' := by
  have hu53 := Try.underlying53
  have hu26 := Try.underlying26
  have hu28 := Try.underlying28
  have hu24 := Try.underlying24
  have HN := Aside0.mk hn
  have HM := Aside0.mk hm
  have HC := Aside0.mk hC
  have HF := Aside0.mk hF
  clear hn hC hF
  go_enter Try.func22, Try.ntmps22
  go_upto_region 1 with (fail)
  obtain ⟨g, hg⟩ : ∃ g, g = w.heap.size := ⟨_, rfl⟩
  obtain ⟨w1, hw1⟩ : ∃ w1, w1 = w.alloc (.cells (s.cells E n c) 53) := ⟨_, rfl⟩
  rw [← hw1, ← hg]
  have HB1 := Aside0.mk (show Below w.heap.size w w1 by rw [hw1]; exact below_alloc (Below.refl _ _) _)
  have HG := Aside0.mk (show w1.heap[g]? = some (.cells (s.cells E n c) 53 (0, 0)) by rw [hw1, hg]; exact heap_alloc_new w _)
  have HC1 := Aside0.mk (Kd.C_below HC.out HB1.out)
  clear hw1 hg
  have a6 := (blk_cell HG.out 6).trans rfl
  have hF := HF.out
  unfold SV.cpt at hF
  by_cases hbig : (200000 : Int) < (s.x.size : Int)
  · have d1 : decide ((200000 : Int) < (s.x.size : Int)) = true := decide_eq_true hbig
    have d2 : decide (200000 < s.x.size) = true := decide_eq_true (by omega)
    rw [if_pos hbig] at hF
    simp only [Prod.mk.injEq] at hF
    obtain ⟨rfl, rfl, rfl⟩ := hF
    clear HF hbig
    go_wp2
    refine bodyPost_ret (results_tmp3 rfl _ _ _) rfl ?_
    exact ⟨_, rfl, Kd.R_nil _ _ _ _ _, HB1.out⟩
  have d1 : decide ((200000 : Int) < (s.x.size : Int)) = false := decide_eq_false hbig
  have d2 : decide (200000 < s.x.size) = false := decide_eq_false (by omega)
  rw [if_neg hbig] at hF
  have HF2 := Aside0.mk hF
  clear hF HF hbig
  have a0 := (blk_cell HG.out 0).trans rfl
  have a1 := (blk_cell HG.out 1).trans rfl
  have a2 := (blk_cell HG.out 2).trans rfl
  have a3 := (blk_cell HG.out 3).trans rfl
  have a4 := (blk_cell HG.out 4).trans rfl
  have a5 := (blk_cell HG.out 5).trans rfl
  have a7 := (blk_cell HG.out 7).trans rfl
  have a8 := (blk_cell HG.out 8).trans rfl
  go_wp2_with fail
  refine (may_N w1 s E n c HN.out HM.out HC1.out).mono ?_
  rintro e w2 ⟨rfl, hb⟩
  have HB2 := Aside0.mk (below_step HB1.out hb)
  have HW2 := Aside0.mk hb
  have HG2 := Aside0.mk ((hb.block g (blk_lt HG.out)).trans HG.out)
  have HC2 := Aside0.mk (Kd.C_below HC1.out hb)
  clear hb a0 a1 a2 a3 a4 a5 a6 a7 a8 d1 d2
  obtain ⟨my, hmy⟩ : ∃ my, s.mayB = my := ⟨_, rfl⟩
  rw [hmy] at HF2 ⊢
  clear hmy
  cases my
  · have hF := HF2.out
    rw [if_neg (by decide)] at hF
    simp only [Prod.mk.injEq] at hF
    obtain ⟨rfl, rfl, rfl⟩ := hF
    clear HF2
    go_wp2
    refine bodyPost_ret (results_tmp3 rfl _ _ _) rfl ?_
    exact ⟨_, rfl, Kd.R_nil _ _ _ _ _, HB2.out⟩
  have hF := HF2.out
  rw [if_pos rfl] at hF
  simp only [Prod.mk.injEq] at hF
  obtain ⟨rfl, rfl, rfl⟩ := hF
  clear HF2
  have a4 := (blk_cell HG2.out 4).trans rfl
  have a5 := (blk_cell HG2.out 5).trans rfl
  have a6 := (blk_cell HG2.out 6).trans rfl
  go_upto_region 6 with (fail)
  go_cut [33] (fun v33 wc => v33 = .bool (!s.bare) ∧ w2 = wc)
  case first =>
    by_cases h0 : s.st = 0
    · have c0 : (s.st == 0) = true := beq_iff_eq.mpr h0
      have c1 : (s.st != 0) = false := bne_eq_false_iff_eq.mpr h0
      clear h0
      by_cases h1 : s.of = 0
      · have c2 : (s.of == 0) = true := beq_iff_eq.mpr h1
        have c3 : (s.of != 0) = false := bne_eq_false_iff_eq.mpr h1
        clear h1
        by_cases h2 : s.x.toList = []
        · have c4 : (s.x.toList == ([] : List UInt8)) = true := beq_iff_eq.mpr h2
          have c5 : (s.x.toList != ([] : List UInt8)) = false := bne_eq_false_iff_eq.mpr h2
          have HF := Aside0.mk (show (!s.bare) = false by unfold SV.bare; rw [c0, c2, decide_eq_true h2]; rfl)
          clear h2
          go_wp2; go_meet
          case rel => exact ⟨by rw [HF.out]; try rfl, rfl⟩
        · have c4 : (s.x.toList == ([] : List UInt8)) = false := beq_eq_false_iff_ne.mpr h2
          have c5 : (s.x.toList != ([] : List UInt8)) = true := bne_iff_ne.mpr h2
          have HF := Aside0.mk (show (!s.bare) = true by unfold SV.bare; rw [decide_eq_false h2]; simp)
          clear h2
          go_wp2; go_meet
          case rel => exact ⟨by rw [HF.out]; try rfl, rfl⟩
      · have c2 : (s.of == 0) = false := beq_eq_false_iff_ne.mpr h1
        have c3 : (s.of != 0) = true := bne_iff_ne.mpr h1
        have HF := Aside0.mk (show (!s.bare) = true by unfold SV.bare; rw [c2]; simp)
        clear h1
        go_wp2; go_meet
        case rel => exact ⟨by rw [HF.out]; try rfl, rfl⟩
    · have c0 : (s.st == 0) = false := beq_eq_false_iff_ne.mpr h0
      have c1 : (s.st != 0) = true := bne_iff_ne.mpr h0
      have HF := Aside0.mk (show (!s.bare) = true by unfold SV.bare; rw [c0]; simp)
      clear h0
      go_wp2; go_meet
      case rel => exact ⟨by rw [HF.out]; try rfl, rfl⟩
  obtain ⟨rfl, rfl⟩ := hcut
  go_upto_if 33 with (fail)
  go_cut [5] (fun v5 wc => RJ w1 wc (fun _ => True) v5 s.r1 ∧ Below w1.heap.size w1 wc)
  case first =>
    cases hb : s.bare
    case true =>
      have HR1 := Aside0.mk (show s.r1 = [] by unfold SV.r1; rw [if_pos hb])
      clear hb
      go_wp2; go_meet
      case rel => exact ⟨by rw [HR1.out]; exact Kd.R_nil _ _ _ _ _, HW2.out⟩
    case false =>
      have HR1 := Aside0.mk (show s.r1 = [recSave s] by unfold SV.r1; rw [hb]; rfl)
      clear hb
      go_wp2_with (with_reducible refine stop_append rfl ?_)
      refine appJ w1 rfl _ _ rfl rfl rfl (held_none w1 (recSave s) rfl) (fun _ _ => trivial) (Kd.R_nil _ _ _ _ _) HW2.out (by simp) ?_
      intro v3 w3 ho hb hk
      have HO := Aside0.mk ho
      have HBB := Aside0.mk hb
      clear ho hb hk
      go_wp2; go_meet
      case rel => exact ⟨by rw [HR1.out]; exact HO.out, HBB.out⟩
  clear a4 a5 a6
  obtain ⟨ho, hb⟩ := hcut
  have HO3 := Aside0.mk ho
  have HW3 := Aside0.mk hb
  have HG3 := Aside0.mk ((hb.block g (blk_lt HG.out)).trans HG.out)
  clear ho hb
  have a3 := (blk_cell HG3.out 3).trans rfl
  go_upto_region 9 with (fail)
  clear a3
  obtain ⟨w4, hw4⟩ : ∃ w4, w4 = wc.alloc (.cells #[.int .i64 3, .int .i64 0, .int .i64 0, .int .i64 0, .int .i64 0, .int .i64 0, .slice none 0 0, .int .i64 s.ma, .int .i64 0, .int .i64 0, .int .i64 0, .int .i64 0, .string ⟨#[]⟩] 28) := ⟨_, rfl⟩
  obtain ⟨gt, hgt⟩ : ∃ gt, gt = wc.heap.size := ⟨_, rfl⟩
  rw [← hw4]
  try rw [← hgt]
  have HA4 := Aside0.mk (show Below wc.heap.size wc w4 by rw [hw4]; exact below_alloc (Below.refl _ _) _)
  have HT4 := Aside0.mk (show w4.heap[gt]? = some (.cells #[.int .i64 3, .int .i64 0, .int .i64 0, .int .i64 0, .int .i64 0, .int .i64 0, .slice none 0 0, .int .i64 s.ma, .int .i64 0, .int .i64 0, .int .i64 0, .int .i64 0, .string ⟨#[]⟩] 28 (0, 0)) by rw [hw4, hgt]; exact heap_alloc_new wc _)
  have HO4 := Aside0.mk (show RJ w1 w4 (fun k => k ≠ gt) u5 s.r1 from Kd.R_mono (Kd.R_below (Kd.R_bound HO3.out) HA4.out) (fun k hk => by have := hk.2.2.1; omega))
  have HW4 := Aside0.mk (below_step HW3.out HA4.out)
  have HG4 := Aside0.mk ((HW4.out.block g (blk_lt HG.out)).trans HG.out)
  have HT := Aside0.mk (show ∀ W2, Below w1.heap.size w1 W2 → kJ.K W2 (recTold s.ma) (recL (recTold s.ma) (.slice none 0 0)) from held_none w1 (recTold s.ma) rfl)
  clear hw4 hgt
  have a0 := (blk_cell HG4.out 0).trans rfl
  have a1 := (blk_cell HG4.out 1).trans rfl
  have a2 := (blk_cell HG4.out 2).trans rfl
  have a3 := (blk_cell HG4.out 3).trans rfl
  go_cut [58] (fun v58 wc => v58 = .bool (decide (0 < s.ma) && decide (s.ma < s.vn)) ∧ w4 = wc)
  case first =>
    by_cases h0 : 0 < s.ma
    · have c0 : decide (0 < s.ma) = true := decide_eq_true h0
      go_wp2; go_meet
      case rel => exact ⟨by rw [c0]; rfl, rfl⟩
    · have c0 : decide (0 < s.ma) = false := decide_eq_false h0
      go_wp2; go_meet
      case rel => exact ⟨by rw [c0]; rfl, rfl⟩
  obtain ⟨rfl, rfl⟩ := hcut
  go_upto_if 58 with (fail)
  go_cut [5] (fun v5 wc => RJ w1 wc (fun k => k ≠ gt) v5 (s.r1 ++ s.r2) ∧ Below w1.heap.size w1 wc ∧ wc.heap[gt]? = some (.cells #[.int .i64 3, .int .i64 0, .int .i64 0, .int .i64 0, .int .i64 0, .int .i64 0, .slice none 0 0, .int .i64 s.ma, .int .i64 0, .int .i64 0, .int .i64 0, .int .i64 0, .string ⟨#[]⟩] 28 (0, 0)))
  case first =>
    by_cases h0 : 0 < s.ma ∧ s.ma < s.vn
    · have c0 : (decide (0 < s.ma) && decide (s.ma < s.vn)) = true := by rw [decide_eq_true h0.1, decide_eq_true h0.2]; rfl
      have HR2 := Aside0.mk (show s.r2 = [recView s.ma s.vp s.vb, recTold s.ma] by unfold SV.r2; rw [if_pos h0])
      clear h0
      rw [c0]
      have t0 := (blk_cell HT4.out 0).trans rfl
      have t1 := (blk_cell HT4.out 1).trans rfl
      have t2 := (blk_cell HT4.out 2).trans rfl
      have t3 := (blk_cell HT4.out 3).trans rfl
      have t4 := (blk_cell HT4.out 4).trans rfl
      have t5 := (blk_cell HT4.out 5).trans rfl
      have t6 := (blk_cell HT4.out 6).trans rfl
      have t7 := (blk_cell HT4.out 7).trans rfl
      have t8 := (blk_cell HT4.out 8).trans rfl
      have t9 := (blk_cell HT4.out 9).trans rfl
      have t10 := (blk_cell HT4.out 10).trans rfl
      have t11 := (blk_cell HT4.out 11).trans rfl
      have t12 := (blk_cell HT4.out 12).trans rfl
      go_wp2_with (with_reducible refine stop_append rfl ?_)
      refine appJ2 w1 rfl _ _ rfl rfl rfl (held_none w1 (recView s.ma s.vp s.vb) rfl) HT.out (fun k hk => by have := blk_lt HT4.out; omega) HO4.out HW4.out (by unfold SV.r1; split <;> simp) ?_
      intro v3 w3 ho hb hk
      have HO := Aside0.mk ho
      have HBB := Aside0.mk hb
      have HTT := Aside0.mk ((hk gt (blk_lt HT4.out) (fun e => HO4.out.1 gt e.symm rfl)).trans HT4.out)
      clear ho hb hk
      go_wp2; go_meet
      case rel => exact ⟨by rw [HR2.out]; exact HO.out, HBB.out, HTT.out⟩
    · have c0 : (decide (0 < s.ma) && decide (s.ma < s.vn)) = false := by
        by_cases h1 : 0 < s.ma
        · rw [decide_eq_true h1, decide_eq_false (fun h2 => h0 ⟨h1, h2⟩)]; rfl
        · rw [decide_eq_false h1]; rfl
      have HR2 := Aside0.mk (show s.r2 = [] by unfold SV.r2; rw [if_neg h0])
      clear h0
      rw [c0]
      go_wp2; go_meet
      case rel => exact ⟨by rw [HR2.out, List.append_nil]; exact HO4.out, HW4.out, HT4.out⟩
  obtain ⟨ho, hb, ht⟩ := hcut
  obtain ⟨w5, hw5⟩ : ∃ w5, w5 = wc := ⟨_, rfl⟩
  rw [← hw5] at ho hb ht ⊢
  have HO5 := Aside0.mk ho
  have HW5 := Aside0.mk hb
  have HT5 := Aside0.mk ht
  have HG5 := Aside0.mk ((hb.block g (blk_lt HG.out)).trans HG.out)
  clear ho hb ht hw5 a0 a1 a2 a3
  have a0 := (blk_cell HG5.out 0).trans rfl
  have a1 := (blk_cell HG5.out 1).trans rfl
  have a2 := (blk_cell HG5.out 2).trans rfl
  go_upto_region 11 with (fail)
  go_cut [76] (fun v76 wc => v76 = .bool (!noView s.vn s.vp s.vb) ∧ w5 = wc)
  case first =>
    by_cases h0 : s.vn = 0
    · have c0 : (s.vn == 0) = true := beq_iff_eq.mpr h0
      have d0 := Aside0.mk h0
      clear h0
      by_cases h1 : s.vp = 0
      · have c1 : (s.vp == 0) = true := beq_iff_eq.mpr h1
        have d1 := Aside0.mk h1
        clear h1
        by_cases h2 : s.vb = 0
        · have c2 : (s.vb == 0) = true := beq_iff_eq.mpr h2
          have d2 := Aside0.mk h2
          clear h2
          have HF := Aside0.mk (show noView s.vn s.vp s.vb = true by unfold noView; rw [c0, c1, c2]; rfl)
          have e0 := d0.out
          have e1 := d1.out
          have e2 := d2.out
          go_wp2; go_meet
          case rel => exact ⟨by rw [HF.out]; try rfl, rfl⟩
        · have c2 : (s.vb == 0) = false := beq_eq_false_iff_ne.mpr h2
          have HF := Aside0.mk (show noView s.vn s.vp s.vb = false by unfold noView; rw [c2]; simp)
          have e2 : (s.vb = 0) = False := eq_false h2
          clear h2
          go_wp2; go_meet
          case rel => exact ⟨by rw [HF.out]; try rfl, rfl⟩
      · have c1 : (s.vp == 0) = false := beq_eq_false_iff_ne.mpr h1
        have HF := Aside0.mk (show noView s.vn s.vp s.vb = false by unfold noView; rw [c1]; simp)
        have e2 : (s.vp = 0) = False := eq_false h1
        clear h1
        go_wp2; go_meet
        case rel => exact ⟨by rw [HF.out]; try rfl, rfl⟩
    · have c0 : (s.vn == 0) = false := beq_eq_false_iff_ne.mpr h0
      have HF := Aside0.mk (show noView s.vn s.vp s.vb = false by unfold noView; rw [c0]; simp)
      have e2 : (s.vn = 0) = False := eq_false h0
      clear h0
      go_wp2; go_meet
      case rel => exact ⟨by rw [HF.out]; try rfl, rfl⟩
  obtain ⟨rfl, rfl⟩ := hcut
  go_upto_if 76 with (fail)
  go_cut [5] (fun v5 wc => RJ w1 wc (fun k => k ≠ gt) v5 (s.r1 ++ s.r2 ++ s.r3) ∧ Below w1.heap.size w1 wc ∧ wc.heap[gt]? = some (.cells #[.int .i64 3, .int .i64 0, .int .i64 0, .int .i64 0, .int .i64 0, .int .i64 0, .slice none 0 0, .int .i64 s.ma, .int .i64 0, .int .i64 0, .int .i64 0, .int .i64 0, .string ⟨#[]⟩] 28 (0, 0)))
  case first =>
    cases hv : noView s.vn s.vp s.vb
    case true =>
      have HR3 := Aside0.mk (show s.r3 = [] by unfold SV.r3; rw [if_pos hv])
      clear hv
      go_wp2; go_meet
      case rel => exact ⟨by rw [HR3.out, List.append_nil]; exact HO5.out, HW5.out, HT5.out⟩
    case false =>
      have HR3 := Aside0.mk (show s.r3 = [recView s.vn s.vp s.vb] by unfold SV.r3; rw [hv]; rfl)
      clear hv
      go_wp2_with (with_reducible refine stop_append rfl ?_)
      refine appJ w1 rfl _ _ rfl rfl rfl (held_none w1 (recView s.vn s.vp s.vb) rfl) (fun k hk => by have := blk_lt HT5.out; omega) HO5.out HW5.out (by unfold SV.r1 SV.r2; split <;> split <;> simp) ?_
      intro v3 w3 ho hb hk
      have HO := Aside0.mk ho
      have HBB := Aside0.mk hb
      have HTT := Aside0.mk ((hk gt (blk_lt HT5.out) (fun e => HO5.out.1 gt e.symm rfl)).trans HT5.out)
      clear ho hb hk
      go_wp2; go_meet
      case rel => exact ⟨by rw [HR3.out]; exact HO.out, HBB.out, HTT.out⟩
  obtain ⟨ho, hb, ht⟩ := hcut
  obtain ⟨w6, hw6⟩ : ∃ w6, w6 = wc := ⟨_, rfl⟩
  rw [← hw6] at ho hb ht ⊢
  have HO6 := Aside0.mk ho
  have HW6 := Aside0.mk hb
  have HT6 := Aside0.mk ht
  have HG6 := Aside0.mk ((hb.block g (blk_lt HG.out)).trans HG.out)
  clear ho hb ht hw6 a0 a1 a2
  have a0 := (blk_cell HG6.out 0).trans rfl
  have a3 := (blk_cell HG6.out 3).trans rfl
  go_upto_region 13 with (fail)
  go_cut [93] (fun v93 wc => v93 = .bool (decide (0 < s.ma) && (s.ma == s.vn)) ∧ w6 = wc)
  case first =>
    by_cases h0 : 0 < s.ma
    · have c0 : decide (0 < s.ma) = true := decide_eq_true h0
      go_wp2; go_meet
      case rel => exact ⟨by rw [c0]; rfl, rfl⟩
    · have c0 : decide (0 < s.ma) = false := decide_eq_false h0
      go_wp2; go_meet
      case rel => exact ⟨by rw [c0]; rfl, rfl⟩
  obtain ⟨rfl, rfl⟩ := hcut
  go_upto_if 93 with (fail)
  go_cut [5] (fun v5 wc => RJ w1 wc (fun _ => True) v5 s.ra ∧ Below w1.heap.size w1 wc)
  case first =>
    by_cases h0 : 0 < s.ma ∧ s.ma = s.vn
    · have c0 : (decide (0 < s.ma) && (s.ma == s.vn)) = true := by rw [decide_eq_true h0.1, beq_iff_eq.mpr h0.2]; rfl
      have HR4 := Aside0.mk (show s.ra = s.r1 ++ s.r2 ++ s.r3 ++ [recTold s.ma] by unfold SV.ra SV.r4; rw [if_pos h0])
      clear h0
      rw [c0]
      have t0 := (blk_cell HT6.out 0).trans rfl
      have t1 := (blk_cell HT6.out 1).trans rfl
      have t2 := (blk_cell HT6.out 2).trans rfl
      have t3 := (blk_cell HT6.out 3).trans rfl
      have t4 := (blk_cell HT6.out 4).trans rfl
      have t5 := (blk_cell HT6.out 5).trans rfl
      have t6 := (blk_cell HT6.out 6).trans rfl
      have t7 := (blk_cell HT6.out 7).trans rfl
      have t8 := (blk_cell HT6.out 8).trans rfl
      have t9 := (blk_cell HT6.out 9).trans rfl
      have t10 := (blk_cell HT6.out 10).trans rfl
      have t11 := (blk_cell HT6.out 11).trans rfl
      have t12 := (blk_cell HT6.out 12).trans rfl
      go_wp2_with (with_reducible refine stop_append rfl ?_)
      refine appJ w1 rfl _ _ rfl rfl rfl HT.out (fun k hk => by have := blk_lt HT6.out; omega) HO6.out HW6.out (by unfold SV.r1 SV.r2 SV.r3; split <;> split <;> split <;> simp) ?_
      intro v3 w3 ho hb hk
      have HO := Aside0.mk ho
      have HBB := Aside0.mk hb
      clear ho hb hk
      go_wp2; go_meet
      case rel => exact ⟨by rw [HR4.out]; exact Kd.R_mono HO.out (fun _ _ => trivial), HBB.out⟩
    · have c0 : (decide (0 < s.ma) && (s.ma == s.vn)) = false := by
        by_cases h1 : 0 < s.ma
        · rw [decide_eq_true h1, beq_eq_false_iff_ne.mpr (fun h2 => h0 ⟨h1, h2⟩)]; rfl
        · rw [decide_eq_false h1]; rfl
      have HR4 := Aside0.mk (show s.ra = s.r1 ++ s.r2 ++ s.r3 by unfold SV.ra SV.r4; rw [if_neg h0, List.append_nil])
      clear h0
      rw [c0]
      go_wp2; go_meet
      case rel => exact ⟨by rw [HR4.out]; exact Kd.R_mono HO6.out (fun _ _ => trivial), HW6.out⟩
  obtain ⟨ho, hb⟩ := hcut
  obtain ⟨w7, hw7⟩ : ∃ w7, w7 = wc := ⟨_, rfl⟩
  rw [← hw7] at ho hb ⊢
  have HO7 := Aside0.mk ho
  have HW7 := Aside0.mk hb
  have HG7 := Aside0.mk ((hb.block g (blk_lt HG.out)).trans HG.out)
  clear ho hb hw7 a0 a3
  have a7 := (blk_cell HG7.out 7).trans rfl
  go_wp2
  clear a7
  go_loopw [5, 101] (fun v5 v101 wr => ∃ i : Nat, i ≤ n ∧ v101 = .int .i64 (i : Int) ∧ Aside0 (RJ w1 wr (fun _ => True) v5 (s.ra ++ (s.es.take i).map recEnt)) ∧ Aside0 (Below w1.heap.size w1 wr)) (fun _ v101 _ => n - (intOf v101).toNat)
  case atStart => exact ⟨0, Nat.zero_le _, rfl, ⟨by rw [List.take_zero, List.map_nil, List.append_nil]; exact HO7.out⟩, HW7⟩
  case round =>
    obtain ⟨i, hi, rfl, HO, HW⟩ := hrel
    by_cases hlt : i < n
    · have hd1 : decide ((i : Int) < (n : Int)) = true := decide_eq_true (by omega)
      have hd2 : decide (i < n) = true := decide_eq_true hlt
      have HLT := Aside0.mk hlt
      have i1 : (i < n) = True := eq_true hlt
      have i2 : ((i : Int) < (n : Int)) = True := eq_true (by omega)
      obtain ⟨ad, A5, c5, rfl, p0, p1, p2, p3, p4, p5, l5, C5⟩ := at_T24 HC1.out (i : Int) (by omega) (by omega)
      have htk : s.es.take (i + 1) = s.es.take i ++ [rd_T24 s.es (i : Int)] := by
        have e : rd_T24 s.es (i : Int) = s.es[i]'(by rw [HN.out]; exact hlt) := by
          unfold rd_T24
          rw [Int.toNat_natCast, List.getD_eq_getElem?_getD, List.getElem?_eq_getElem (by rw [HN.out]; exact hlt)]
          rfl
        rw [e, List.take_succ_eq_append_getElem (by rw [HN.out]; exact hlt)]
      obtain ⟨x, hx⟩ : ∃ x, rd_T24 s.es (i : Int) = x := ⟨_, rfl⟩
      rw [hx, Int.toNat_natCast] at p0 p1 p2 p3 p4
      rw [hx, Int.toNat_natCast] at p5
      rw [hx] at l5 C5 htk
      obtain ⟨m5, hm5⟩ : ∃ m5, x.f5.length = m5 := ⟨_, rfl⟩
      rw [hm5] at p5 l5 C5
      have HTK := Aside0.mk htk
      have HP := Aside0.mk (held_mk w1 (recEnt x) (n := m5) hm5.symm l5 C5)
      clear hx hm5 l5 C5 htk hlt
      replace p0 := pw_cell_below HW.out p0
      replace p1 := pw_cell_below HW.out p1
      replace p2 := pw_cell_below HW.out p2
      replace p3 := pw_cell_below HW.out p3
      replace p4 := pw_cell_below HW.out p4
      replace p5 := pw_cell_below HW.out p5
      go_upto_region 18 with (fail)
      obtain ⟨w8, hw8⟩ : ∃ w8, w8 = wr.alloc (.cells #[.int .i64 x.f0, .int .i64 x.f1, .int .i64 x.f2, .int .i64 x.f3, .int .i64 x.f4, .slice A5 m5 c5] 24) := ⟨_, rfl⟩
      obtain ⟨g8, hg8⟩ : ∃ g8, g8 = wr.heap.size := ⟨_, rfl⟩
      rw [← hw8]
      try rw [← hg8]
      have HA8 := Aside0.mk (show Below wr.heap.size wr w8 by rw [hw8]; exact below_alloc (Below.refl _ _) _)
      have HG8 := Aside0.mk (show w8.heap[g8]? = some (.cells #[.int .i64 x.f0, .int .i64 x.f1, .int .i64 x.f2, .int .i64 x.f3, .int .i64 x.f4, .slice A5 m5 c5] 24 (0, 0)) by rw [hw8, hg8]; exact heap_alloc_new wr _)
      clear hw8 hg8 p0 p1 p2 p3 p4 p5
      have q0 := (blk_cell HG8.out 0).trans rfl
      have q1 := (blk_cell HG8.out 1).trans rfl
      have q2 := (blk_cell HG8.out 2).trans rfl
      have q3 := (blk_cell HG8.out 3).trans rfl
      have q4 := (blk_cell HG8.out 4).trans rfl
      have q5 := (blk_cell HG8.out 5).trans rfl
      go_wp2_with (with_reducible refine stop_append rfl ?_)
      refine appJ w1 rfl _ _ rfl rfl rfl HP.out (fun _ _ => trivial) (Kd.R_below HO.out HA8.out) (below_step HW.out HA8.out) (by have h1 := ra_len s; have h2 := HLT.out; have h3 := HM.out; rw [List.length_append, List.length_map, List.length_take]; omega) ?_
      intro v9 w9 ho hb hk
      have HO9 := Aside0.mk ho
      have HB9 := Aside0.mk hb
      clear ho hb hk q0 q1 q2 q3 q4 q5
      go_wp2
      have h8 := wr_succ (m := i) (by have := HLT.out; have := HM.out; omega)
      go_roundw
      case rel =>
        refine ⟨i + 1, HLT.out, by first | rfl | (rw [h8]; rfl), ⟨?_⟩, HB9⟩
        rw [HTK.out, List.map_append, ← List.append_assoc]
        exact HO9.out
      case measure =>
        have h9 := HLT.out
        first
          | (show n - ((i : Int) + 1).toNat < n - (i : Int).toNat; omega)
          | (show n - (intOf (.int .i64 (wrap64 ((i : Int) + 1)))).toNat < n - (intOf (.int .i64 (i : Int))).toNat
             rw [h8]
             show n - ((i : Int) + 1).toNat < n - (i : Int).toNat
             omega)
    obtain rfl : i = n := by omega
    have hd1 : decide ((i : Int) < (i : Int)) = false := decide_eq_false (by omega)
    have hd2 : decide (i < i) = false := decide_eq_false (by omega)
    have HO8 := Aside0.mk (show RJ w1 wr (fun _ => True) u5 (s.ra ++ s.es.map recEnt) by
      have h := HO.out
      rw [List.take_of_length_le (by rw [HN.out]; exact Nat.le_refl _)] at h
      exact h)
    have HGr := Aside0.mk ((HW.out.block g (blk_lt HG.out)).trans HG.out)
    clear hlt hi
    have a4 := (blk_cell HGr.out 4).trans rfl
    have a8 := (blk_cell HGr.out 8).trans rfl
    go_upto_if 115 with (fail)
    go_cut [5] (fun v5 wc => RJ w1 wc (fun _ => True) v5 s.recs ∧ Below w1.heap.size w1 wc)
    case first =>
      by_cases h0 : s.st < s.co
      · have c0 : decide (s.st < s.co) = true := decide_eq_true h0
        have HR6 := Aside0.mk (show s.recs = s.ra ++ s.es.map recEnt ++ [recCom s.co] by unfold SV.recs SV.r6; rw [if_pos h0])
        clear h0
        rw [c0]
        go_wp2_with (with_reducible refine stop_append rfl ?_)
        refine appJ w1 (v := u5) (l := s.ra ++ s.es.map recEnt) rfl (.tmp 116) (.tmp 120) rfl rfl rfl (held_none w1 (recCom s.co) rfl) (fun _ _ => trivial) HO8.out HW.out (by have h1 := ra_len s; have h3 := HM.out; have h4 := HN.out; rw [List.length_append, List.length_map]; omega) ?_
        intro v3 w3 ho hb hk
        have HO := Aside0.mk ho
        have HBB := Aside0.mk hb
        clear ho hb hk
        go_wp2; go_meet
        case rel => exact ⟨by rw [HR6.out]; exact HO.out, HBB.out⟩
      · have c0 : decide (s.st < s.co) = false := decide_eq_false h0
        have HR6 := Aside0.mk (show s.recs = s.ra ++ s.es.map recEnt by unfold SV.recs SV.r6; rw [if_neg h0, List.append_nil])
        clear h0
        rw [c0]
        go_wp2; go_meet
        case rel => exact ⟨by rw [HR6.out]; exact HO8.out, HW.out⟩
    obtain ⟨ho, hb⟩ := hcut
    obtain ⟨w9, hw9⟩ : ∃ w9, w9 = wc := ⟨_, rfl⟩
    rw [← hw9] at ho hb ⊢
    obtain ⟨A9, c9, rfl⟩ := Kd.R_slice ho
    obtain ⟨K, hK⟩ : ∃ K, K = s.recs.length := ⟨_, rfl⟩
    rw [← hK] at ho ⊢
    have HK := Aside0.mk hK
    have HKM := Aside0.mk (show K ≤ 1000006 by have h1 := recs_len s; have h2 := HM.out; have h3 := HN.out; omega)
    have HCJ := Aside0.mk (show Kd.C kJ w9 A9 K s.recs by
      have h := heldK_C hb (Kd.R_reads' ho).2.2
      rwa [← hK] at h)
    have HW9 := Aside0.mk hb
    clear ho hb hw9 hK a4 a8
    go_wp2
    go_loopw [9, 124] (fun v9 v124 wr => ∃ j : Nat, j ≤ K ∧ v124 = .int .i64 (j : Int) ∧ Aside0 (R8 wr w9.heap.size v9 (encAll 0 (s.recs.take j))) ∧ Aside0 (Below w9.heap.size w9 wr)) (fun _ v124 _ => K - (intOf v124).toNat)
    case atStart => exact ⟨0, Nat.zero_le _, rfl, ⟨Kd.R_nil _ _ _ _ _⟩, ⟨Below.refl _ _⟩⟩
    case round =>
      obtain ⟨j, hj, rfl, HO, HV⟩ := hrel
      by_cases hlt : j < K
      · have hd1 : decide ((j : Int) < (K : Int)) = true := decide_eq_true (by omega)
        have hd2 : decide (j < K) = true := decide_eq_true hlt
        have HLT := Aside0.mk hlt
        have i1 : (j < K) = True := eq_true hlt
        have i2 : ((j : Int) < (K : Int)) = True := eq_true (by omega)
        obtain ⟨ad, A1, c1, rfl, f0, f1, f2, f3, f4, f5, f6, f7, f8, f9, f10, f11, f12, hlc, hCo⟩ := at_J HCJ.out (j : Int) (by omega) (by omega)
        have htk : s.recs.take (j + 1) = s.recs.take j ++ [rd_J s.recs (j : Int)] := by
          have e : rd_J s.recs (j : Int) = s.recs[j]'(by rw [← HK.out]; exact hlt) := by
            unfold rd_J
            rw [Int.toNat_natCast, List.getD_eq_getElem?_getD, List.getElem?_eq_getElem (by rw [← HK.out]; exact hlt)]
            rfl
          rw [e, List.take_succ_eq_append_getElem (by rw [← HK.out]; exact hlt)]
        obtain ⟨y, hy⟩ : ∃ y, rd_J s.recs (j : Int) = y := ⟨_, rfl⟩
        rw [hy, Int.toNat_natCast] at f0 f1 f2 f3 f4 f5 f6 f7 f8 f9 f10 f11 f12
        rw [hy] at hlc hCo htk
        obtain ⟨m6, hm6⟩ : ∃ m6, m6 = y.ops.length := ⟨_, rfl⟩
        rw [← hm6] at f6 hlc hCo
        replace f0 := pw_cell_below HV.out f0
        replace f1 := pw_cell_below HV.out f1
        replace f2 := pw_cell_below HV.out f2
        replace f3 := pw_cell_below HV.out f3
        replace f4 := pw_cell_below HV.out f4
        replace f5 := pw_cell_below HV.out f5
        replace f6 := pw_cell_below HV.out f6
        replace f7 := pw_cell_below HV.out f7
        replace f8 := pw_cell_below HV.out f8
        replace f9 := pw_cell_below HV.out f9
        replace f10 := pw_cell_below HV.out f10
        replace f11 := pw_cell_below HV.out f11
        replace f12 := pw_cell_below HV.out f12
        have HCO := Aside0.mk (Kd.C_below hCo HV.out)
        have HLC := Aside0.mk hlc
        have HM6 := Aside0.mk hm6
        have HTK := Aside0.mk (show encAll 0 (s.recs.take (j + 1)) = encAll 0 (s.recs.take j) ++ (y.enc ((j : Int) + 1)).1 by
          rw [htk, encAll_snoc, List.length_take, show 0 + min j s.recs.length = j by rw [← HK.out]; omega])
        have hws := wr_succ (m := j) (by have := HLT.out; have := HKM.out; omega)
        clear hCo hlc hm6 hy hlt htk
        go_upto_region 26 with (fail)
        obtain ⟨w10, hw10⟩ : ∃ w10, w10 = wr.alloc (.cells (recCells y.kd y.s y.v y.k y.se y.rq A1 m6 c1 y.vn y.vp y.vb y.st y.of y.x) 28) := ⟨_, rfl⟩
        obtain ⟨g10, hg10⟩ : ∃ g10, g10 = wr.heap.size := ⟨_, rfl⟩
        rw [← hw10]
        try rw [← hg10]
        have HA10 := Aside0.mk (show Below wr.heap.size wr w10 by rw [hw10]; exact below_alloc (Below.refl _ _) _)
        have HG10 := Aside0.mk (show w10.heap[g10]? = some (.cells (recCells y.kd y.s y.v y.k y.se y.rq A1 m6 c1 y.vn y.vp y.vb y.st y.of y.x) 28 (0, 0)) by rw [hw10, hg10]; exact heap_alloc_new wr _)
        clear hw10 hg10 f0 f1 f2 f3 f4 f5 f6 f7 f8 f9 f10 f11 f12
        have q0 := (blk_cell HG10.out 0).trans rfl
        have q1 := (blk_cell HG10.out 1).trans rfl
        have q2 := (blk_cell HG10.out 2).trans rfl
        have q3 := (blk_cell HG10.out 3).trans rfl
        have q4 := (blk_cell HG10.out 4).trans rfl
        have q5 := (blk_cell HG10.out 5).trans rfl
        have q6 := (blk_cell HG10.out 6).trans rfl
        have q7 := (blk_cell HG10.out 7).trans rfl
        have q8 := (blk_cell HG10.out 8).trans rfl
        have q9 := (blk_cell HG10.out 9).trans rfl
        have q10 := (blk_cell HG10.out 10).trans rfl
        have q11 := (blk_cell HG10.out 11).trans rfl
        have q12 := (blk_cell HG10.out 12).trans rfl
        go_wp2_with fail
        obtain ⟨r, hr⟩ : ∃ r, r = y.enc ((j : Int) + 1) := ⟨_, rfl⟩
        have HR := Aside0.mk hr
        have HRL := Aside0.mk (show r.1.length ≤ 4000000 by rw [hr]; exact enc_len y _)
        rw [← hr] at HTK
        refine (encode_C ((j : Int) + 1) y.kd y.s y.v y.k y.se y.rq A1 c1 m6 y.ops y.vn y.vp y.vb y.st y.of y.x w10 HM6.out.symm (Kd.C_below HCO.out HA10.out) HLC.out r.1 r.2 (by rw [hr])).mono ?_
        rintro e1 w11 ⟨V, rfl, hv, hb⟩
        have HB11 := Aside0.mk (below_step HA10.out hb)
        have HO11 := Aside0.mk (Kd.R_below HO.out HB11.out)
        have HV11 := Aside0.mk (below_step HV.out HB11.out)
        obtain ⟨A7, c7, rfl, hc7, hC7⟩ := Kd.R_reads hv
        obtain ⟨m7, hm7⟩ : ∃ m7, m7 = r.1.length := ⟨_, rfl⟩
        rw [← hm7] at hC7
        have HC7 := Aside0.mk hC7
        have HM7 := Aside0.mk hm7
        rw [← hm7]
        clear hv hb hr hC7 hc7 hm7 q0 q1 q2 q3 q4 q5 q6 q7 q8 q9 q10 q11 q12
        go_wp2_with (with_reducible refine stop_append rfl ?_)
        refine app8 (xs := encAll 0 (s.recs.take j)) (ys := r.1) w9 w9.heap.size rfl _ _ rfl rfl rfl HO11.out HC7.out HV11.out HV11.out.size (by
          have h1 := encAll_len (s.recs.take j) 0
          have h2 := HLT.out
          have h3 := HKM.out
          have h4 := HM7.out
          have h5 := HRL.out
          rw [List.length_take] at h1
          have h6 : 4000000 * min j s.recs.length ≤ 4000000 * j := Nat.mul_le_mul_left _ (Nat.min_le_left _ _)
          omega) ?_
        intro v12 w12 ho hb hg hat
        have HO12 := Aside0.mk ho
        have HB12 := Aside0.mk hb
        clear ho hb hg hat
        go_wp2
        go_roundw
        case rel =>
          refine ⟨j + 1, HLT.out, by first | rfl | (rw [hws]; rfl), ⟨?_⟩, HB12⟩
          rw [HTK.out]
          exact HO12.out
        case measure =>
          have h9 := HLT.out
          first
            | (show K - ((j : Int) + 1).toNat < K - (j : Int).toNat; omega)
            | (show K - (intOf (.int .i64 (wrap64 ((j : Int) + 1)))).toNat < K - (intOf (.int .i64 (j : Int))).toNat
               rw [hws]
               show K - ((j : Int) + 1).toNat < K - (j : Int).toNat
               omega)
      obtain rfl : j = K := by omega
      have hd1 : decide ((j : Int) < (j : Int)) = false := decide_eq_false (by omega)
      have hd2 : decide (j < j) = false := decide_eq_false (by omega)
      have HOF := Aside0.mk (show R8 wr w.heap.size u9 (encAll 0 s.recs) by
        have h := HO.out
        rw [List.take_of_length_le (by rw [← HK.out]; exact Nat.le_refl _)] at h
        exact Kd.R_lower h (by have h1 := HB1.out.size; have h2 := HW9.out.size; omega))
      clear hlt hj
      go_wp2
      refine bodyPost_ret (results_tmp3 rfl _ _ _) rfl ?_
      exact ⟨_, by rw [← HK.out]; rfl, HOF.out, below_step HB1.out (below_step HW9.out HV.out)⟩

set_option maxHeartbeats 16000000 in
set_option maxRecDepth 100000 in
theorem saved_N (s : SV) (E E2 : Option Addr) (n ce ce2 : Nat) (w : World) (hn : s.es.length = n) (hm : n ≤ 1000000) (hA : Kd.C k24 w E n s.es) (hB : Kd.C k24 w E2 n s.es) (hops : ∀ e ∈ s.es, e.f5.length ≤ 2513169434843) :
    Calls Try.prog 21 #[.agg (s.cells E n ce), .agg (s.cells E2 n ce2)] w fun e w' => e = .returned (.bool true) ∧ Below w.heap.size w w' := by
  have hu53 := Try.underlying53
  have hu26 := Try.underlying26
  have hu24 := Try.underlying24
  have HN := Aside0.mk hn
  have HM := Aside0.mk hm
  have HA := Aside0.mk hA
  have HB := Aside0.mk hB
  have HOP := Aside0.mk hops
  clear hn hm hA hB hops
  go_enter Try.func21, Try.ntmps21
  go_upto_region 1 with (fail)
  obtain ⟨g, hg⟩ : ∃ g, g = w.heap.size := ⟨_, rfl⟩
  obtain ⟨w1, hw1⟩ : ∃ w1, w1 = w.alloc (.cells (s.cells E n ce) 53) := ⟨_, rfl⟩
  have hz1 : w1.heap.size = g + 1 := by rw [hw1, hg]; simp
  obtain ⟨w2, hw2⟩ : ∃ w2, w2 = w1.alloc (.cells (s.cells E2 n ce2) 53) := ⟨_, rfl⟩
  obtain ⟨g2, hg2⟩ : ∃ g2, g2 = g + 1 := ⟨_, rfl⟩
  rw [← hw1]
  have hsz : w.heap.size + 1 = g2 := by rw [hg2, hg]
  rw [hsz]
  rw [← hw2, ← hg]
  have hbA : Below w.heap.size w w1 := by rw [hw1]; exact below_alloc (Below.refl _ _) _
  have hbB : Below w1.heap.size w1 w2 := by rw [hw2]; exact below_alloc (Below.refl _ _) _
  have HB2 := Aside0.mk (show Below w.heap.size w w2 from below_step hbA hbB)
  clear hbA hbB
  have HG := Aside0.mk (show w2.heap[g]? = some (.cells (s.cells E n ce) 53 (0, 0)) by
    rw [hw2]
    exact ((below_alloc (Below.refl _ _) _ : Below w1.heap.size w1 _).block g (by omega)).trans (by rw [hw1, hg]; exact heap_alloc_new w _))
  have HG2 := Aside0.mk (show w2.heap[g2]? = some (.cells (s.cells E2 n ce2) 53 (0, 0)) by rw [hw2, hg2, ← hz1]; exact heap_alloc_new w1 _)
  have HA2 := Aside0.mk (Kd.C_below HA.out HB2.out)
  have HB3 := Aside0.mk (Kd.C_below HB.out HB2.out)
  clear hg hw1 hz1 hw2 hg2 hsz
  have a0 := (blk_cell HG.out 0).trans rfl
  have b0 := (blk_cell HG2.out 0).trans rfl
  have a1 := (blk_cell HG.out 1).trans rfl
  have b1 := (blk_cell HG2.out 1).trans rfl
  have a2 := (blk_cell HG.out 2).trans rfl
  have b2 := (blk_cell HG2.out 2).trans rfl
  have a3 := (blk_cell HG.out 3).trans rfl
  have b3 := (blk_cell HG2.out 3).trans rfl
  have a4 := (blk_cell HG.out 4).trans rfl
  have b4 := (blk_cell HG2.out 4).trans rfl
  have a5 := (blk_cell HG.out 5).trans rfl
  have b5 := (blk_cell HG2.out 5).trans rfl
  have a6 := (blk_cell HG.out 6).trans rfl
  have b6 := (blk_cell HG2.out 6).trans rfl
  have a7 := (blk_cell HG.out 7).trans rfl
  have b7 := (blk_cell HG2.out 7).trans rfl
  have a8 := (blk_cell HG.out 8).trans rfl
  have b8 := (blk_cell HG2.out 8).trans rfl
  go_wp2
  clear a0 b0 a1 b1 a2 b2 a3 b3 a4 b4 a5 b5 a6 b6 a7 b7 a8 b8
  go_loopw [5] (fun v5 wr => ∃ i : Nat, i ≤ n ∧ v5 = .int .i64 (i : Int) ∧ Aside0 (Below w2.heap.size w2 wr)) (fun v5 _ => n - (intOf v5).toNat)
  case atStart => exact ⟨0, Nat.zero_le _, rfl, ⟨Below.refl _ _⟩⟩
  case round =>
    obtain ⟨i, hi, rfl, HW⟩ := hrel
    have HGr := Aside0.mk ((HW.out.block g (blk_lt HG.out)).trans HG.out)
    have HG2r := Aside0.mk ((HW.out.block g2 (blk_lt HG2.out)).trans HG2.out)
    have x7 : wr.cell? ⟨g, 7, none⟩ = some (.slice E n ce) := (blk_cell HGr.out 7).trans rfl
    by_cases hlt : i < n
    · have hd1 : decide ((i : Int) < (n : Int)) = true := decide_eq_true (by omega)
      have hd2 : decide (i < n) = true := decide_eq_true hlt
      have HLT := Aside0.mk hlt
      have i1 : (i < n) = True := eq_true hlt
      have i2 : ((i : Int) < (n : Int)) = True := eq_true (by omega)
      obtain ⟨ad, A5, c5, rfl, p0, p1, p2, p3, p4, p5, l5, C5⟩ := at_T24 HA2.out (i : Int) (by omega) (by omega)
      obtain ⟨bd, A6, c6, rfl, q0, q1, q2, q3, q4, q5, l6, C6⟩ := at_T24 HB3.out (i : Int) (by omega) (by omega)
      have HEL := Aside0.mk (show (rd_T24 s.es (i : Int)).f5.length ≤ 2513169434843 from HOP.out _ (by
        unfold rd_T24
        rw [Int.toNat_natCast, List.getD_eq_getElem?_getD, List.getElem?_eq_getElem (by rw [HN.out]; exact hlt)]
        exact List.getElem_mem _))
      obtain ⟨x, hx⟩ : ∃ x, rd_T24 s.es (i : Int) = x := ⟨_, rfl⟩
      rw [hx] at HEL
      rw [hx, Int.toNat_natCast] at p0 p1 p2 p3 p4 q0 q1 q2 q3 q4
      rw [hx, Int.toNat_natCast] at p5 q5
      rw [hx] at l5 l6 C5 C6
      obtain ⟨m5, hm5⟩ : ∃ m5, x.f5.length = m5 := ⟨_, rfl⟩
      rw [hm5] at p5 q5 l5 l6 C5 C6 HEL
      have HM5 := Aside0.mk hm5
      have HL5 := Aside0.mk (And.intro l5 l6)
      have HC5 := Aside0.mk (Kd.C_below C5 HW.out)
      have HC6 := Aside0.mk (Kd.C_below C6 HW.out)
      clear hx hm5 l5 l6 C5 C6
      replace p0 := pw_cell_below HW.out p0
      replace p1 := pw_cell_below HW.out p1
      replace p2 := pw_cell_below HW.out p2
      replace p3 := pw_cell_below HW.out p3
      replace p4 := pw_cell_below HW.out p4
      replace p5 := pw_cell_below HW.out p5
      replace q0 := pw_cell_below HW.out q0
      replace q1 := pw_cell_below HW.out q1
      replace q2 := pw_cell_below HW.out q2
      replace q3 := pw_cell_below HW.out q3
      replace q4 := pw_cell_below HW.out q4
      replace q5 := pw_cell_below HW.out q5
      go_wp2_with fail
      clear x7
      have x7 : wr.drew.cell? ⟨g, 7, none⟩ = some (.slice (some ad) n ce) := (blk_cell (w := wr.drew) HGr.out 7).trans rfl
      have y7 : wr.drew.cell? ⟨g2, 7, none⟩ = some (.slice (some bd) n ce2) := (blk_cell (w := wr.drew) HG2r.out 7).trans rfl
      replace p0 := pw_cell_below (below_drew1 (Below.refl _ _)) p0
      replace p1 := pw_cell_below (below_drew1 (Below.refl _ _)) p1
      replace p2 := pw_cell_below (below_drew1 (Below.refl _ _)) p2
      replace p3 := pw_cell_below (below_drew1 (Below.refl _ _)) p3
      replace p4 := pw_cell_below (below_drew1 (Below.refl _ _)) p4
      replace p5 := pw_cell_below (below_drew1 (Below.refl _ _)) p5
      replace q0 := pw_cell_below (below_drew1 (Below.refl _ _)) q0
      replace q1 := pw_cell_below (below_drew1 (Below.refl _ _)) q1
      replace q2 := pw_cell_below (below_drew1 (Below.refl _ _)) q2
      replace q3 := pw_cell_below (below_drew1 (Below.refl _ _)) q3
      replace q4 := pw_cell_below (below_drew1 (Below.refl _ _)) q4
      replace q5 := pw_cell_below (below_drew1 (Below.refl _ _)) q5
      refine start_ (n := 12) (S := fun w' => w'.cell? ⟨g, 7, none⟩ = some (.slice (some ad) n ce) ∧ w'.cell? ⟨g2, 7, none⟩ = some (.slice (some bd) n ce2) ∧ w'.cell? (ad.add (i * 6)) = some (.int .i64 x.f0) ∧ w'.cell? ⟨(ad.add (i * 6)).block, (ad.add (i * 6)).off + 1, none⟩ = some (.int .i64 x.f1) ∧ w'.cell? ⟨(ad.add (i * 6)).block, (ad.add (i * 6)).off + 2, none⟩ = some (.int .i64 x.f2) ∧ w'.cell? ⟨(ad.add (i * 6)).block, (ad.add (i * 6)).off + 3, none⟩ = some (.int .i64 x.f3) ∧ w'.cell? ⟨(ad.add (i * 6)).block, (ad.add (i * 6)).off + 4, none⟩ = some (.int .i64 x.f4) ∧ w'.cell? ⟨(ad.add (i * 6)).block, (ad.add (i * 6)).off + 5, none⟩ = some (.slice A5 m5 c5) ∧ w'.cell? (bd.add (i * 6)) = some (.int .i64 x.f0) ∧ w'.cell? ⟨(bd.add (i * 6)).block, (bd.add (i * 6)).off + 1, none⟩ = some (.int .i64 x.f1) ∧ w'.cell? ⟨(bd.add (i * 6)).block, (bd.add (i * 6)).off + 2, none⟩ = some (.int .i64 x.f2) ∧ w'.cell? ⟨(bd.add (i * 6)).block, (bd.add (i * 6)).off + 3, none⟩ = some (.int .i64 x.f3) ∧ w'.cell? ⟨(bd.add (i * 6)).block, (bd.add (i * 6)).off + 4, none⟩ = some (.int .i64 x.f4) ∧ w'.cell? ⟨(bd.add (i * 6)).block, (bd.add (i * 6)).off + 5, none⟩ = some (.slice A6 m5 c6)) (ds := []) bq70 (by kernel_rfl) rfl rfl ⟨x7, y7, p0, p1, p2, p3, p4, p5, q0, q1, q2, q3, q4, q5⟩ (fun hHeld => ?_)
      refine pure_ (i := 0) (N := some 63) (v := ?_) (a' := ?_) bq71 rfl rfl (by kernel_rfl) (fun _ _ _ h => h) (Or.inl ⟨by rfl, ?_⟩) ?_ ?_
      rotate_left
      · intro w'; go_simp; with_reducible rfl
      rotate_left
      · simp only [sxx]; rfl
      refine pure_ (i := 2) (N := some 65) (v := ?_) (a' := ?_) bq195 rfl rfl (by kernel_rfl) (fun _ _ _ h => h) (Or.inl ⟨by rfl, ?_⟩) ?_ ?_
      rotate_left
      · intro w'; go_simp; with_reducible rfl
      rotate_left
      · simp only [sxx]; rfl
      refine pure_ (i := 5) (N := some 68) (v := ?_) (a' := ?_) bq196 rfl rfl (by kernel_rfl) (fun _ _ _ h => h) (Or.inl ⟨by rfl, ?_⟩) ?_ ?_
      rotate_left
      · intro w'; go_simp; with_reducible rfl
      rotate_left
      · simp only [sxx]; rfl
      refine pure_ (i := 7) (N := some 70) (v := ?_) (a' := ?_) bq197 rfl rfl (by kernel_rfl) (fun _ _ _ h => h) (Or.inl ⟨by rfl, ?_⟩) ?_ ?_
      rotate_left
      · intro w'; go_simp; with_reducible rfl
      rotate_left
      · simp only [sxx]; rfl
      refine take_ (i := 1) (N := some 64) (v := ?_) (a' := ?_) bq198 rfl rfl (by kernel_rfl) (fun _ _ _ h => h) (Or.inl ⟨by rfl, ?_⟩) hHeld ?_ ?_
      rotate_left
      · rintro w' ⟨s0, s1, s2, s3, s4, s5, s6, s7, s8, s9, s10, s11, s12, s13⟩
        go_simp; with_reducible rfl
      rotate_left
      · simp only [sxx]; rfl
      refine pure_ (i := 3) (N := some 66) (v := ?_) (a' := ?_) bq199 rfl rfl (by kernel_rfl) (fun _ _ _ h => h) (Or.inl ⟨by rfl, ?_⟩) ?_ ?_
      rotate_left
      · intro w'; go_simp; with_reducible rfl
      rotate_left
      · simp only [sxx]; rfl
      refine take_ (i := 4) (N := some 67) (v := ?_) (a' := ?_) bq200 rfl rfl (by kernel_rfl) (fun _ _ _ h => h) (Or.inl ⟨by rfl, ?_⟩) hHeld ?_ ?_
      rotate_left
      · rintro w' ⟨s0, s1, s2, s3, s4, s5, s6, s7, s8, s9, s10, s11, s12, s13⟩
        go_simp; with_reducible rfl
      rotate_left
      · simp only [sxx]; rfl
      refine take_ (i := 6) (N := some 69) (v := ?_) (a' := ?_) bq78 rfl rfl (by kernel_rfl) (fun _ _ _ h => h) (Or.inl ⟨by rfl, ?_⟩) hHeld ?_ ?_
      rotate_left
      · rintro w' ⟨s0, s1, s2, s3, s4, s5, s6, s7, s8, s9, s10, s11, s12, s13⟩
        go_simp; with_reducible rfl
      rotate_left
      · simp only [sxx]; rfl
      refine pure_ (i := 8) (N := some 71) (v := ?_) (a' := ?_) bq79 rfl rfl (by kernel_rfl) (fun _ _ _ h => h) (Or.inl ⟨by rfl, ?_⟩) ?_ ?_
      rotate_left
      · intro w'; go_simp; with_reducible rfl
      rotate_left
      · simp only [sxx]; rfl
      refine take_ (i := 9) (N := some 72) (v := ?_) (a' := ?_) bq80 rfl rfl (by kernel_rfl) (fun _ _ _ h => h) (Or.inl ⟨by rfl, ?_⟩) hHeld ?_ ?_
      rotate_left
      · rintro w' ⟨s0, s1, s2, s3, s4, s5, s6, s7, s8, s9, s10, s11, s12, s13⟩
        go_simp; with_reducible rfl
      rotate_left
      · simp only [sxx]; rfl
      refine one_ (i := 10) (N := some 73) bq81 rfl rfl (by kernel_rfl) (by decide) (fun K hK => ?_)
      refine goes_ Try.func34 (by kernel_rfl) rfl #[.agg #[.int .i64 x.f0, .int .i64 x.f1, .int .i64 x.f2, .int .i64 x.f3, .int .i64 x.f4, .slice A5 m5 c5], .agg #[.int .i64 x.f0, .int .i64 x.f1, .int .i64 x.f2, .int .i64 x.f3, .int .i64 x.f4, .slice A6 m5 c6]] (by rfl) rfl rfl (by simp only [mxx]; rfl) ?_
      with_reducible refine (entry_N x.f0 x.f1 x.f2 x.f3 x.f4 x.f5 A5 A6 c5 c6 m5 _ HM5.out (by have := HEL.out; omega) (Kd.C_below HC5.out (below_drew1 (Below.refl _ _))) HL5.out.1 (Kd.C_below HC6.out (below_drew1 (Below.refl _ _))) HL5.out.2).mono ?_
      rintro e u3 ⟨rfl, hb⟩
      refine ⟨_, rfl, ?_⟩
      have HU := Aside0.mk hb
      clear hb
      refine hK.out _ _ ⟨pw_cell_below HU.out x7, pw_cell_below HU.out y7, pw_cell_below HU.out p0, pw_cell_below HU.out p1, pw_cell_below HU.out p2, pw_cell_below HU.out p3, pw_cell_below HU.out p4, pw_cell_below HU.out p5, pw_cell_below HU.out q0, pw_cell_below HU.out q1, pw_cell_below HU.out q2, pw_cell_below HU.out q3, pw_cell_below HU.out q4, pw_cell_below HU.out q5⟩ (fun hHeld => ?_)
      clear hK K
      refine norm_ (a' := ?_) ?_ ?_
      rotate_left
      · show Act.put _ (some 73) _ = _
        simp only [sxx]; rfl
      refine pure_ (i := 11) (N := some 6) (v := ?_) (a' := ?_) bq82 rfl rfl (by kernel_rfl) (fun _ _ _ h => h) (Or.inl ⟨by rfl, ?_⟩) ?_ ?_
      rotate_left
      · intro w'; go_simp; with_reducible rfl
      rotate_left
      · simp only [sxx]; rfl
      refine done_ (by kernel_rfl) ?_
      go_wp2
      go_roundw
      case rel => exact ⟨i + 1, HLT.out, by rw [wr_succ (m := i) (by have := HLT.out; have := HM.out; omega)]; rfl, ⟨below_step HW.out (below_then (below_drew1 (Below.refl _ _)) (Nat.le_refl _) HU.out)⟩⟩
      case measure =>
        have h9 := HLT.out
        have h8 := wr_succ (m := i) (by have := HLT.out; have := HM.out; omega)
        show n - (intOf (.int .i64 (wrap64 ((i : Int) + 1)))).toNat < n - (intOf (.int .i64 (i : Int))).toNat
        rw [h8]
        show n - ((i : Int) + 1).toNat < n - (i : Int).toNat
        omega
    · have hd1 : decide ((i : Int) < (n : Int)) = false := decide_eq_false (by omega)
      have hd2 : decide (i < n) = false := decide_eq_false hlt
      go_wp2; go_ret
      exact ⟨rfl, below_step HB2.out HW.out⟩

abbrev b23 : List Int := [74, 82, 2, 0, 0, 0, 0, 1, 0, 0, 0, 3, 33, 207, 85, 44, 1, 1, 2, 223, 77, 86, 173]
set_option maxRecDepth 100000 in
theorem b23_enc : recEnc 1 2 0 0 0 0 0 [] 1 1 2 0 0 ⟨#[]⟩ = (b23, 0) := by
  decide +kernel
abbrev y23 : JR := ⟨2, 0, 0, 0, 0, 0, [], 1, 1, 2, 0, 0, ⟨#[]⟩⟩
theorem b23_rd1 : RdSpec b23 1 (some (y23, 23)) := by
  intro w A n c hn hc hC
  have h0 : (23 : Nat) = n := hn
  subst h0
  refine (read_ok w A 23 c b23 1 3 2 0 0 0 0 0 [] 1 1 2 0 0 ⟨#[]⟩ b23 rfl hc (by omega) (by decide +kernel) hC (by omega) (by decide) (by decide) (by decide) (by decide) (by decide +kernel) (by decide +kernel) (by decide +kernel) (by decide +kernel) b23_enc ?_).mono ?_
  · intro w1 rb A' c' hb hrb hc' hg hC'
    refine (rd_view w w1 rb 3 c' A' [1, 1, 2] 1 1 1 2 2 rfl hc' (by decide) (by omega) hC' hb hrb hg (by decide +kernel) (by decide +kernel) (by decide +kernel)).mono ?_
    rintro e w' ⟨rfl, hf⟩
    exact ⟨none, 0, 0, rfl, rfl, Kd.R_nil _ _ _ _ _, hf⟩
  · rintro e w' ⟨B, nb, cb, rfl, hl, hr, hb⟩
    obtain rfl : 0 = nb := hl
    exact ⟨B, cb, rfl, hr, hb⟩
theorem b23_rd2 : RdSpec [] 2 none := by
  intro w A n c hn hc hC
  obtain rfl : 0 = n := hn
  exact read_short w A 0 c 2 (by omega)
theorem b23_walks : Walks b23 0 0 [y23] := ⟨23, b23_rd1, by omega, by decide, b23_rd2⟩
attribute [local go_sem] Oper.semAt_some

/-- A block of cells. -/
def Celly (W : World) (j : Nat) : Prop := ∃ cs q, W.heap[j]? = some (.cells cs q (0, 0))
theorem Celly.lt {W : World} {j : Nat} (h : Celly W j) : j < W.heap.size := by obtain ⟨cs, q, h⟩ := h; exact blk_lt h
theorem R_celly {α : Type} {d : Kd α} {e base : Nat} {ok : Nat → Prop} {w : World} {v : Value} {xs : List α} (h : d.R e w base ok v xs) : d.R e w base (fun k => ok k ∧ base ≤ k ∧ Celly w k) v xs :=
  Kd.R_mono (Kd.R_bound h) (fun k hk => ⟨hk.1, hk.2.1, by obtain ⟨q, _, cs, hc⟩ := hk.2.2.2; exact ⟨cs, q, hc⟩⟩)
/-- What a turn of a block that is no cells, or new blocks, leave alone. -/
theorem celly_grown {W W' : World} {row : Option Nat} {j B : Nat} (hc : Celly W j) (hg : W.grownBy W' row) (hr : ∀ r, row = some r → B ≤ r ∧ ∃ o : Obj, W.heap[r]? = some o ∧ o.isCells = false) : W'.heap[j]? = W.heap[j]? := by
  obtain ⟨cs, q, h⟩ := hc
  refine hg.block j (blk_lt h) (fun e => ?_)
  obtain ⟨_, o, ho, hc⟩ := hr j e.symm
  rw [h] at ho
  cases ho
  cases hc
theorem Celly.grown {W W' : World} {row : Option Nat} {j B : Nat} (hc : Celly W j) (hg : W.grownBy W' row) (hr : ∀ r, row = some r → B ≤ r ∧ ∃ o : Obj, W.heap[r]? = some o ∧ o.isCells = false) : Celly W' j := by
  have := celly_grown hc hg hr
  obtain ⟨cs, q, h⟩ := hc
  exact ⟨cs, q, this.trans h⟩
theorem blk_celly {W W' : World} {row : Option Nat} {j B : Nat} {cs : Array Value} {q : TypeId} (h : W.heap[j]? = some (.cells cs q (0, 0))) (hg : W.grownBy W' row) (hr : ∀ r, row = some r → B ≤ r ∧ ∃ o : Obj, W.heap[r]? = some o ∧ o.isCells = false) : W'.heap[j]? = some (.cells cs q (0, 0)) := (celly_grown ⟨cs, q, h⟩ hg hr).trans h
theorem szA (W : World) (o : Obj) : (W.alloc o).heap.size = W.heap.size + 1 := by show (W.heap.push o).size = _; rw [Array.size_push]
/-- Walk: a closure over the bytes. -/
theorem Walk_C (A : Option Addr) (n c : Nat) (w : World) : Calls Try.prog 35 #[.slice A n c] w fun e w' => e = .returned (.func (.func 59) #[] #[.pointer (some ⟨w.heap.size, 0, none⟩)]) ∧ w' = w.alloc (.cells #[.slice A n c] 29) := by
  have hmf : ∀ (fn : Fn) (first cap : Array Value) (w : World), (Instr.makeFunc fn first cap).run Try.prog w = .ok (.func fn first cap) w := fun _ _ _ _ => rfl
  go_enter Try.func35, Try.ntmps35
  go_wp2; go_ret
  exact ⟨rfl, rfl⟩
theorem blk5 (w : World) (o0 o1 o2 o3 o4 : Obj) {W : World} (hW : W = ((((w.alloc o0).alloc o1).alloc o2).alloc o3).alloc o4) : W.heap[w.heap.size]? = some o0 ∧ W.heap[w.heap.size + 1]? = some o1 ∧ W.heap[w.heap.size + 2]? = some o2 ∧ W.heap[w.heap.size + 3]? = some o3 ∧ W.heap[w.heap.size + 4]? = some o4 ∧ W.heap.size = w.heap.size + 5 ∧ Below w.heap.size w W := by
  subst hW
  have s1 := szA w o0
  have s2 := szA (w.alloc o0) o1
  have s3 := szA ((w.alloc o0).alloc o1) o2
  have s4 := szA (((w.alloc o0).alloc o1).alloc o2) o3
  have s5 := szA ((((w.alloc o0).alloc o1).alloc o2).alloc o3) o4
  have n0 := heap_alloc_new w o0
  have n1 := heap_alloc_new (w.alloc o0) o1
  have n2 := heap_alloc_new ((w.alloc o0).alloc o1) o2
  have n3 := heap_alloc_new (((w.alloc o0).alloc o1).alloc o2) o3
  have n4 := heap_alloc_new ((((w.alloc o0).alloc o1).alloc o2).alloc o3) o4
  have b2 : Below (w.alloc o0).heap.size (w.alloc o0) ((w.alloc o0).alloc o1) := below_alloc (Below.refl _ _) _
  have b3 : Below ((w.alloc o0).alloc o1).heap.size ((w.alloc o0).alloc o1) (((w.alloc o0).alloc o1).alloc o2) := below_alloc (Below.refl _ _) _
  have b4 : Below (((w.alloc o0).alloc o1).alloc o2).heap.size (((w.alloc o0).alloc o1).alloc o2) ((((w.alloc o0).alloc o1).alloc o2).alloc o3) := below_alloc (Below.refl _ _) _
  have b5 : Below ((((w.alloc o0).alloc o1).alloc o2).alloc o3).heap.size ((((w.alloc o0).alloc o1).alloc o2).alloc o3) (((((w.alloc o0).alloc o1).alloc o2).alloc o3).alloc o4) := below_alloc (Below.refl _ _) _
  rw [s1] at n1
  rw [s2, s1] at n2
  rw [s3, s2, s1] at n3
  rw [s4, s3, s2, s1] at n4
  refine ⟨?_, ?_, ?_, ?_, ?_, by omega, below_alloc (below_alloc (below_alloc (below_alloc (below_alloc (Below.refl _ _) _) _) _) _) _⟩
  · exact (b5.block _ (by omega)).trans ((b4.block _ (by omega)).trans ((b3.block _ (by omega)).trans ((b2.block _ (by omega)).trans n0)))
  · exact (b5.block _ (by omega)).trans ((b4.block _ (by omega)).trans ((b3.block _ (by omega)).trans n1))
  · exact (b5.block _ (by omega)).trans ((b4.block _ (by omega)).trans n2)
  · exact (b5.block _ (by omega)).trans n3
  · exact n4
abbrev S23 (k : Nat) : Array Value := if k = 0 then savedCells 0 0 0 0 0 0 ⟨#[]⟩ none 0 0 0 else savedCells 1 1 2 0 0 0 ⟨#[]⟩ none 0 0 0
/-- A code that ends as it goes on: no panic is to be thought of. -/
theorem wp_normal {P : Program} {c : Code} {Q : Exit → Act → World → Prop} {a : Act} {w : World} (h : c.wp P (fun e a w => e = .normal ∧ Q .normal a w) a w) : c.wp P Q a w :=
  wp_mono h (fun e a w he => by obtain ⟨rfl, hq⟩ := he; exact hq)
/-- Between two rounds. -/
def RI (w0 : World) (A : Option Addr) (c : Nat) (T : Nat → Prop) (k : Nat) (W : World) : Prop :=
  W.heap[w0.heap.size]? = some (.cells (savedCells 0 0 0 0 0 0 ⟨#[]⟩ none 0 0 0) 53 (0, 0)) ∧ W.heap[w0.heap.size + 1]? = some (.cells (S23 k) 53 (0, 0)) ∧ W.heap[w0.heap.size + 2]? = some (.cells #[.int .i64 (k : Int)] 3 (0, 0)) ∧ W.heap[w0.heap.size + 3]? = some (.cells #[.int .i64 (23 * (k : Int))] 3 (0, 0)) ∧
    W.heap[w0.heap.size + 4]? = some (.cells #[.slice A 23 c] 29 (0, 0)) ∧ Below w0.heap.size w0 W ∧ ∀ j, T j → w0.heap.size + 5 ≤ j
theorem RI_own (w0 : World) (A : Option Addr) (c : Nat) : TOwn (w0.heap.size + 5) (RI w0 A c) := by
  rintro T k W W' row T' ⟨h1, h2, h3, h4, h5, h6, h7⟩ hg hr hT
  refine ⟨blk_celly h1 hg hr, blk_celly h2 hg hr, blk_celly h3 hg hr, blk_celly h4 hg hr, blk_celly h5 hg hr, h6.grown hg h6.size (fun r e => by have := (hr r e).1; omega), fun j hj => ?_⟩
  rcases hT j hj with h | h
  · exact h7 j h
  · have := blk_lt h5
    omega
theorem wr23 : wrap64 23 = 23 := by unfold wrap64; omega
theorem results20_row (tmps : Array Value) (w : World) (p : Nat) (cs : Array Value) (v3 v4 : Value) (h2 : tmps[2]? = some (.pointer (some ⟨p, 0, none⟩))) (h3 : tmps[3]? = some v3) (h4 : tmps[4]? = some v4) (hg : w.heap[p]? = some (.cells cs 53 (0, 0))) (hs : cs.size = 9) :
    (results Try.f20 tmps).run Try.prog w = .ok (.tuple #[.agg cs, v3, v4]) w := by
  have hl := run_loadVar_row (P := Try.prog) w p 53 53 cs (0, 0) _ hg Try.underlying53 rfl (by rw [hs]; kernel_rfl)
  simp [results, Try.results20, h2, h3, h4, asAddr, hl, Sem.run_bind, Sem.run_pure, Result.andThen_ok]
set_option maxHeartbeats 16000000 in
set_option maxRecDepth 100000 in
theorem recover_23 (w : World) (A : Option Addr) (c : Nat) (hC : C8 w A 23 b23) (hc : 23 ≤ c) :
    Calls Try.prog 20 #[.slice A 23 c] w fun e w' => e = .returned (.tuple #[.agg (savedCells 1 1 2 0 0 0 ⟨#[]⟩ none 0 0 0), .int .i64 1, .int .i64 23]) ∧ Below w.heap.size w w' := by
  have HC := Aside0.mk hC
  have HCC := Aside0.mk hc
  have hu53 := Try.underlying53
  have hu28 := Try.underlying28
  have hu26 := Try.underlying26
  have hu24 := Try.underlying24
  clear hC hc
  refine (callsIn_wide (n := 0)).1 (callsIn_of_wp_marks Try.func20 rfl trivial ?_)
  refine (wpIn_wide (n := 0)).2 ?_
  simp only [Try.ntmps20, List.size_toArray, List.length_cons, List.length_nil, Nat.reduceAdd, Nat.reduceSub, Array.replicate_succ, Array.replicate_zero, List.push_toArray, List.append_toArray, List.nil_append, List.cons_append]
  go_wp2_with fail
  refine (Walk_C A 23 c _).mono ?_
  rintro e w1 ⟨rfl, rfl⟩
  obtain ⟨w1, hw1⟩ : ∃ w1, w1 = ((((w.alloc (.cells (savedCells 0 0 0 0 0 0 ⟨#[]⟩ none 0 0 0) 53)).alloc (.cells (savedCells 0 0 0 0 0 0 ⟨#[]⟩ none 0 0 0) 53)).alloc (.cells #[.int .i64 0] 3)).alloc (.cells #[.int .i64 0] 3)).alloc (.cells #[.slice A 23 c] 29) := ⟨_, rfl⟩
  have hsz : ((((w.alloc (.cells (savedCells 0 0 0 0 0 0 ⟨#[]⟩ none 0 0 0) 53)).alloc (.cells (savedCells 0 0 0 0 0 0 ⟨#[]⟩ none 0 0 0) 53)).alloc (.cells #[.int .i64 0] 3)).alloc (.cells #[.int .i64 0] 3)).heap.size = w.heap.size + 4 := by rw [szA, szA, szA, szA]
  obtain ⟨b0, b1, b2, b3, b4, b5, b6⟩ := blk5 w _ _ _ _ _ hw1
  rw [← hw1, hsz]
  have HB := Aside0.mk (And.intro b0 (And.intro b1 (And.intro b2 (And.intro b3 (And.intro b4 (And.intro b5 b6))))))
  clear hw1 hsz b0 b1 b2 b3 b4 b5 b6
  have hI0 : RI w A c (fun _ => False) 0 w1 := ⟨HB.out.1, HB.out.2.1, HB.out.2.2.1, HB.out.2.2.2.1, HB.out.2.2.2.2.1, HB.out.2.2.2.2.2.2, fun j hj => hj.elim⟩
  obtain ⟨b, hb⟩ : ∃ b, b = w.heap.size := ⟨_, rfl⟩
  rw [← hb]
  have HBW := Aside0.mk hb
  clear hb
  go_wp2
  refine rangeWalk (gf := 59) (Bn := b + 4) (fun k y A' c' B => { tmps := #[.slice A 23 c, undef, .pointer (some ⟨b, 0, none⟩), .int .i64 0, .int .i64 0, .pointer (some ⟨b + 1, 0, none⟩), .pointer (some ⟨b + 2, 0, none⟩), .pointer (some ⟨b + 3, 0, none⟩), .int .i64 ((k : Int) + 1), .pointer (some ⟨B, 0, none⟩), undef, undef, undef, .slice A 23 c, .func (.func 59) #[] #[.pointer (some ⟨b + 4, 0, none⟩)], .int .i64 ((k : Int) + 1), .agg (y.cells A' c'), undef, undef, undef, undef, undef, undef, undef, undef, undef, undef, undef, undef, undef, undef, undef, undef, undef, undef, undef, undef, undef, undef, undef], defers := [] }) (fun W => C8 W A 23 b23) [y23] rfl (enters_ Try.func59 (by kernel_rfl) rfl) rfl (RI w A c) (fun _ _ => False) (fun _ => False) ?hI ?hIx ?h0 ?hT0 ?hD ?hit ?assign ?body ?done ?stop
  case hI => exact TOwn.weak (RI_own w A c) (by have := HB.out.2.2.2.2.2.1; omega)
  case hIx => exact fun c s A B row hs hg hr => hs
  case h0 => exact hI0
  case hT0 => exact fun j hj => hj.elim
  case hD => exact fun T k W h => Kd.C_below HC.out h.2.2.2.2.2.1
  case hit =>
    rintro T W ⟨h1, h2, h3, h4, h5, h6, h7⟩
    exact it59 _ A 23 c b23 [y23] W rfl HCC.out (by omega) b23_walks (by rw [HBW.out]; exact blk_cell h5 0)
  case assign =>
    intro l k y A' c' W K hK
    simp only [List.zip_toArray, List.zip_cons_cons, List.zip_nil_left, List.zip_nil_right, List.foldl_toArray, List.foldl_toArray', List.foldl_cons, List.foldl_nil, sx1, sx2, sx3] at hK ⊢
    refine wpIn_seq ?_
    refine region_round l (by rintro ⟨a, w, h⟩; exact h) (by simp) ?_
    go_wp2
    refine region_round l (by rintro ⟨a, w, h⟩; exact h) (by simp) ?_
    go_wp2
    exact hK
  case body =>
    rintro T l k y A' c' okx B W hT hTlt hTl hle hloop hy hI ⟨hR, hokx⟩ hBle hbx
    obtain ⟨rfl, rfl⟩ : k = 0 ∧ y = y23 := by
      cases k with
      | zero => exact ⟨rfl, (Option.some.inj hy).symm⟩
      | succ k => simp at hy
    have hs5 : w1.heap.size = b + 5 := by rw [HBW.out]; exact HB.out.2.2.2.2.2.1
    rw [hs5] at hle hR hokx hBle
    obtain ⟨h1, h2, h3, h4, h5, h6, h7⟩ := hI
    rw [← HBW.out] at h1 h2 h3 h4 h5 h7
    simp only [List.zip_toArray, List.zip_cons_cons, List.zip_nil_left, List.zip_nil_right, List.foldl_toArray, List.foldl_toArray', List.foldl_cons, List.foldl_nil, sx1, sx2, sx3]
    have e01 : (((0 : Nat) : Int) + 1) = 1 := rfl
    rw [e01]
    have F1 := Aside0.mk h1
    have F2 := Aside0.mk (show W.heap[b + 1]? = some (.cells (savedCells 0 0 0 0 0 0 ⟨#[]⟩ none 0 0 0) 53 (0, 0)) from h2)
    have F3 := Aside0.mk (show W.heap[b + 2]? = some (.cells #[.int .i64 0] 3 (0, 0)) from h3)
    have F4 := Aside0.mk (show W.heap[b + 3]? = some (.cells #[.int .i64 0] 3 (0, 0)) from h4)
    have F5 := Aside0.mk h5
    have F6 := Aside0.mk h6
    have F7 := Aside0.mk h7
    have FR := Aside0.mk (show Kd.R k40 40 W (b + 5) okx (.slice A' 0 c') [] from hR)
    have FB := Aside0.mk (show W.heap[B]? = some (.cells (recCells 2 0 0 0 0 0 A' 0 c' 1 1 2 0 0 ⟨#[]⟩) 28 (0, 0)) from hbx)
    have FBL := Aside0.mk hBle
    have FT := Aside0.mk hTlt
    have u0 : W.cell? ⟨B, 0, none⟩ = _ := (blk_cell FB.out 0).trans rfl
    have u1 := (blk_cell FB.out 1).trans rfl
    have u2 := (blk_cell FB.out 2).trans rfl
    have u3 := (blk_cell FB.out 3).trans rfl
    have u4 := (blk_cell FB.out 4).trans rfl
    have u5 := (blk_cell FB.out 5).trans rfl
    have u6 := (blk_cell FB.out 6).trans rfl
    have u7 := (blk_cell FB.out 7).trans rfl
    have u8 := (blk_cell FB.out 8).trans rfl
    have u9 := (blk_cell FB.out 9).trans rfl
    have u10 := (blk_cell FB.out 10).trans rfl
    have u11 := (blk_cell FB.out 11).trans rfl
    have u12 := (blk_cell FB.out 12).trans rfl
    clear h1 h2 h3 h4 h5 h6 h7 hR hokx hTlt hbx hy hI0
    refine wpIn_block ?_
    refine wpIn_seq ?_
    refine region_round l (by rintro ⟨a, w, h⟩; exact h) (by simp) ?_
    go_wp2_with fail
    refine (known_view 0 0 0 0 0 A' 0 c' 1 1 2 0 0 ⟨#[]⟩ W).mono ?_
    rintro e W2 ⟨rfl, hb2⟩
    have G1 := Aside0.mk hb2
    have F2' := Aside0.mk ((hb2.block (b + 1) (blk_lt F2.out)).trans F2.out)
    clear hb2
    go_wp2
    refine wpIn_seq ?_
    refine wpIn_seq ?_
    refine region_round l (by rintro ⟨a, w, h⟩; exact h) (by simp) ?_
    go_wp2_with fail
    refine (fits_view 1 1 2 (b + 1) _ 0 true W2 F2'.out rfl).mono ?_
    rintro e W3 ⟨rfl, hb3⟩
    have G2 := Aside0.mk (below_step G1.out hb3)
    have F2'' := Aside0.mk ((hb3.block (b + 1) (blk_lt F2'.out)).trans F2'.out)
    have d1 : decide ((0 : Int) < 1) = true := rfl
    clear hb3
    clear u0 u1 u2 u3 u4 u5 u6 u7 u8 u9 u10 u11 u12
    go_wp2
    refine wpIn_cond_false (by rfl) ?_
    refine wpIn_skip ?_
    simp only [Exit.then]
    refine wpIn_seq ?_
    refine region_round l (by rintro ⟨a, w, h⟩; exact h) (by simp) ?_
    go_wp2_with fail
    refine (says_view 1 1 2 (b + 1) 0 0 0 0 0 0 ⟨#[]⟩ none 0 0 0 W3 F2''.out).mono ?_
    rintro e W4 ⟨⟨v4, rfl⟩, hp4, hf4⟩
    have G4 := Aside0.mk ((Frm.of_below G2.out (fun k => k = b + 1)).then_ hf4 (fun k h _ => h))
    have P4 := Aside0.mk hp4
    have FB4 := Aside0.mk (G4.out.blk FB.out (by have := FBL.out; omega))
    clear hf4 hp4
    have u0 := (blk_cell FB4.out 0).trans rfl
    have u1 := (blk_cell FB4.out 1).trans rfl
    have u2 := (blk_cell FB4.out 2).trans rfl
    have u3 := (blk_cell FB4.out 3).trans rfl
    have u4 := (blk_cell FB4.out 4).trans rfl
    have u5 := (blk_cell FB4.out 5).trans rfl
    have u6 := (blk_cell FB4.out 6).trans rfl
    have u7 := (blk_cell FB4.out 7).trans rfl
    have u8 := (blk_cell FB4.out 8).trans rfl
    have u9 := (blk_cell FB4.out 9).trans rfl
    have u10 := (blk_cell FB4.out 10).trans rfl
    have u11 := (blk_cell FB4.out 11).trans rfl
    have u12 := (blk_cell FB4.out 12).trans rfl
    go_wp2
    refine wpIn_seq ?_
    refine region_round l (by rintro ⟨a, w, h⟩; exact h) (by simp) ?_
    go_wp2_with fail
    refine (encode_C 1 2 0 0 0 0 0 A' c' 0 [] 1 1 2 0 0 ⟨#[]⟩ W4 rfl (R40_C (R40_any (Kd.R_step (ok := fun k => b + 5 ≤ k) (Kd.R_mono (Kd.R_bound FR.out) (fun k hk => hk.2.1)) (fun k hk hlt => G4.out.block k hlt (fun e => by omega))) (fun _ _ => trivial))) (Nat.zero_le _) b23 0 b23_enc).mono ?_
    rintro e W5 ⟨V, rfl, ho, hb5⟩
    obtain ⟨A3, c3, rfl⟩ : ∃ A3 c3, V = .slice A3 23 c3 := by obtain ⟨A3, c3, h⟩ := Kd.R_slice ho; exact ⟨A3, c3, h⟩
    have G5 := Aside0.mk (G4.out.step hb5)
    have P5 := Aside0.mk ((hb5.block (b + 1) (blk_lt P4.out)).trans P4.out)
    clear hb5 ho u0 u1 u2 u3 u4 u5 u6 u7 u8 u9 u10 u11 u12
    go_wp2
    have F3' := Aside0.mk (G5.out.blk F3.out (by omega))
    have F4' := Aside0.mk (G5.out.blk F4.out (by omega))
    have k2 : W5.cell? ⟨b + 2, 0, none⟩ = some (.int .i64 0) := (blk_cell F3'.out 0).trans rfl
    have f2 := blk_frozen F3'.out 0
    have k3 : W5.cell? ⟨b + 3, 0, none⟩ = some (.int .i64 0) := (blk_cell F4'.out 0).trans rfl
    have f3 := blk_frozen F4'.out 0
    have k3d : W5.drew.cell? ⟨b + 3, 0, none⟩ = some (.int .i64 0) := k3
    refine startIn_ l (by rintro ⟨a, w, h⟩; exact h) (by simp) (n := 7) (S := fun w' => w'.cell? ⟨b + 3, 0, none⟩ = some (.int .i64 0)) (ds := [6]) bq201 (by kernel_rfl) rfl rfl (k3d) (fun hHeld => ?_)
    refine pure_ (i := 0) (N := some 32) (v := ?_) (a' := ?_) bq202 rfl rfl (by kernel_rfl) (fun _ _ _ h => h) (Or.inl ⟨by rfl, ?_⟩) ?_ ?_
    rotate_left
    · intro w'; go_simp; with_reducible rfl
    rotate_left
    · simp only [sxx]; rfl
    refine pure_ (i := 2) (N := some 34) (v := ?_) (a' := ?_) bq203 rfl rfl (by kernel_rfl) (fun _ _ _ h => h) (Or.inl ⟨by rfl, ?_⟩) ?_ ?_
    rotate_left
    · intro w'; go_simp; with_reducible rfl
    rotate_left
    · simp only [sxx]; rfl
    refine pure_ (i := 3) (N := some 35) (v := ?_) (a' := ?_) bq204 rfl rfl (by kernel_rfl) (fun _ _ _ h => h) (Or.inl ⟨by rfl, ?_⟩) ?_ ?_
    rotate_left
    · intro w'; go_simp; with_reducible rfl
    rotate_left
    · simp only [sxx]; rfl
    refine take_ (i := 1) (N := some 33) (v := ?_) (a' := ?_) bq205 rfl rfl (by kernel_rfl) (fun _ _ _ h => h) (Or.inl ⟨by rfl, ?_⟩) hHeld ?_ ?_
    rotate_left
    · intro w' s0; go_simp; with_reducible rfl
    rotate_left
    · simp only [sxx]; rfl
    refine pure_ (i := 4) (N := some 36) (v := ?_) (a' := ?_) bq206 rfl rfl (by kernel_rfl) (fun _ _ _ h => h) (Or.inl ⟨by rfl, ?_⟩) ?_ ?_
    rotate_left
    · intro w'; go_simp; with_reducible rfl
    rotate_left
    · simp only [sxx]; rfl
    refine one_ (i := 5) (N := none) bq207 rfl rfl (by kernel_rfl) (by decide) (fun K hK => ?_)
    refine skip_ (w1 := ?_) (by rfl) rfl ?_ ?_
    rotate_left
    · go_simp; rfl
    refine hK.out _ _ ((by first | exact set_other (by omega) k3d | exact set_other (by omega) k3 | exact drew_cell (set_other (by omega) k3))) (fun hHeld => ?_)
    clear hK K
    refine last_ (i := 6) (N := none) bq208 rfl rfl (by kernel_rfl) (by decide) (fun K hK => ?_)
    refine skip_ (w1 := ?_) (by rfl) rfl ?_ ?_
    rotate_left
    · go_simp; rfl
    refine hK.out _ _ ?_
    clear hK K
    refine done_ (by kernel_rfl) ?_
    obtain ⟨W6, hW6⟩ : ∃ W6, W6 = ((W5.setCell ⟨b + 2, 0, none⟩ (.int .i64 1)).setCell ⟨b + 3, 0, none⟩ (.int .i64 (wrap64 23))).drew := ⟨_, rfl⟩
    rw [← hW6]
    have hF6 : Frm W W6 (fun k => b + 1 ≤ k ∧ k ≤ b + 3) := by
      rw [hW6]
      exact (((G5.out.mono (S1 := fun k => b + 1 ≤ k ∧ k ≤ b + 3) (fun k h _ => by omega)).set_ (p := ⟨b + 2, 0, none⟩) (.inl (by simp only; omega)) _).set_ (p := ⟨b + 3, 0, none⟩) (.inl (by simp only; omega)) _).drew
    have q2 : W6.heap[b + 1]? = some (.cells (savedCells 1 1 2 0 0 0 ⟨#[]⟩ none 0 0 0) 53 (0, 0)) := by
      rw [hW6]
      exact blk_far (blk_far P5.out (by simp only; omega) _) (by simp only; omega) _
    have q3 : W6.heap[b + 2]? = some (.cells #[.int .i64 1] 3 (0, 0)) := by
      rw [hW6]
      exact blk_far (blk_set F3'.out 0 _) (by simp only; omega) _
    have q4 : W6.heap[b + 3]? = some (.cells #[.int .i64 23] 3 (0, 0)) := by
      rw [hW6]
      have := blk_set (w := W5.setCell ⟨b + 2, 0, none⟩ (.int .i64 1)) (blk_far F4'.out (by simp only; omega) _) 0 (.int .i64 (wrap64 23))
      exact this.trans (by rw [wr23]; rfl)
    show (∀ k, T k ∧ w1.heap.size ≤ k → W6.heap[k]? = W.heap[k]?) ∧ RI w A c T 1 W6
    refine ⟨fun k hk => hF6.block k (FT.out k hk.1) (fun h => by have := hk.2; omega), ?_⟩
    have hbw := HBW.out
    refine ⟨?_, ?_, ?_, ?_, ?_, ?_, ?_⟩
    · rw [← hbw]; exact hF6.blk F1.out (by omega)
    · rw [← hbw]; exact q2
    · rw [← hbw]; exact q3
    · rw [← hbw]; exact q4
    · rw [← hbw]; exact hF6.blk F5.out (by omega)
    · exact below_frm F6.out hF6 (N := w.heap.size) (fun k hk => by omega) (Nat.le_refl _)
    · rw [← hbw]; exact fun j hj => F7.out j (.inl hj)
  case done =>
    rintro D W hD hI hK
    obtain ⟨h1, h2, h3, h4, h5, h6, h7⟩ := hI
    rw [← HBW.out] at h1 h2 h3 h4
    have hb5 : b + 5 ≤ D := by have := HB.out.2.2.2.2.2.1; have := HBW.out; omega
    have F1 := Aside0.mk h1
    have F2 := Aside0.mk (show W.heap[b + 1]? = some (.cells (savedCells 1 1 2 0 0 0 ⟨#[]⟩ none 0 0 0) 53 (0, 0)) from h2)
    have F3 := Aside0.mk (show W.heap[b + 2]? = some (.cells #[.int .i64 1] 3 (0, 0)) from h3)
    have F4 := Aside0.mk (show W.heap[b + 3]? = some (.cells #[.int .i64 23] 3 (0, 0)) from h4)
    have F6 := Aside0.mk h6
    have FD := Aside0.mk hK
    have FB := Aside0.mk hb5
    clear h1 h2 h3 h4 h5 h6 h7 hK hb5 hI0 hD
    go_wp2_with fail
    refine wp_normal ?_
    have s0 : W.drew.cell? ⟨b + 1, 0, none⟩ = _ := (blk_cell (w := W.drew) F2.out 0).trans rfl
    have s1 : W.drew.cell? ⟨b + 1, 1, none⟩ = _ := (blk_cell (w := W.drew) F2.out 1).trans rfl
    have s2 : W.drew.cell? ⟨b + 1, 2, none⟩ = _ := (blk_cell (w := W.drew) F2.out 2).trans rfl
    have s3 : W.drew.cell? ⟨b + 1, 3, none⟩ = _ := (blk_cell (w := W.drew) F2.out 3).trans rfl
    have s4 : W.drew.cell? ⟨b + 1, 4, none⟩ = _ := (blk_cell (w := W.drew) F2.out 4).trans rfl
    have s5 : W.drew.cell? ⟨b + 1, 5, none⟩ = _ := (blk_cell (w := W.drew) F2.out 5).trans rfl
    have s6 : W.drew.cell? ⟨b + 1, 6, none⟩ = _ := (blk_cell (w := W.drew) F2.out 6).trans rfl
    have s7 : W.drew.cell? ⟨b + 1, 7, none⟩ = _ := (blk_cell (w := W.drew) F2.out 7).trans rfl
    have s8 : W.drew.cell? ⟨b + 1, 8, none⟩ = _ := (blk_cell (w := W.drew) F2.out 8).trans rfl
    have c2 : W.drew.cell? ⟨b + 2, 0, none⟩ = some (.int .i64 1) := (blk_cell (w := W.drew) F3.out 0).trans rfl
    have c3 : W.drew.cell? ⟨b + 3, 0, none⟩ = some (.int .i64 23) := (blk_cell (w := W.drew) F4.out 0).trans rfl
    refine start_ (n := 6) (S := fun w' => w'.cell? ⟨b + 1, 0, none⟩ = some (.int .i64 1) ∧ w'.cell? ⟨b + 1, 1, none⟩ = some (.int .i64 1) ∧ w'.cell? ⟨b + 1, 2, none⟩ = some (.int .i64 2) ∧ w'.cell? ⟨b + 1, 3, none⟩ = some (.int .i64 0) ∧ w'.cell? ⟨b + 1, 4, none⟩ = some (.int .i64 0) ∧ w'.cell? ⟨b + 1, 5, none⟩ = some (.int .i64 0) ∧ w'.cell? ⟨b + 1, 6, none⟩ = some (.string ⟨#[]⟩) ∧ w'.cell? ⟨b + 1, 7, none⟩ = some (.slice none 0 0) ∧ w'.cell? ⟨b + 1, 8, none⟩ = some (.int .i64 0) ∧ w'.cell? ⟨b + 2, 0, none⟩ = some (.int .i64 1) ∧ w'.cell? ⟨b + 3, 0, none⟩ = some (.int .i64 23)) (ds := []) bq209 (by kernel_rfl) rfl rfl ⟨s0, s1, s2, s3, s4, s5, s6, s7, s8, c2, c3⟩ (fun hHeld => ?_)
    refine take_ (i := 0) (N := some 37) (v := ?_) (a' := ?_) bq210 rfl rfl (by kernel_rfl) (fun _ _ _ h => nomatch h.1) (Or.inl ⟨by rfl, ?_⟩) hHeld ?_ ?_
    rotate_left
    · rintro w' ⟨s0, s1, s2, s3, s4, s5, s6, s7, s8, s9, s10⟩
      go_simp; with_reducible rfl
    rotate_left
    · simp only [sxx]; rfl
    refine take_ (i := 1) (N := some 38) (v := ?_) (a' := ?_) bq211 rfl rfl (by kernel_rfl) (fun _ _ _ h => nomatch h.1) (Or.inl ⟨by rfl, ?_⟩) hHeld ?_ ?_
    rotate_left
    · rintro w' ⟨s0, s1, s2, s3, s4, s5, s6, s7, s8, s9, s10⟩
      go_simp; with_reducible rfl
    rotate_left
    · simp only [sxx]; rfl
    refine take_ (i := 2) (N := some 39) (v := ?_) (a' := ?_) bq212 rfl rfl (by kernel_rfl) (fun _ _ _ h => nomatch h.1) (Or.inl ⟨by rfl, ?_⟩) hHeld ?_ ?_
    rotate_left
    · rintro w' ⟨s0, s1, s2, s3, s4, s5, s6, s7, s8, s9, s10⟩
      go_simp; with_reducible rfl
    rotate_left
    · simp only [sxx]; rfl
    refine one_ (i := 3) (N := none) bq213 rfl rfl (by kernel_rfl) (by decide) (fun K hK => ?_)
    refine store_arm 53 _ _ rfl (by rfl) rfl (q := b) (i := 0) (cur' := savedCells 1 1 2 0 0 0 ⟨#[]⟩ none 0 0 0) (savedCells 1 1 2 0 0 0 ⟨#[]⟩ none 0 0 0).toList rfl rfl rfl (by kernel_rfl) (by intro u hu; simp at hu; rcases hu with rfl | rfl | rfl | rfl | rfl | rfl <;> rfl) (show W.drew.heap[b]? = _ from F1.out) (by simp) rfl ?_
    intro w9 hp9 hg9
    have F1' := Aside0.mk hp9
    have F2' := Aside0.mk ((hg9.block (b + 1) (show b + 1 < W.drew.heap.size from blk_lt F2.out) (fun e => by have := Option.some.inj e; omega)).trans (show W.drew.heap[b + 1]? = _ from F2.out))
    have F3' := Aside0.mk ((hg9.block (b + 2) (show b + 2 < W.drew.heap.size from blk_lt F3.out) (fun e => by have := Option.some.inj e; omega)).trans (show W.drew.heap[b + 2]? = _ from F3.out))
    have F4' := Aside0.mk ((hg9.block (b + 3) (show b + 3 < W.drew.heap.size from blk_lt F4.out) (fun e => by have := Option.some.inj e; omega)).trans (show W.drew.heap[b + 3]? = _ from F4.out))
    have FD' := Aside0.mk ((hg9.block D (show D < W.drew.heap.size from blk_lt FD.out) (fun e => by have := Option.some.inj e; have := FB.out; omega)).trans (show W.drew.heap[D]? = _ from FD.out))
    have F6' := Aside0.mk ((below_drew1 F6.out).grown hg9 (below_drew1 F6.out).size (fun k e => by cases e; rw [HBW.out]; exact Nat.le_refl _))
    refine hK.out _ _ ⟨(blk_cell F2'.out 0).trans rfl, (blk_cell F2'.out 1).trans rfl, (blk_cell F2'.out 2).trans rfl, (blk_cell F2'.out 3).trans rfl, (blk_cell F2'.out 4).trans rfl, (blk_cell F2'.out 5).trans rfl, (blk_cell F2'.out 6).trans rfl, (blk_cell F2'.out 7).trans rfl, (blk_cell F2'.out 8).trans rfl, (blk_cell F3'.out 0).trans rfl, (blk_cell F4'.out 0).trans rfl⟩ (fun hHeld => ?_)
    clear hK K
    refine pure_ (i := 4) (N := some 3) (v := ?_) (a' := ?_) bq214 rfl rfl (by kernel_rfl) (fun _ _ _ h => nomatch h.1) (Or.inl ⟨by rfl, ?_⟩) ?_ ?_
    rotate_left
    · intro w'; go_simp; with_reducible rfl
    rotate_left
    · simp only [sxx]; rfl
    refine pure_ (i := 5) (N := some 4) (v := ?_) (a' := ?_) bq215 rfl rfl (by kernel_rfl) (fun _ _ _ h => nomatch h.1) (Or.inl ⟨by rfl, ?_⟩) ?_ ?_
    rotate_left
    · intro w'; go_simp; with_reducible rfl
    rotate_left
    · simp only [sxx]; rfl
    refine done_ (by kernel_rfl) ?_
    refine ⟨rfl, ?_⟩
    go_wp2
    refine ⟨by simp, .inl ⟨_, _, rfl, run_takeDeferred FD'.out, ?_⟩⟩
    have b1 : (w9.putObj D (.deferred none)).heap[b]? = some (.cells (savedCells 1 1 2 0 0 0 ⟨#[]⟩ none 0 0 0) 53 (0, 0)) := (World.putObj_heap_other (by have := FB.out; omega)).trans F1'.out
    refine ⟨_, results20_row _ _ b _ _ _ rfl rfl rfl b1 rfl, rfl, ?_⟩
    exact F6'.out.grown (grownBy_putObj' _ D _) F6'.out.size (fun r e => by cases e; have := FB.out; have := HBW.out; omega)
  case stop => exact fun D c W _ h _ => h.elim
attribute [local go_sem] Oper.semAt_some

abbrev sz0 : Array Value := savedCells 0 0 0 0 0 0 ⟨#[]⟩ none 0 0 0
/-- While records are gone through: k of them have been said. -/
def RV (w0 : World) (A : Option Addr) (n c : Nat) (L : List JR) (F : SV × Nat × Nat) (T : Nat → Prop) (k : Nat) (W : World) : Prop :=
  ∃ (s : SV) (z : Nat) (E : Option Addr) (ne ce : Nat) (okr : Nat → Prop), SvAt W (w0.heap.size + 1) w0.heap.size okr s E ne ce ∧ W.heap[w0.heap.size]? = some (.cells sz0 53 (0, 0)) ∧ W.heap[w0.heap.size + 2]? = some (.cells #[.int .i64 (k : Int)] 3 (0, 0)) ∧ W.heap[w0.heap.size + 3]? = some (.cells #[.int .i64 (z : Int)] 3 (0, 0)) ∧
    W.heap[w0.heap.size + 4]? = some (.cells #[.slice A n c] 29 (0, 0)) ∧ (∀ j, okr j → w0.heap.size + 5 ≤ j ∧ ¬ T j ∧ Celly W j) ∧ Below w0.heap.size w0 W ∧ F = rcGo (L.drop k) k s z ∧ s.es.length ≤ k ∧ z ≤ 4000000 * k ∧ (k = 0 → s = SV.zero)
theorem SvAt.celly {W W' : World} {row : Option Nat} {p base : Nat} {ok : Nat → Prop} {s : SV} {E : Option Addr} {ne ce : Nat} (h : SvAt W p base ok s E ne ce) (hc : ∀ j, ok j → Celly W j) (hg : W.grownBy W' row) (hr : ∀ r, row = some r → ∃ o : Obj, W.heap[r]? = some o ∧ o.isCells = false) : SvAt W' p base ok s E ne ce := by
  have hcel : ∀ j, Celly W j → W'.heap[j]? = W.heap[j]? := fun j ⟨cs, q, hj⟩ => hg.block j (blk_lt hj) (fun e => by
    obtain ⟨o, h1, h2⟩ := hr j e.symm
    rw [hj] at h1
    cases h1
    cases h2)
  exact ⟨(hcel p ⟨_, _, h.blk⟩).trans h.blk, Kd.R_step h.row (fun j hj _ => hcel j (hc j hj)), h.len, h.small⟩
theorem RV_own (w0 : World) (A : Option Addr) (n c : Nat) (L : List JR) (F : SV × Nat × Nat) : TOwn (w0.heap.size + 5) (RV w0 A n c L F) := by
  rintro T k W W' row T' ⟨s, z, E, ne, ce, okr, h1, h2, h3, h4, h5, h6, h7, h8⟩ hg hr hT
  refine ⟨s, z, E, ne, ce, okr, h1.celly (fun j hj => (h6 j hj).2.2) hg (fun r e => (hr r e).2), blk_celly h2 hg hr, blk_celly h3 hg hr, blk_celly h4 hg hr, blk_celly h5 hg hr, fun j hj => ⟨(h6 j hj).1, fun hx => ?_, (h6 j hj).2.2.grown hg hr⟩, h7.grown hg h7.size (fun r e => by have := (hr r e).1; omega), h8⟩
  rcases hT j hx with h | h
  · exact (h6 j hj).2.1 h
  · have := (h6 j hj).2.2.lt
    omega
/-- Behind the loop. -/
def RX (w0 : World) (F : SV × Nat × Nat) (W : World) : Prop :=
  ∃ (E : Option Addr) (ne ce : Nat) (okr : Nat → Prop), SvAt W (w0.heap.size + 1) w0.heap.size okr F.1 E ne ce ∧ W.heap[w0.heap.size]? = some (.cells sz0 53 (0, 0)) ∧ W.heap[w0.heap.size + 2]? = some (.cells #[.int .i64 (F.2.1 : Int)] 3 (0, 0)) ∧ W.heap[w0.heap.size + 3]? = some (.cells #[.int .i64 (F.2.2 : Int)] 3 (0, 0)) ∧
    (∀ j, okr j → w0.heap.size + 5 ≤ j ∧ Celly W j) ∧ Below w0.heap.size w0 W
theorem RX_own (w0 : World) (F : SV × Nat × Nat) : ∀ (W W' : World) (row : Option Nat), RX w0 F W → W.grownBy W' row → (∀ r, row = some r → w0.heap.size + 5 ≤ r ∧ ∃ o : Obj, W.heap[r]? = some o ∧ o.isCells = false) → RX w0 F W' := by
  rintro W W' row ⟨E, ne, ce, okr, h1, h2, h3, h4, h6, h7⟩ hg hr
  exact ⟨E, ne, ce, okr, h1.celly (fun j hj => (h6 j hj).2) hg (fun r e => (hr r e).2), blk_celly h2 hg hr, blk_celly h3 hg hr, blk_celly h4 hg hr, fun j hj => ⟨(h6 j hj).1, (h6 j hj).2.grown hg hr⟩, h7.grown hg h7.size (fun r e => by have := (hr r e).1; omega)⟩
theorem RV_done {w0 : World} {A : Option Addr} {n c : Nat} {L : List JR} {F : SV × Nat × Nat} {T : Nat → Prop} {W : World} (h : RV w0 A n c L F T L.length W) : RX w0 F W := by
  obtain ⟨s, z, E, ne, ce, okr, h1, h2, h3, h4, h5, h6, h7, h8, _⟩ := h
  have e : F = (s, L.length, z) := by rw [h8, List.drop_length]; rfl
  subst e
  exact ⟨E, ne, ce, okr, h1, h2, h3, h4, fun j hj => ⟨(h6 j hj).1, (h6 j hj).2.2⟩, h7⟩
theorem rc_step {L : List JR} {k z : Nat} {s : SV} {y : JR} {F : SV × Nat × Nat} (hF : F = rcGo (L.drop k) k s z) (hy : L[k]? = some y) : F = if s.fits y (decide (k = 0)) = true then rcGo (L.drop (k + 1)) (k + 1) (s.says y) (z + (y.enc ((k : Int) + 1)).1.length) else (s, k, z) := by
  have hk := (List.getElem?_eq_some_iff.1 hy).1
  have h2 := (List.getElem?_eq_some_iff.1 hy).2
  rw [List.drop_eq_getElem_cons hk, h2] at hF
  exact hF
theorem wr_sum {z rl k : Nat} (h1 : z ≤ 4000000 * k) (h2 : rl ≤ 4000000) (h3 : k ≤ 1000000) : wrap64 ((z : Int) + (rl : Int)) = ((z + rl : Nat) : Int) := by unfold wrap64; omega
set_option maxHeartbeats 32000000 in
set_option maxRecDepth 100000 in
theorem recover_R (w : World) (A : Option Addr) (n c : Nat) (lb : List Int) (L : List JR) (hn : lb.length = n) (hc : n ≤ c) (hmx : n ≤ 1000000000) (hC : C8 w A n lb) (hWk : Walks lb 0 0 L) (hLn : L.length ≤ 999999) (hEn : ∀ (k : Nat) (y : JR), L[k]? = some y → ∃ r1, y.enc ((k : Int) + 1) = (r1, 0)) (F : SV × Nat × Nat) (hF : F = rcGo L 0 SV.zero 0) :
    Calls Try.prog 20 #[.slice A n c] w fun e w' => ∃ E ne ce, e = .returned (.tuple #[.agg (F.1.cells E ne ce), .int .i64 (F.2.1 : Int), .int .i64 (F.2.2 : Int)]) ∧ F.1.es.length = ne ∧ Kd.R k24 24 w' w.heap.size (fun _ => True) (.slice E ne ce) F.1.es ∧ Below w.heap.size w w' := by
  have HN := Aside0.mk hn
  have HC := Aside0.mk hC
  have HCC := Aside0.mk hc
  have HM := Aside0.mk hmx
  have HW := Aside0.mk hWk
  have HLN := Aside0.mk hLn
  have HEN := Aside0.mk hEn
  have HFF := Aside0.mk hF
  have hu53 := Try.underlying53
  have hu28 := Try.underlying28
  have hu26 := Try.underlying26
  have hu24 := Try.underlying24
  clear hC hc hn hmx hWk hLn hEn hF
  refine (callsIn_wide (n := 0)).1 (callsIn_of_wp_marks Try.func20 rfl trivial ?_)
  refine (wpIn_wide (n := 0)).2 ?_
  simp only [Try.ntmps20, List.size_toArray, List.length_cons, List.length_nil, Nat.reduceAdd, Nat.reduceSub, Array.replicate_succ, Array.replicate_zero, List.push_toArray, List.append_toArray, List.nil_append, List.cons_append]
  go_wp2_with fail
  refine (Walk_C A n c _).mono ?_
  rintro e w1 ⟨rfl, rfl⟩
  obtain ⟨w1, hw1⟩ : ∃ w1, w1 = ((((w.alloc (.cells sz0 53)).alloc (.cells sz0 53)).alloc (.cells #[.int .i64 0] 3)).alloc (.cells #[.int .i64 0] 3)).alloc (.cells #[.slice A n c] 29) := ⟨_, rfl⟩
  have hsz : ((((w.alloc (.cells sz0 53)).alloc (.cells sz0 53)).alloc (.cells #[.int .i64 0] 3)).alloc (.cells #[.int .i64 0] 3)).heap.size = w.heap.size + 4 := by rw [szA, szA, szA, szA]
  obtain ⟨b0, b1, b2, b3, b4, b5, b6⟩ := blk5 w _ _ _ _ _ hw1
  rw [← hw1, hsz]
  have HB := Aside0.mk (And.intro b0 (And.intro b1 (And.intro b2 (And.intro b3 (And.intro b4 (And.intro b5 b6))))))
  clear hw1 hsz b0 b1 b2 b3 b4 b5 b6
  have hI0 : RV w A n c L F (fun _ => False) 0 w1 := ⟨SV.zero, 0, none, 0, 0, fun _ => False, ⟨HB.out.2.1, Kd.R_nil _ _ _ _ _, rfl, zero_small⟩, HB.out.1, HB.out.2.2.1, HB.out.2.2.2.1, HB.out.2.2.2.2.1, fun j hj => hj.elim, HB.out.2.2.2.2.2.2, HFF.out, Nat.le_refl _, Nat.zero_le _, fun _ => rfl⟩
  obtain ⟨b, hb⟩ : ∃ b, b = w.heap.size := ⟨_, rfl⟩
  rw [← hb]
  have HBW := Aside0.mk hb
  clear hb
  go_wp2
  refine rangeWalk (gf := 59) (Bn := b + 4) (fun k y A' c' B => { tmps := #[.slice A n c, undef, .pointer (some ⟨b, 0, none⟩), .int .i64 0, .int .i64 0, .pointer (some ⟨b + 1, 0, none⟩), .pointer (some ⟨b + 2, 0, none⟩), .pointer (some ⟨b + 3, 0, none⟩), .int .i64 ((k : Int) + 1), .pointer (some ⟨B, 0, none⟩), undef, undef, undef, .slice A n c, .func (.func 59) #[] #[.pointer (some ⟨b + 4, 0, none⟩)], .int .i64 ((k : Int) + 1), .agg (y.cells A' c'), undef, undef, undef, undef, undef, undef, undef, undef, undef, undef, undef, undef, undef, undef, undef, undef, undef, undef, undef, undef, undef, undef, undef], defers := [] }) (fun W => C8 W A n lb) L rfl (enters_ Try.func59 (by kernel_rfl) rfl) rfl (RV w A n c L F) (fun cd W => cd = .exit 0 ∧ RX w F W) (fun _ => False) ?hI ?hIx ?h0 ?hT0 ?hD ?hit ?assign ?body ?done ?stop
  case hI => exact TOwn.weak (RV_own w A n c L F) (by have := HB.out.2.2.2.2.2.1; omega)
  case hIx => exact fun cd s X Y row hs hg hr => ⟨hs.1, RX_own w F X Y row hs.2 hg (fun r e => ⟨by have := (hr r e).1; have := HB.out.2.2.2.2.2.1; omega, (hr r e).2⟩)⟩
  case h0 => exact hI0
  case hT0 => exact fun j hj => hj.elim
  case hD => exact fun T k W h => by obtain ⟨s, z, E, ne, ce, okr, _, _, _, _, _, _, h7, _⟩ := h; exact Kd.C_below HC.out h7
  case hit =>
    rintro T W ⟨s, z, E, ne, ce, okr, h1, h2, h3, h4, h5, h6⟩
    exact it59 _ A n c lb L W HN.out HCC.out HM.out HW.out (by rw [HBW.out]; exact blk_cell h5 0)
  case assign =>
    intro l k y A' c' W Kc hKc
    simp only [List.zip_toArray, List.zip_cons_cons, List.zip_nil_left, List.zip_nil_right, List.foldl_toArray, List.foldl_toArray', List.foldl_cons, List.foldl_nil, sx1, sx2, sx3] at hKc ⊢
    refine wpIn_seq ?_
    refine region_round l (by rintro ⟨a, w, h⟩; exact h) (by simp) ?_
    go_wp2
    refine region_round l (by rintro ⟨a, w, h⟩; exact h) (by simp) ?_
    go_wp2
    exact hKc
  case body =>
    rintro T l k y A' c' okx B W hT hTlt hTl hle hloop hy ⟨s, z, E, ne, ce, okr, h1, h2, h3, h4, h5, h6, h7, h8, h9, h10, h11⟩ ⟨hR, hokx⟩ hBle hbx
    have hs5 : w1.heap.size = b + 5 := by rw [HBW.out]; exact HB.out.2.2.2.2.2.1
    rw [hs5] at hle hR hokx hBle
    rw [← HBW.out] at h1 h2 h3 h4 h5 h6
    simp only [List.zip_toArray, List.zip_cons_cons, List.zip_nil_left, List.zip_nil_right, List.foldl_toArray, List.foldl_toArray', List.foldl_cons, List.foldl_nil, sx1, sx2, sx3]
    have hkl : k < L.length := (List.getElem?_eq_some_iff.1 hy).1
    obtain ⟨r1, hr1⟩ := HEN.out k y hy
    have FRC := Aside0.mk (rc_step h8 hy)
    have FOK := Aside0.mk (enc_okay hr1)
    have FEN := Aside0.mk hr1
    have FRL := Aside0.mk (show r1.length ≤ 4000000 by have := enc_len y ((k : Int) + 1); rw [hr1] at this; exact this)
    have FK := Aside0.mk hkl
    have FS := Aside0.mk h1
    have F0 := Aside0.mk h2
    have F3 := Aside0.mk h3
    have F4 := Aside0.mk h4
    have F5 := Aside0.mk h5
    have F6 := Aside0.mk h6
    have F7 := Aside0.mk h7
    have F9 := Aside0.mk h9
    have F10 := Aside0.mk h10
    have F11 := Aside0.mk h11
    have FR := Aside0.mk hR
    have FX := Aside0.mk hokx
    have FT := Aside0.mk hTlt
    have FBL := Aside0.mk hBle
    have FW5 := Aside0.mk (show b + 5 ≤ W.heap.size by have := blk_lt h5; omega)
    have FWW := Aside0.mk (show w.heap.size ≤ W.heap.size from h7.size)
    obtain ⟨m5, hm5⟩ : ∃ m5, m5 = y.ops.length := ⟨_, rfl⟩
    have hbx2 : W.heap[B]? = some (.cells (recCells y.kd y.s y.v y.k y.se y.rq A' m5 c' y.vn y.vp y.vb y.st y.of y.x) 28 (0, 0)) := by rw [hm5]; exact hbx
    rw [← hm5] at FR
    have FM5 := Aside0.mk hm5
    have FB := Aside0.mk hbx2
    obtain ⟨fb, hfb⟩ : ∃ fb, fb = decide (k = 0) := ⟨_, rfl⟩
    have FFB := Aside0.mk hfb
    have hf1 : decide (((k : Int) + 1) = 1) = fb := by rw [hfb]; exact decide_eq_decide.2 (by omega)
    have hf2 : (((k : Int) + 1) == 1) = fb := by rw [← hf1]; rfl
    have FZ := Aside0.mk (show fb = true → s = SV.zero from fun h => F11.out (of_decide_eq_true (hfb ▸ h)))
    have FXO := Aside0.mk (show ∀ j, okx j → (okr j ∨ okx j ∨ W.heap.size ≤ j) ∧ some j ≠ (Value.slice E ne ce).ownBlock from fun j hj => ⟨.inr (.inl hj), fun e => (F6.out j (FS.out.row.1 j e.symm)).2.1 (.inr hj)⟩)
    have FS' := Aside0.mk (show SvAt W (b + 1) b (fun j => okr j ∨ okx j ∨ W.heap.size ≤ j) s E ne ce from ⟨FS.out.blk, Kd.R_mono FS.out.row (fun j hj => .inl hj), FS.out.len, FS.out.small⟩)
    have v0 := (blk_cell FB.out 0).trans rfl
    have v1 := (blk_cell FB.out 1).trans rfl
    have v2 := (blk_cell FB.out 2).trans rfl
    have v3 := (blk_cell FB.out 3).trans rfl
    have v4 := (blk_cell FB.out 4).trans rfl
    have v5 := (blk_cell FB.out 5).trans rfl
    have v6 := (blk_cell FB.out 6).trans rfl
    have v7 := (blk_cell FB.out 7).trans rfl
    have v8 := (blk_cell FB.out 8).trans rfl
    have v9 := (blk_cell FB.out 9).trans rfl
    have v10 := (blk_cell FB.out 10).trans rfl
    have v11 := (blk_cell FB.out 11).trans rfl
    have v12 := (blk_cell FB.out 12).trans rfl
    clear h1 h2 h3 h4 h5 h6 h7 h8 h9 h10 h11 hR hokx hTlt hbx hbx2 hy hs5 hI0 hkl hm5 hBle hr1 hfb
    refine wpIn_block ?_
    refine wpIn_tail (fun a W4 => (∃ u10 u16 u17 u18 u19 u20 u21 u22 u23 u24 u25 : Value, a = { tmps := #[.slice A n c, undef, .pointer (some ⟨b, 0, none⟩), .int .i64 0, .int .i64 0, .pointer (some ⟨b + 1, 0, none⟩), .pointer (some ⟨b + 2, 0, none⟩), .pointer (some ⟨b + 3, 0, none⟩), .int .i64 ((k : Int) + 1), .pointer (some ⟨B, 0, none⟩), u10, undef, undef, .slice A n c, .func (.func 59) #[] #[.pointer (some ⟨b + 4, 0, none⟩)], .int .i64 ((k : Int) + 1), u16, u17, u18, u19, u20, u21, u22, u23, u24, u25, undef, undef, undef, undef, undef, undef, undef, undef, undef, undef, undef, undef, undef, undef], defers := [] }) ∧ s.fits y fb = true ∧ (∃ E' ne' ce', SvAt W4 (b + 1) b (fun j => okr j ∨ okx j ∨ W.heap.size ≤ j) (s.says y) E' ne' ce') ∧ Frm W W4 (fun j => j = b + 1 ∨ (Value.slice E ne ce).ownBlock = some j)) ?tail ?_
    case tail =>
      rintro a0 W4 ⟨⟨x10, x16, x17, x18, x19, x20, x21, x22, x23, x24, x25, rfl⟩, hft, ⟨E', ne', ce', hS4⟩, hF4⟩
      have hne : ∀ i, i < 5 → (Value.slice E ne ce).ownBlock ≠ some (b + i) := fun i hi e => by
        have := (F6.out _ (FS.out.row.1 _ e)).1
        omega
      have hnB : ¬ (B = b + 1 ∨ (Value.slice E ne ce).ownBlock = some B) := fun h => by
        rcases h with h | h
        · have := FBL.out
          omega
        · exact Kd.R_ne FS.out.row FB.out (by decide) h.symm
      have FB4 := Aside0.mk (hF4.blk FB.out hnB)
      have P0 := Aside0.mk (hF4.blk F0.out (fun h => by rcases h with h | h; omega; exact hne 0 (by omega) h))
      have P3 := Aside0.mk (hF4.blk F3.out (fun h => by rcases h with h | h; omega; exact hne 2 (by omega) h))
      have P4 := Aside0.mk (hF4.blk F4.out (fun h => by rcases h with h | h; omega; exact hne 3 (by omega) h))
      have P5 := Aside0.mk (hF4.blk F5.out (fun h => by rcases h with h | h; omega; exact hne 4 (by omega) h))
      have FR4 := Aside0.mk (show Kd.R k40 40 W4 (b + 5) okx (.slice A' m5 c') y.ops from Kd.R_step FR.out (fun j hj hlt => hF4.block j hlt (fun h => by
        rcases h with h | h
        · have := (FX.out j hj).2.1
          omega
        · exact (FXO.out j hj).2 h.symm)))
      have HF4 := Aside0.mk hF4
      have HS4 := Aside0.mk hS4
      have HFT := Aside0.mk hft
      have HOP := Aside0.mk (show Kd.C k40 W4 A' m5 y.ops ∧ m5 ≤ c' by
        obtain ⟨A9, c9, e9, l9, C9⟩ := Kd.R_reads FR4.out
        injection e9 with e91 e92 e93
        rw [e91, e92, e93]
        exact ⟨C9, l9⟩)
      clear hne hnB hF4 hS4 hft v0 v1 v2 v3 v4 v5 v6 v7 v8 v9 v10 v11 v12
      have u0 := (blk_cell FB4.out 0).trans rfl
      have u1 := (blk_cell FB4.out 1).trans rfl
      have u2 := (blk_cell FB4.out 2).trans rfl
      have u3 := (blk_cell FB4.out 3).trans rfl
      have u4 := (blk_cell FB4.out 4).trans rfl
      have u5 := (blk_cell FB4.out 5).trans rfl
      have u6 := (blk_cell FB4.out 6).trans rfl
      have u7 := (blk_cell FB4.out 7).trans rfl
      have u8 := (blk_cell FB4.out 8).trans rfl
      have u9 := (blk_cell FB4.out 9).trans rfl
      have u10 := (blk_cell FB4.out 10).trans rfl
      have u11 := (blk_cell FB4.out 11).trans rfl
      have u12 := (blk_cell FB4.out 12).trans rfl
      refine wpIn_seq ?_
      refine region_round l (by rintro ⟨a, w, h⟩; exact h) (by simp) ?_
      go_wp2_with fail
      refine (encode_C ((k : Int) + 1) y.kd y.s y.v y.k y.se y.rq A' c' m5 y.ops y.vn y.vp y.vb y.st y.of y.x W4 FM5.out.symm HOP.out.1 HOP.out.2 r1 0 FEN.out).mono ?_
      rintro e W5 ⟨V, rfl, ho, hb5⟩
      obtain ⟨A3, c3, rfl⟩ : ∃ A3 c3, V = .slice A3 r1.length c3 := by obtain ⟨A3, c3, h⟩ := Kd.R_slice ho; exact ⟨A3, c3, h⟩
      obtain ⟨rl, hrl⟩ : ∃ rl, rl = r1.length := ⟨_, rfl⟩
      rw [← hrl]
      have HRL := Aside0.mk hrl
      have HSM := Aside0.mk (wr_sum (rl := rl) F10.out (by rw [hrl]; exact FRL.out) (by have := FK.out; have := HLN.out; omega))
      have G5 := Aside0.mk (HF4.out.step hb5)
      have HB5 := Aside0.mk hb5
      have Q3 := Aside0.mk ((hb5.block (b + 2) (blk_lt P3.out)).trans P3.out)
      have Q4 := Aside0.mk ((hb5.block (b + 3) (blk_lt P4.out)).trans P4.out)
      clear hb5 ho hrl u0 u1 u2 u3 u4 u5 u6 u7 u8 u9 u10 u11 u12
      go_wp2
      have k2 : W5.cell? ⟨b + 2, 0, none⟩ = some (.int .i64 (k : Int)) := (blk_cell Q3.out 0).trans rfl
      have f2 := blk_frozen Q3.out 0
      have k3 : W5.cell? ⟨b + 3, 0, none⟩ = some (.int .i64 (z : Int)) := (blk_cell Q4.out 0).trans rfl
      have f3 := blk_frozen Q4.out 0
      have k3d : W5.drew.cell? ⟨b + 3, 0, none⟩ = some (.int .i64 (z : Int)) := k3
      refine startIn_ l (by rintro ⟨a, w, h⟩; exact h) (by simp) (n := 7) (S := fun w' => w'.cell? ⟨b + 3, 0, none⟩ = some (.int .i64 (z : Int))) (ds := [6]) bq201 (by kernel_rfl) rfl rfl (k3d) (fun hHeld => ?_)
      refine pure_ (i := 0) (N := some 32) (v := ?_) (a' := ?_) bq202 rfl rfl (by kernel_rfl) (fun _ _ _ h => h) (Or.inl ⟨by rfl, ?_⟩) ?_ ?_
      rotate_left
      · intro w'; go_simp; with_reducible rfl
      rotate_left
      · simp only [sxx]; rfl
      refine pure_ (i := 2) (N := some 34) (v := ?_) (a' := ?_) bq203 rfl rfl (by kernel_rfl) (fun _ _ _ h => h) (Or.inl ⟨by rfl, ?_⟩) ?_ ?_
      rotate_left
      · intro w'; go_simp; with_reducible rfl
      rotate_left
      · simp only [sxx]; rfl
      refine pure_ (i := 3) (N := some 35) (v := ?_) (a' := ?_) bq204 rfl rfl (by kernel_rfl) (fun _ _ _ h => h) (Or.inl ⟨by rfl, ?_⟩) ?_ ?_
      rotate_left
      · intro w'; go_simp; with_reducible rfl
      rotate_left
      · simp only [sxx]; rfl
      refine take_ (i := 1) (N := some 33) (v := ?_) (a' := ?_) bq205 rfl rfl (by kernel_rfl) (fun _ _ _ h => h) (Or.inl ⟨by rfl, ?_⟩) hHeld ?_ ?_
      rotate_left
      · intro w' s0; go_simp; with_reducible rfl
      rotate_left
      · simp only [sxx]; rfl
      refine pure_ (i := 4) (N := some 36) (v := ?_) (a' := ?_) bq206 rfl rfl (by kernel_rfl) (fun _ _ _ h => h) (Or.inl ⟨by rfl, ?_⟩) ?_ ?_
      rotate_left
      · intro w'; go_simp; with_reducible rfl
      rotate_left
      · simp only [sxx]; rfl
      refine one_ (i := 5) (N := none) bq207 rfl rfl (by kernel_rfl) (by decide) (fun K hK => ?_)
      refine skip_ (w1 := ?_) (by rfl) rfl ?_ ?_
      rotate_left
      · go_simp; rfl
      refine hK.out _ _ ((by first | exact set_other (by omega) k3d | exact set_other (by omega) k3 | exact drew_cell (set_other (by omega) k3))) (fun hHeld => ?_)
      clear hK K
      refine last_ (i := 6) (N := none) bq208 rfl rfl (by kernel_rfl) (by decide) (fun K hK => ?_)
      refine skip_ (w1 := ?_) (by rfl) rfl ?_ ?_
      rotate_left
      · go_simp; rfl
      refine hK.out _ _ ?_
      clear hK K
      refine done_ (by kernel_rfl) ?_
      obtain ⟨W6, hW6⟩ : ∃ W6, W6 = ((W5.setCell ⟨b + 2, 0, none⟩ (.int .i64 ((k : Int) + 1))).setCell ⟨b + 3, 0, none⟩ (.int .i64 (wrap64 ((z : Int) + (rl : Int))))).drew := ⟨_, rfl⟩
      rw [← hW6]
      have hF6 : Frm W W6 (fun j => (b + 1 ≤ j ∧ j ≤ b + 3) ∨ (Value.slice E ne ce).ownBlock = some j) := by
        rw [hW6]
        exact (((G5.out.mono (S1 := fun j => (b + 1 ≤ j ∧ j ≤ b + 3) ∨ (Value.slice E ne ce).ownBlock = some j) (fun j h _ => by rcases h with h | h; exact .inl (by omega); exact .inr h)).set_ (p := ⟨b + 2, 0, none⟩) (.inl (.inl (by simp only; omega))) _).set_ (p := ⟨b + 3, 0, none⟩) (.inl (.inl (by simp only; omega))) _).drew
      have hfar : ∀ j, j ≠ b + 2 → j ≠ b + 3 → j < W4.heap.size → W6.heap[j]? = W4.heap[j]? := fun j h2 h3 hlt => by
        rw [hW6]
        show ((W5.setCell ⟨b + 2, 0, none⟩ (.int .i64 ((k : Int) + 1))).setCell ⟨b + 3, 0, none⟩ (.int .i64 (wrap64 ((z : Int) + (rl : Int))))).heap[j]? = _
        rw [Below.heap_setCell _ _ _ j h3, Below.heap_setCell _ _ _ j h2]
        exact HB5.out.block j hlt
      have q3 : W6.heap[b + 2]? = some (.cells #[.int .i64 ((k : Int) + 1)] 3 (0, 0)) := by
        rw [hW6]
        exact blk_far (blk_set Q3.out 0 _) (by simp only; omega) _
      have q4 : W6.heap[b + 3]? = some (.cells #[.int .i64 ((z + rl : Nat) : Int)] 3 (0, 0)) := by
        rw [hW6]
        have := blk_set (w := W5.setCell ⟨b + 2, 0, none⟩ (.int .i64 ((k : Int) + 1))) (blk_far Q4.out (by simp only; omega) _) 0 (.int .i64 (wrap64 ((z : Int) + (rl : Int))))
        exact this.trans (by rw [HSM.out]; rfl)
      show (∀ k, T k ∧ w1.heap.size ≤ k → W6.heap[k]? = W.heap[k]?) ∧ RV w A n c L F T (k + 1) W6
      have h15 : w1.heap.size = b + 5 := by rw [HBW.out]; exact HB.out.2.2.2.2.2.1
      refine ⟨fun j hj => hF6.block j (FT.out j hj.1) (fun h => ?_), ?_⟩
      · have := hj.2
        rcases h with h | h
        · omega
        · exact (F6.out j (FS.out.row.1 j h)).2.1 (.inl hj.1)
      have hbw := HBW.out
      have hsz := FW5.out
      have hS6 : SvAt W6 (b + 1) b (fun j => ((okr j ∨ okx j ∨ W.heap.size ≤ j) ∧ Celly W4 j) ∧ b + 5 ≤ j) (s.says y) E' ne' ce' := by
        refine ⟨?_, ?_, HS4.out.len, HS4.out.small⟩
        · exact (hfar (b + 1) (by omega) (by omega) (blk_lt HS4.out.blk)).trans HS4.out.blk
        · refine Kd.R_step (Kd.R_mono (R_celly HS4.out.row) (fun j hj => ⟨⟨hj.1, hj.2.2⟩, ?_⟩)) (fun j hj hlt => hfar j (by omega) (by omega) hlt)
          rcases hj.1 with h | h | h
          · exact (F6.out j h).1
          · exact (FX.out j h).2.1
          · omega
      refine ⟨s.says y, z + rl, E', ne', ce', fun j => ((okr j ∨ okx j ∨ W.heap.size ≤ j) ∧ Celly W4 j) ∧ b + 5 ≤ j, ?_, ?_, ?_, ?_, ?_, fun j hj => ⟨?_, fun hT => ?_, ?_⟩, ?_, ?_, ?_, ?_, fun h => by omega⟩
      · rw [← hbw]; exact hS6
      · rw [← hbw]; exact (hfar b (by omega) (by omega) (blk_lt P0.out)).trans P0.out
      · rw [← hbw]; exact q3
      · rw [← hbw]; exact q4
      · rw [← hbw]; exact (hfar (b + 4) (by omega) (by omega) (blk_lt P5.out)).trans P5.out
      · rw [← hbw]; exact hj.2
      · rcases hj.1.1 with h | h | h
        · exact (F6.out j h).2.1 (.inl hT)
        · exact (FX.out j h).1 hT
        · have := FT.out j hT
          omega
      · have hj5 := hj.2
        obtain ⟨cs, q, hc⟩ := hj.1.2
        exact ⟨cs, q, (hfar j (by omega) (by omega) (blk_lt hc)).trans hc⟩
      · refine below_frm F7.out hF6 (N := w.heap.size) (fun j hj => ?_) (Nat.le_refl _)
        rcases hj with h | h
        · omega
        · have := (F6.out j (FS.out.row.1 j h)).1
          omega
      · rw [FRC.out, ← FFB.out, if_pos HFT.out, FEN.out, HRL.out]
      · exact Nat.le_trans (says_len s y) (by have := F9.out; omega)
      · have h1 := F10.out
        have h2 := FRL.out
        have h3 := HRL.out
        omega
    intro K hK0
    have HK := Aside0.mk hK0
    clear hK0
    rcases FOK.out.1 with hk | hk | hk | hk | hk | hk
    · have HKD := Aside0.mk hk
      clear hk
      refine region_round l (by rintro ⟨a, w, h⟩; exact h) (by simp) ?_
      go_wp2_with fail
      refine (known_1 y HKD.out A' m5 c' W).mono ?_
      rintro e W2 ⟨rfl, hb2⟩
      have G2 := Aside0.mk hb2
      have FS2 := Aside0.mk (FS'.out.below hb2)
      clear hb2 v0 v1 v2 v3 v4 v5 v6 v7 v8 v9 v10 v11 v12
      go_wp2
      refine wpIn_seq ?_
      refine region_round l (by rintro ⟨a, w, h⟩; exact h) (by simp) ?_
      go_wp2_with fail
      cases hr : s.fits y fb with
      | false =>
        refine (fit_1 FS2.out y A' m5 c' HKD.out FOK.out fb false hr).mono ?_
        rintro e W3 ⟨rfl, hb3⟩
        have G3 := Aside0.mk (below_step G2.out hb3)
        have FS3 := Aside0.mk (FS.out.below G3.out)
        have FNO := Aside0.mk (show F = (s, k, z) by rw [FRC.out, ← FFB.out, if_neg (by rw [hr]; decide)])
        clear hb3 hr
        go_wp2
        refine wpIn_cond_true (by rfl) ?_
        refine wpIn_exit ?_
        show (∀ k, T k ∧ w1.heap.size ≤ k → W3.heap[k]? = W.heap[k]?) ∧ Code.exit 0 = Code.exit 0 ∧ RX w F W3
        have hbw := HBW.out
        refine ⟨fun j hj => G3.out.block j (FT.out j hj.1), rfl, ?_⟩
        rw [FNO.out]
        refine ⟨E, ne, ce, okr, ?_, ?_, ?_, ?_, fun j hj => ⟨?_, ?_⟩, ?_⟩
        · rw [← hbw]; exact FS3.out
        · rw [← hbw]; exact (G3.out.block b (blk_lt F0.out)).trans F0.out
        · rw [← hbw]; exact (G3.out.block (b + 2) (blk_lt F3.out)).trans F3.out
        · rw [← hbw]; exact (G3.out.block (b + 3) (blk_lt F4.out)).trans F4.out
        · rw [← hbw]; exact (F6.out j hj).1
        · obtain ⟨cs, q, hc⟩ := (F6.out j hj).2.2
          exact ⟨cs, q, (G3.out.block j (blk_lt hc)).trans hc⟩
        · exact below_then F7.out FWW.out G3.out
      | true =>
        refine (fit_1 FS2.out y A' m5 c' HKD.out FOK.out fb true hr).mono ?_
        rintro e W3 ⟨rfl, hb3⟩
        have G3 := Aside0.mk (below_step G2.out hb3)
        have FS3 := Aside0.mk (FS'.out.below G3.out)
        have FFT := Aside0.mk hr
        clear hb3 hr
        go_wp2
        refine wpIn_cond_false (by rfl) ?_
        refine wpIn_skip ?_
        simp only [Exit.then]
        refine region_round l (by rintro ⟨a, w, h⟩; exact h) (by simp) ?_
        go_wp2_with fail
        refine (say_1 FS3.out y A' m5 c' HKD.out FOK.out okx (Kd.R_below (Kd.R_lower FR.out (Nat.le_add_right b 5)) G3.out) FXO.out (fun j hj => .inr (.inr (Nat.le_trans G3.out.size hj))) (by have := FWW.out; have := G3.out.size; have := HBW.out; omega) fb FFT.out FZ.out (says_small FS.out.small FFT.out FOK.out FZ.out (by have := F9.out; have := FK.out; have := HLN.out; omega))).mono ?_
        rintro e W4 ⟨⟨v4, rfl⟩, E', ne', ce', hS4, hF4⟩
        have G4 := Aside0.mk ((Frm.of_below G3.out (fun j => j = b + 1 ∨ (Value.slice E ne ce).ownBlock = some j)).then_ hF4 (fun j h _ => h))
        have FS4 := Aside0.mk hS4
        clear hS4 hF4
        go_wp2
        exact HK.out _ _ ⟨⟨_, _, _, _, _, _, _, _, _, _, _, rfl⟩, FFT.out, ⟨_, _, _, FS4.out⟩, G4.out⟩
    · have HKD := Aside0.mk hk
      clear hk
      refine region_round l (by rintro ⟨a, w, h⟩; exact h) (by simp) ?_
      go_wp2_with fail
      refine (known_2 y HKD.out A' m5 c' W).mono ?_
      rintro e W2 ⟨rfl, hb2⟩
      have G2 := Aside0.mk hb2
      have FS2 := Aside0.mk (FS'.out.below hb2)
      clear hb2 v0 v1 v2 v3 v4 v5 v6 v7 v8 v9 v10 v11 v12
      go_wp2
      refine wpIn_seq ?_
      refine region_round l (by rintro ⟨a, w, h⟩; exact h) (by simp) ?_
      go_wp2_with fail
      cases hr : s.fits y fb with
      | false =>
        refine (fit_2 FS2.out y A' m5 c' HKD.out FOK.out fb false hr).mono ?_
        rintro e W3 ⟨rfl, hb3⟩
        have G3 := Aside0.mk (below_step G2.out hb3)
        have FS3 := Aside0.mk (FS.out.below G3.out)
        have FNO := Aside0.mk (show F = (s, k, z) by rw [FRC.out, ← FFB.out, if_neg (by rw [hr]; decide)])
        clear hb3 hr
        go_wp2
        refine wpIn_cond_true (by rfl) ?_
        refine wpIn_exit ?_
        show (∀ k, T k ∧ w1.heap.size ≤ k → W3.heap[k]? = W.heap[k]?) ∧ Code.exit 0 = Code.exit 0 ∧ RX w F W3
        have hbw := HBW.out
        refine ⟨fun j hj => G3.out.block j (FT.out j hj.1), rfl, ?_⟩
        rw [FNO.out]
        refine ⟨E, ne, ce, okr, ?_, ?_, ?_, ?_, fun j hj => ⟨?_, ?_⟩, ?_⟩
        · rw [← hbw]; exact FS3.out
        · rw [← hbw]; exact (G3.out.block b (blk_lt F0.out)).trans F0.out
        · rw [← hbw]; exact (G3.out.block (b + 2) (blk_lt F3.out)).trans F3.out
        · rw [← hbw]; exact (G3.out.block (b + 3) (blk_lt F4.out)).trans F4.out
        · rw [← hbw]; exact (F6.out j hj).1
        · obtain ⟨cs, q, hc⟩ := (F6.out j hj).2.2
          exact ⟨cs, q, (G3.out.block j (blk_lt hc)).trans hc⟩
        · exact below_then F7.out FWW.out G3.out
      | true =>
        refine (fit_2 FS2.out y A' m5 c' HKD.out FOK.out fb true hr).mono ?_
        rintro e W3 ⟨rfl, hb3⟩
        have G3 := Aside0.mk (below_step G2.out hb3)
        have FS3 := Aside0.mk (FS'.out.below G3.out)
        have FFT := Aside0.mk hr
        clear hb3 hr
        go_wp2
        refine wpIn_cond_false (by rfl) ?_
        refine wpIn_skip ?_
        simp only [Exit.then]
        refine region_round l (by rintro ⟨a, w, h⟩; exact h) (by simp) ?_
        go_wp2_with fail
        refine (say_2 FS3.out y A' m5 c' HKD.out FOK.out okx (Kd.R_below (Kd.R_lower FR.out (Nat.le_add_right b 5)) G3.out) FXO.out (fun j hj => .inr (.inr (Nat.le_trans G3.out.size hj))) (by have := FWW.out; have := G3.out.size; have := HBW.out; omega) fb FFT.out FZ.out (says_small FS.out.small FFT.out FOK.out FZ.out (by have := F9.out; have := FK.out; have := HLN.out; omega))).mono ?_
        rintro e W4 ⟨⟨v4, rfl⟩, E', ne', ce', hS4, hF4⟩
        have G4 := Aside0.mk ((Frm.of_below G3.out (fun j => j = b + 1 ∨ (Value.slice E ne ce).ownBlock = some j)).then_ hF4 (fun j h _ => h))
        have FS4 := Aside0.mk hS4
        clear hS4 hF4
        go_wp2
        exact HK.out _ _ ⟨⟨_, _, _, _, _, _, _, _, _, _, _, rfl⟩, FFT.out, ⟨_, _, _, FS4.out⟩, G4.out⟩
    · have HKD := Aside0.mk hk
      clear hk
      refine region_round l (by rintro ⟨a, w, h⟩; exact h) (by simp) ?_
      go_wp2_with fail
      refine (known_3 y HKD.out A' m5 c' W).mono ?_
      rintro e W2 ⟨rfl, hb2⟩
      have G2 := Aside0.mk hb2
      have FS2 := Aside0.mk (FS'.out.below hb2)
      clear hb2 v0 v1 v2 v3 v4 v5 v6 v7 v8 v9 v10 v11 v12
      go_wp2
      refine wpIn_seq ?_
      refine region_round l (by rintro ⟨a, w, h⟩; exact h) (by simp) ?_
      go_wp2_with fail
      cases hr : s.fits y fb with
      | false =>
        refine (fit_3 FS2.out y A' m5 c' HKD.out FOK.out fb false hr).mono ?_
        rintro e W3 ⟨rfl, hb3⟩
        have G3 := Aside0.mk (below_step G2.out hb3)
        have FS3 := Aside0.mk (FS.out.below G3.out)
        have FNO := Aside0.mk (show F = (s, k, z) by rw [FRC.out, ← FFB.out, if_neg (by rw [hr]; decide)])
        clear hb3 hr
        go_wp2
        refine wpIn_cond_true (by rfl) ?_
        refine wpIn_exit ?_
        show (∀ k, T k ∧ w1.heap.size ≤ k → W3.heap[k]? = W.heap[k]?) ∧ Code.exit 0 = Code.exit 0 ∧ RX w F W3
        have hbw := HBW.out
        refine ⟨fun j hj => G3.out.block j (FT.out j hj.1), rfl, ?_⟩
        rw [FNO.out]
        refine ⟨E, ne, ce, okr, ?_, ?_, ?_, ?_, fun j hj => ⟨?_, ?_⟩, ?_⟩
        · rw [← hbw]; exact FS3.out
        · rw [← hbw]; exact (G3.out.block b (blk_lt F0.out)).trans F0.out
        · rw [← hbw]; exact (G3.out.block (b + 2) (blk_lt F3.out)).trans F3.out
        · rw [← hbw]; exact (G3.out.block (b + 3) (blk_lt F4.out)).trans F4.out
        · rw [← hbw]; exact (F6.out j hj).1
        · obtain ⟨cs, q, hc⟩ := (F6.out j hj).2.2
          exact ⟨cs, q, (G3.out.block j (blk_lt hc)).trans hc⟩
        · exact below_then F7.out FWW.out G3.out
      | true =>
        refine (fit_3 FS2.out y A' m5 c' HKD.out FOK.out fb true hr).mono ?_
        rintro e W3 ⟨rfl, hb3⟩
        have G3 := Aside0.mk (below_step G2.out hb3)
        have FS3 := Aside0.mk (FS'.out.below G3.out)
        have FFT := Aside0.mk hr
        clear hb3 hr
        go_wp2
        refine wpIn_cond_false (by rfl) ?_
        refine wpIn_skip ?_
        simp only [Exit.then]
        refine region_round l (by rintro ⟨a, w, h⟩; exact h) (by simp) ?_
        go_wp2_with fail
        refine (say_3 FS3.out y A' m5 c' HKD.out FOK.out okx (Kd.R_below (Kd.R_lower FR.out (Nat.le_add_right b 5)) G3.out) FXO.out (fun j hj => .inr (.inr (Nat.le_trans G3.out.size hj))) (by have := FWW.out; have := G3.out.size; have := HBW.out; omega) fb FFT.out FZ.out (says_small FS.out.small FFT.out FOK.out FZ.out (by have := F9.out; have := FK.out; have := HLN.out; omega))).mono ?_
        rintro e W4 ⟨⟨v4, rfl⟩, E', ne', ce', hS4, hF4⟩
        have G4 := Aside0.mk ((Frm.of_below G3.out (fun j => j = b + 1 ∨ (Value.slice E ne ce).ownBlock = some j)).then_ hF4 (fun j h _ => h))
        have FS4 := Aside0.mk hS4
        clear hS4 hF4
        go_wp2
        exact HK.out _ _ ⟨⟨_, _, _, _, _, _, _, _, _, _, _, rfl⟩, FFT.out, ⟨_, _, _, FS4.out⟩, G4.out⟩
    · have HKD := Aside0.mk hk
      clear hk
      refine region_round l (by rintro ⟨a, w, h⟩; exact h) (by simp) ?_
      go_wp2_with fail
      refine (known_4 y HKD.out A' m5 c' W).mono ?_
      rintro e W2 ⟨rfl, hb2⟩
      have G2 := Aside0.mk hb2
      have FS2 := Aside0.mk (FS'.out.below hb2)
      clear hb2 v0 v1 v2 v3 v4 v5 v6 v7 v8 v9 v10 v11 v12
      go_wp2
      refine wpIn_seq ?_
      refine region_round l (by rintro ⟨a, w, h⟩; exact h) (by simp) ?_
      go_wp2_with fail
      cases hr : s.fits y fb with
      | false =>
        refine (fit_4 FS2.out y A' m5 c' HKD.out FOK.out fb false hr).mono ?_
        rintro e W3 ⟨rfl, hb3⟩
        have G3 := Aside0.mk (below_step G2.out hb3)
        have FS3 := Aside0.mk (FS.out.below G3.out)
        have FNO := Aside0.mk (show F = (s, k, z) by rw [FRC.out, ← FFB.out, if_neg (by rw [hr]; decide)])
        clear hb3 hr
        go_wp2
        refine wpIn_cond_true (by rfl) ?_
        refine wpIn_exit ?_
        show (∀ k, T k ∧ w1.heap.size ≤ k → W3.heap[k]? = W.heap[k]?) ∧ Code.exit 0 = Code.exit 0 ∧ RX w F W3
        have hbw := HBW.out
        refine ⟨fun j hj => G3.out.block j (FT.out j hj.1), rfl, ?_⟩
        rw [FNO.out]
        refine ⟨E, ne, ce, okr, ?_, ?_, ?_, ?_, fun j hj => ⟨?_, ?_⟩, ?_⟩
        · rw [← hbw]; exact FS3.out
        · rw [← hbw]; exact (G3.out.block b (blk_lt F0.out)).trans F0.out
        · rw [← hbw]; exact (G3.out.block (b + 2) (blk_lt F3.out)).trans F3.out
        · rw [← hbw]; exact (G3.out.block (b + 3) (blk_lt F4.out)).trans F4.out
        · rw [← hbw]; exact (F6.out j hj).1
        · obtain ⟨cs, q, hc⟩ := (F6.out j hj).2.2
          exact ⟨cs, q, (G3.out.block j (blk_lt hc)).trans hc⟩
        · exact below_then F7.out FWW.out G3.out
      | true =>
        refine (fit_4 FS2.out y A' m5 c' HKD.out FOK.out fb true hr).mono ?_
        rintro e W3 ⟨rfl, hb3⟩
        have G3 := Aside0.mk (below_step G2.out hb3)
        have FS3 := Aside0.mk (FS'.out.below G3.out)
        have FFT := Aside0.mk hr
        clear hb3 hr
        go_wp2
        refine wpIn_cond_false (by rfl) ?_
        refine wpIn_skip ?_
        simp only [Exit.then]
        refine region_round l (by rintro ⟨a, w, h⟩; exact h) (by simp) ?_
        go_wp2_with fail
        refine (say_4 FS3.out y A' m5 c' HKD.out FOK.out okx (Kd.R_below (Kd.R_lower FR.out (Nat.le_add_right b 5)) G3.out) FXO.out (fun j hj => .inr (.inr (Nat.le_trans G3.out.size hj))) (by have := FWW.out; have := G3.out.size; have := HBW.out; omega) fb FFT.out FZ.out (says_small FS.out.small FFT.out FOK.out FZ.out (by have := F9.out; have := FK.out; have := HLN.out; omega))).mono ?_
        rintro e W4 ⟨⟨v4, rfl⟩, E', ne', ce', hS4, hF4⟩
        have G4 := Aside0.mk ((Frm.of_below G3.out (fun j => j = b + 1 ∨ (Value.slice E ne ce).ownBlock = some j)).then_ hF4 (fun j h _ => h))
        have FS4 := Aside0.mk hS4
        clear hS4 hF4
        go_wp2
        exact HK.out _ _ ⟨⟨_, _, _, _, _, _, _, _, _, _, _, rfl⟩, FFT.out, ⟨_, _, _, FS4.out⟩, G4.out⟩
    · have HKD := Aside0.mk hk
      clear hk
      refine region_round l (by rintro ⟨a, w, h⟩; exact h) (by simp) ?_
      go_wp2_with fail
      refine (known_5 y HKD.out A' m5 c' W).mono ?_
      rintro e W2 ⟨rfl, hb2⟩
      have G2 := Aside0.mk hb2
      have FS2 := Aside0.mk (FS'.out.below hb2)
      clear hb2 v0 v1 v2 v3 v4 v5 v6 v7 v8 v9 v10 v11 v12
      go_wp2
      refine wpIn_seq ?_
      refine region_round l (by rintro ⟨a, w, h⟩; exact h) (by simp) ?_
      go_wp2_with fail
      cases hr : s.fits y fb with
      | false =>
        refine (fit_5 FS2.out y A' m5 c' HKD.out FOK.out fb false hr).mono ?_
        rintro e W3 ⟨rfl, hb3⟩
        have G3 := Aside0.mk (below_step G2.out hb3)
        have FS3 := Aside0.mk (FS.out.below G3.out)
        have FNO := Aside0.mk (show F = (s, k, z) by rw [FRC.out, ← FFB.out, if_neg (by rw [hr]; decide)])
        clear hb3 hr
        go_wp2
        refine wpIn_cond_true (by rfl) ?_
        refine wpIn_exit ?_
        show (∀ k, T k ∧ w1.heap.size ≤ k → W3.heap[k]? = W.heap[k]?) ∧ Code.exit 0 = Code.exit 0 ∧ RX w F W3
        have hbw := HBW.out
        refine ⟨fun j hj => G3.out.block j (FT.out j hj.1), rfl, ?_⟩
        rw [FNO.out]
        refine ⟨E, ne, ce, okr, ?_, ?_, ?_, ?_, fun j hj => ⟨?_, ?_⟩, ?_⟩
        · rw [← hbw]; exact FS3.out
        · rw [← hbw]; exact (G3.out.block b (blk_lt F0.out)).trans F0.out
        · rw [← hbw]; exact (G3.out.block (b + 2) (blk_lt F3.out)).trans F3.out
        · rw [← hbw]; exact (G3.out.block (b + 3) (blk_lt F4.out)).trans F4.out
        · rw [← hbw]; exact (F6.out j hj).1
        · obtain ⟨cs, q, hc⟩ := (F6.out j hj).2.2
          exact ⟨cs, q, (G3.out.block j (blk_lt hc)).trans hc⟩
        · exact below_then F7.out FWW.out G3.out
      | true =>
        refine (fit_5 FS2.out y A' m5 c' HKD.out FOK.out fb true hr).mono ?_
        rintro e W3 ⟨rfl, hb3⟩
        have G3 := Aside0.mk (below_step G2.out hb3)
        have FS3 := Aside0.mk (FS'.out.below G3.out)
        have FFT := Aside0.mk hr
        clear hb3 hr
        go_wp2
        refine wpIn_cond_false (by rfl) ?_
        refine wpIn_skip ?_
        simp only [Exit.then]
        refine region_round l (by rintro ⟨a, w, h⟩; exact h) (by simp) ?_
        go_wp2_with fail
        refine (say_5 FS3.out y A' m5 c' HKD.out FOK.out okx (Kd.R_below (Kd.R_lower FR.out (Nat.le_add_right b 5)) G3.out) FXO.out (fun j hj => .inr (.inr (Nat.le_trans G3.out.size hj))) (by have := FWW.out; have := G3.out.size; have := HBW.out; omega) fb FFT.out FZ.out (says_small FS.out.small FFT.out FOK.out FZ.out (by have := F9.out; have := FK.out; have := HLN.out; omega))).mono ?_
        rintro e W4 ⟨⟨v4, rfl⟩, E', ne', ce', hS4, hF4⟩
        have G4 := Aside0.mk ((Frm.of_below G3.out (fun j => j = b + 1 ∨ (Value.slice E ne ce).ownBlock = some j)).then_ hF4 (fun j h _ => h))
        have FS4 := Aside0.mk hS4
        clear hS4 hF4
        go_wp2
        exact HK.out _ _ ⟨⟨_, _, _, _, _, _, _, _, _, _, _, rfl⟩, FFT.out, ⟨_, _, _, FS4.out⟩, G4.out⟩
    · have HKD := Aside0.mk hk
      clear hk
      refine region_round l (by rintro ⟨a, w, h⟩; exact h) (by simp) ?_
      go_wp2_with fail
      refine (known_6 y HKD.out A' m5 c' W).mono ?_
      rintro e W2 ⟨rfl, hb2⟩
      have G2 := Aside0.mk hb2
      have FS2 := Aside0.mk (FS'.out.below hb2)
      clear hb2 v0 v1 v2 v3 v4 v5 v6 v7 v8 v9 v10 v11 v12
      go_wp2
      refine wpIn_seq ?_
      refine region_round l (by rintro ⟨a, w, h⟩; exact h) (by simp) ?_
      go_wp2_with fail
      cases hr : s.fits y fb with
      | false =>
        refine (fit_6 FS2.out y A' m5 c' HKD.out FOK.out fb false hr).mono ?_
        rintro e W3 ⟨rfl, hb3⟩
        have G3 := Aside0.mk (below_step G2.out hb3)
        have FS3 := Aside0.mk (FS.out.below G3.out)
        have FNO := Aside0.mk (show F = (s, k, z) by rw [FRC.out, ← FFB.out, if_neg (by rw [hr]; decide)])
        clear hb3 hr
        go_wp2
        refine wpIn_cond_true (by rfl) ?_
        refine wpIn_exit ?_
        show (∀ k, T k ∧ w1.heap.size ≤ k → W3.heap[k]? = W.heap[k]?) ∧ Code.exit 0 = Code.exit 0 ∧ RX w F W3
        have hbw := HBW.out
        refine ⟨fun j hj => G3.out.block j (FT.out j hj.1), rfl, ?_⟩
        rw [FNO.out]
        refine ⟨E, ne, ce, okr, ?_, ?_, ?_, ?_, fun j hj => ⟨?_, ?_⟩, ?_⟩
        · rw [← hbw]; exact FS3.out
        · rw [← hbw]; exact (G3.out.block b (blk_lt F0.out)).trans F0.out
        · rw [← hbw]; exact (G3.out.block (b + 2) (blk_lt F3.out)).trans F3.out
        · rw [← hbw]; exact (G3.out.block (b + 3) (blk_lt F4.out)).trans F4.out
        · rw [← hbw]; exact (F6.out j hj).1
        · obtain ⟨cs, q, hc⟩ := (F6.out j hj).2.2
          exact ⟨cs, q, (G3.out.block j (blk_lt hc)).trans hc⟩
        · exact below_then F7.out FWW.out G3.out
      | true =>
        refine (fit_6 FS2.out y A' m5 c' HKD.out FOK.out fb true hr).mono ?_
        rintro e W3 ⟨rfl, hb3⟩
        have G3 := Aside0.mk (below_step G2.out hb3)
        have FS3 := Aside0.mk (FS'.out.below G3.out)
        have FFT := Aside0.mk hr
        clear hb3 hr
        go_wp2
        refine wpIn_cond_false (by rfl) ?_
        refine wpIn_skip ?_
        simp only [Exit.then]
        refine region_round l (by rintro ⟨a, w, h⟩; exact h) (by simp) ?_
        go_wp2_with fail
        refine (say_6 FS3.out y A' m5 c' HKD.out FOK.out okx (Kd.R_below (Kd.R_lower FR.out (Nat.le_add_right b 5)) G3.out) FXO.out (fun j hj => .inr (.inr (Nat.le_trans G3.out.size hj))) (by have := FWW.out; have := G3.out.size; have := HBW.out; omega) fb FFT.out FZ.out (says_small FS.out.small FFT.out FOK.out FZ.out (by have := F9.out; have := FK.out; have := HLN.out; omega))).mono ?_
        rintro e W4 ⟨⟨v4, rfl⟩, E', ne', ce', hS4, hF4⟩
        have G4 := Aside0.mk ((Frm.of_below G3.out (fun j => j = b + 1 ∨ (Value.slice E ne ce).ownBlock = some j)).then_ hF4 (fun j h _ => h))
        have FS4 := Aside0.mk hS4
        clear hS4 hF4
        go_wp2
        exact HK.out _ _ ⟨⟨_, _, _, _, _, _, _, _, _, _, _, rfl⟩, FFT.out, ⟨_, _, _, FS4.out⟩, G4.out⟩
  case done =>
    rintro D W hD hI hK2
    have hX := RV_done hI
    clear hI
    obtain ⟨E, ne, ce, okr, h1, h2, h3, h4, h6, h7⟩ := hX
    rw [← HBW.out] at h1 h2 h3 h4 h6
    have hb5 : b + 5 ≤ D := by have := HB.out.2.2.2.2.2.1; have := HBW.out; omega
    obtain ⟨s, cn, zn⟩ := F
    simp only at h1 h3 h4
    have F1 := Aside0.mk h2
    have FS := Aside0.mk h1
    have F2 := Aside0.mk h1.blk
    have F3 := Aside0.mk h3
    have F4 := Aside0.mk h4
    have F6 := Aside0.mk h6
    have F7 := Aside0.mk h7
    have FD := Aside0.mk hK2
    have FB := Aside0.mk hb5
    clear h1 h2 h3 h4 h6 h7 hK2 hb5 hI0 hD
    go_wp2_with fail
    refine wp_normal ?_
    have s0 : W.drew.cell? ⟨b + 1, 0, none⟩ = _ := (blk_cell (w := W.drew) F2.out 0).trans rfl
    have s1 : W.drew.cell? ⟨b + 1, 1, none⟩ = _ := (blk_cell (w := W.drew) F2.out 1).trans rfl
    have s2 : W.drew.cell? ⟨b + 1, 2, none⟩ = _ := (blk_cell (w := W.drew) F2.out 2).trans rfl
    have s3 : W.drew.cell? ⟨b + 1, 3, none⟩ = _ := (blk_cell (w := W.drew) F2.out 3).trans rfl
    have s4 : W.drew.cell? ⟨b + 1, 4, none⟩ = _ := (blk_cell (w := W.drew) F2.out 4).trans rfl
    have s5 : W.drew.cell? ⟨b + 1, 5, none⟩ = _ := (blk_cell (w := W.drew) F2.out 5).trans rfl
    have s6 : W.drew.cell? ⟨b + 1, 6, none⟩ = _ := (blk_cell (w := W.drew) F2.out 6).trans rfl
    have s7 : W.drew.cell? ⟨b + 1, 7, none⟩ = _ := (blk_cell (w := W.drew) F2.out 7).trans rfl
    have s8 : W.drew.cell? ⟨b + 1, 8, none⟩ = _ := (blk_cell (w := W.drew) F2.out 8).trans rfl
    have c2 : W.drew.cell? ⟨b + 2, 0, none⟩ = some (.int .i64 (cn : Int)) := (blk_cell (w := W.drew) F3.out 0).trans rfl
    have c3 : W.drew.cell? ⟨b + 3, 0, none⟩ = some (.int .i64 (zn : Int)) := (blk_cell (w := W.drew) F4.out 0).trans rfl
    refine start_ (n := 6) (S := fun w' => w'.cell? ⟨b + 1, 0, none⟩ = some (.int .i64 s.vn) ∧ w'.cell? ⟨b + 1, 1, none⟩ = some (.int .i64 s.vp) ∧ w'.cell? ⟨b + 1, 2, none⟩ = some (.int .i64 s.vb) ∧ w'.cell? ⟨b + 1, 3, none⟩ = some (.int .i64 s.ma) ∧ w'.cell? ⟨b + 1, 4, none⟩ = some (.int .i64 s.st) ∧ w'.cell? ⟨b + 1, 5, none⟩ = some (.int .i64 s.of) ∧ w'.cell? ⟨b + 1, 6, none⟩ = some (.string s.x) ∧ w'.cell? ⟨b + 1, 7, none⟩ = some (.slice E ne ce) ∧ w'.cell? ⟨b + 1, 8, none⟩ = some (.int .i64 s.co) ∧ w'.cell? ⟨b + 2, 0, none⟩ = some (.int .i64 (cn : Int)) ∧ w'.cell? ⟨b + 3, 0, none⟩ = some (.int .i64 (zn : Int))) (ds := []) bq209 (by kernel_rfl) rfl rfl ⟨s0, s1, s2, s3, s4, s5, s6, s7, s8, c2, c3⟩ (fun hHeld => ?_)
    refine take_ (i := 0) (N := some 37) (v := ?_) (a' := ?_) bq210 rfl rfl (by kernel_rfl) (fun _ _ _ h => nomatch h.1) (Or.inl ⟨by rfl, ?_⟩) hHeld ?_ ?_
    rotate_left
    · rintro w' ⟨s0, s1, s2, s3, s4, s5, s6, s7, s8, s9, s10⟩
      go_simp; with_reducible rfl
    rotate_left
    · simp only [sxx]; rfl
    refine take_ (i := 1) (N := some 38) (v := ?_) (a' := ?_) bq211 rfl rfl (by kernel_rfl) (fun _ _ _ h => nomatch h.1) (Or.inl ⟨by rfl, ?_⟩) hHeld ?_ ?_
    rotate_left
    · rintro w' ⟨s0, s1, s2, s3, s4, s5, s6, s7, s8, s9, s10⟩
      go_simp; with_reducible rfl
    rotate_left
    · simp only [sxx]; rfl
    refine take_ (i := 2) (N := some 39) (v := ?_) (a' := ?_) bq212 rfl rfl (by kernel_rfl) (fun _ _ _ h => nomatch h.1) (Or.inl ⟨by rfl, ?_⟩) hHeld ?_ ?_
    rotate_left
    · rintro w' ⟨s0, s1, s2, s3, s4, s5, s6, s7, s8, s9, s10⟩
      go_simp; with_reducible rfl
    rotate_left
    · simp only [sxx]; rfl
    refine one_ (i := 3) (N := none) bq213 rfl rfl (by kernel_rfl) (by decide) (fun K hK => ?_)
    refine store_arm 53 _ _ rfl (by rfl) rfl (q := b) (i := 0) (cur' := s.cells E ne ce) (s.cells E ne ce).toList rfl rfl rfl (by kernel_rfl) (by intro u hu; simp at hu; rcases hu with rfl | rfl | rfl | rfl | rfl | rfl | rfl | rfl | rfl <;> rfl) (show W.drew.heap[b]? = _ from F1.out) (by simp) rfl ?_
    intro w9 hp9 hg9
    have F1' := Aside0.mk hp9
    have F2' := Aside0.mk ((hg9.block (b + 1) (show b + 1 < W.drew.heap.size from blk_lt F2.out) (fun e => by have := Option.some.inj e; omega)).trans (show W.drew.heap[b + 1]? = _ from F2.out))
    have F3' := Aside0.mk ((hg9.block (b + 2) (show b + 2 < W.drew.heap.size from blk_lt F3.out) (fun e => by have := Option.some.inj e; omega)).trans (show W.drew.heap[b + 2]? = _ from F3.out))
    have F4' := Aside0.mk ((hg9.block (b + 3) (show b + 3 < W.drew.heap.size from blk_lt F4.out) (fun e => by have := Option.some.inj e; omega)).trans (show W.drew.heap[b + 3]? = _ from F4.out))
    have FD' := Aside0.mk ((hg9.block D (show D < W.drew.heap.size from blk_lt FD.out) (fun e => by have := Option.some.inj e; have := FB.out; omega)).trans (show W.drew.heap[D]? = _ from FD.out))
    have F7' := Aside0.mk ((below_drew1 F7.out).grown hg9 (below_drew1 F7.out).size (fun k e => by cases e; rw [HBW.out]; exact Nat.le_refl _))
    have FR' := Aside0.mk (show Kd.R k24 24 (w9.putObj D (.deferred none)) b okr (.slice E ne ce) s.es from Kd.R_step FS.out.row (fun j hj hlt => by
      have h8 := F6.out j hj
      have hne : j ≠ D := fun e => by
        obtain ⟨cs, q, hc⟩ := h8.2
        have h9 := FD.out
        rw [← e, hc] at h9
        cases h9
      exact (World.putObj_heap_other hne).trans (hg9.block j hlt (fun e => by have := Option.some.inj e; have := h8.1; omega))))
    refine hK.out _ _ ⟨(blk_cell F2'.out 0).trans rfl, (blk_cell F2'.out 1).trans rfl, (blk_cell F2'.out 2).trans rfl, (blk_cell F2'.out 3).trans rfl, (blk_cell F2'.out 4).trans rfl, (blk_cell F2'.out 5).trans rfl, (blk_cell F2'.out 6).trans rfl, (blk_cell F2'.out 7).trans rfl, (blk_cell F2'.out 8).trans rfl, (blk_cell F3'.out 0).trans rfl, (blk_cell F4'.out 0).trans rfl⟩ (fun hHeld => ?_)
    clear hK K
    refine pure_ (i := 4) (N := some 3) (v := ?_) (a' := ?_) bq214 rfl rfl (by kernel_rfl) (fun _ _ _ h => nomatch h.1) (Or.inl ⟨by rfl, ?_⟩) ?_ ?_
    rotate_left
    · intro w'; go_simp; with_reducible rfl
    rotate_left
    · simp only [sxx]; rfl
    refine pure_ (i := 5) (N := some 4) (v := ?_) (a' := ?_) bq215 rfl rfl (by kernel_rfl) (fun _ _ _ h => nomatch h.1) (Or.inl ⟨by rfl, ?_⟩) ?_ ?_
    rotate_left
    · intro w'; go_simp; with_reducible rfl
    rotate_left
    · simp only [sxx]; rfl
    refine done_ (by kernel_rfl) ?_
    refine ⟨rfl, ?_⟩
    go_wp2
    refine ⟨by simp, .inl ⟨_, _, rfl, run_takeDeferred FD'.out, ?_⟩⟩
    have b1 : (w9.putObj D (.deferred none)).heap[b]? = some (.cells (s.cells E ne ce) 53 (0, 0)) := (World.putObj_heap_other (by have := FB.out; omega)).trans F1'.out
    refine ⟨_, results20_row _ _ b _ _ _ rfl rfl rfl b1 rfl, E, ne, ce, rfl, FS.out.len, ?_, ?_⟩
    · rw [← HBW.out]; exact Kd.R_mono FR'.out (fun _ _ => trivial)
    · exact F7'.out.grown (grownBy_putObj' _ D _) F7'.out.size (fun r e => by cases e; have := FB.out; have := HBW.out; omega)
  case stop =>
    rintro D cd W hD ⟨rfl, hX⟩ hK2
    refine wp_exit ?_
    obtain ⟨E, ne, ce, okr, h1, h2, h3, h4, h6, h7⟩ := hX
    rw [← HBW.out] at h1 h2 h3 h4 h6
    have hb5 : b + 5 ≤ D := by have := HB.out.2.2.2.2.2.1; have := HBW.out; omega
    obtain ⟨s, cn, zn⟩ := F
    simp only at h1 h3 h4
    have F1 := Aside0.mk h2
    have FS := Aside0.mk h1
    have F2 := Aside0.mk h1.blk
    have F3 := Aside0.mk h3
    have F4 := Aside0.mk h4
    have F6 := Aside0.mk h6
    have F7 := Aside0.mk h7
    have FD := Aside0.mk hK2
    have FB := Aside0.mk hb5
    clear h1 h2 h3 h4 h6 h7 hK2 hb5 hI0 hD
    go_wp2_with fail
    refine wp_normal ?_
    have s0 : W.drew.cell? ⟨b + 1, 0, none⟩ = _ := (blk_cell (w := W.drew) F2.out 0).trans rfl
    have s1 : W.drew.cell? ⟨b + 1, 1, none⟩ = _ := (blk_cell (w := W.drew) F2.out 1).trans rfl
    have s2 : W.drew.cell? ⟨b + 1, 2, none⟩ = _ := (blk_cell (w := W.drew) F2.out 2).trans rfl
    have s3 : W.drew.cell? ⟨b + 1, 3, none⟩ = _ := (blk_cell (w := W.drew) F2.out 3).trans rfl
    have s4 : W.drew.cell? ⟨b + 1, 4, none⟩ = _ := (blk_cell (w := W.drew) F2.out 4).trans rfl
    have s5 : W.drew.cell? ⟨b + 1, 5, none⟩ = _ := (blk_cell (w := W.drew) F2.out 5).trans rfl
    have s6 : W.drew.cell? ⟨b + 1, 6, none⟩ = _ := (blk_cell (w := W.drew) F2.out 6).trans rfl
    have s7 : W.drew.cell? ⟨b + 1, 7, none⟩ = _ := (blk_cell (w := W.drew) F2.out 7).trans rfl
    have s8 : W.drew.cell? ⟨b + 1, 8, none⟩ = _ := (blk_cell (w := W.drew) F2.out 8).trans rfl
    have c2 : W.drew.cell? ⟨b + 2, 0, none⟩ = some (.int .i64 (cn : Int)) := (blk_cell (w := W.drew) F3.out 0).trans rfl
    have c3 : W.drew.cell? ⟨b + 3, 0, none⟩ = some (.int .i64 (zn : Int)) := (blk_cell (w := W.drew) F4.out 0).trans rfl
    refine start_ (n := 6) (S := fun w' => w'.cell? ⟨b + 1, 0, none⟩ = some (.int .i64 s.vn) ∧ w'.cell? ⟨b + 1, 1, none⟩ = some (.int .i64 s.vp) ∧ w'.cell? ⟨b + 1, 2, none⟩ = some (.int .i64 s.vb) ∧ w'.cell? ⟨b + 1, 3, none⟩ = some (.int .i64 s.ma) ∧ w'.cell? ⟨b + 1, 4, none⟩ = some (.int .i64 s.st) ∧ w'.cell? ⟨b + 1, 5, none⟩ = some (.int .i64 s.of) ∧ w'.cell? ⟨b + 1, 6, none⟩ = some (.string s.x) ∧ w'.cell? ⟨b + 1, 7, none⟩ = some (.slice E ne ce) ∧ w'.cell? ⟨b + 1, 8, none⟩ = some (.int .i64 s.co) ∧ w'.cell? ⟨b + 2, 0, none⟩ = some (.int .i64 (cn : Int)) ∧ w'.cell? ⟨b + 3, 0, none⟩ = some (.int .i64 (zn : Int))) (ds := []) bq209 (by kernel_rfl) rfl rfl ⟨s0, s1, s2, s3, s4, s5, s6, s7, s8, c2, c3⟩ (fun hHeld => ?_)
    refine take_ (i := 0) (N := some 37) (v := ?_) (a' := ?_) bq210 rfl rfl (by kernel_rfl) (fun _ _ _ h => nomatch h.1) (Or.inl ⟨by rfl, ?_⟩) hHeld ?_ ?_
    rotate_left
    · rintro w' ⟨s0, s1, s2, s3, s4, s5, s6, s7, s8, s9, s10⟩
      go_simp; with_reducible rfl
    rotate_left
    · simp only [sxx]; rfl
    refine take_ (i := 1) (N := some 38) (v := ?_) (a' := ?_) bq211 rfl rfl (by kernel_rfl) (fun _ _ _ h => nomatch h.1) (Or.inl ⟨by rfl, ?_⟩) hHeld ?_ ?_
    rotate_left
    · rintro w' ⟨s0, s1, s2, s3, s4, s5, s6, s7, s8, s9, s10⟩
      go_simp; with_reducible rfl
    rotate_left
    · simp only [sxx]; rfl
    refine take_ (i := 2) (N := some 39) (v := ?_) (a' := ?_) bq212 rfl rfl (by kernel_rfl) (fun _ _ _ h => nomatch h.1) (Or.inl ⟨by rfl, ?_⟩) hHeld ?_ ?_
    rotate_left
    · rintro w' ⟨s0, s1, s2, s3, s4, s5, s6, s7, s8, s9, s10⟩
      go_simp; with_reducible rfl
    rotate_left
    · simp only [sxx]; rfl
    refine one_ (i := 3) (N := none) bq213 rfl rfl (by kernel_rfl) (by decide) (fun K hK => ?_)
    refine store_arm 53 _ _ rfl (by rfl) rfl (q := b) (i := 0) (cur' := s.cells E ne ce) (s.cells E ne ce).toList rfl rfl rfl (by kernel_rfl) (by intro u hu; simp at hu; rcases hu with rfl | rfl | rfl | rfl | rfl | rfl | rfl | rfl | rfl <;> rfl) (show W.drew.heap[b]? = _ from F1.out) (by simp) rfl ?_
    intro w9 hp9 hg9
    have F1' := Aside0.mk hp9
    have F2' := Aside0.mk ((hg9.block (b + 1) (show b + 1 < W.drew.heap.size from blk_lt F2.out) (fun e => by have := Option.some.inj e; omega)).trans (show W.drew.heap[b + 1]? = _ from F2.out))
    have F3' := Aside0.mk ((hg9.block (b + 2) (show b + 2 < W.drew.heap.size from blk_lt F3.out) (fun e => by have := Option.some.inj e; omega)).trans (show W.drew.heap[b + 2]? = _ from F3.out))
    have F4' := Aside0.mk ((hg9.block (b + 3) (show b + 3 < W.drew.heap.size from blk_lt F4.out) (fun e => by have := Option.some.inj e; omega)).trans (show W.drew.heap[b + 3]? = _ from F4.out))
    have FD' := Aside0.mk ((hg9.block D (show D < W.drew.heap.size from blk_lt FD.out) (fun e => by have := Option.some.inj e; have := FB.out; omega)).trans (show W.drew.heap[D]? = _ from FD.out))
    have F7' := Aside0.mk ((below_drew1 F7.out).grown hg9 (below_drew1 F7.out).size (fun k e => by cases e; rw [HBW.out]; exact Nat.le_refl _))
    have FR' := Aside0.mk (show Kd.R k24 24 (w9.putObj D (.deferred none)) b okr (.slice E ne ce) s.es from Kd.R_step FS.out.row (fun j hj hlt => by
      have h8 := F6.out j hj
      have hne : j ≠ D := fun e => by
        obtain ⟨cs, q, hc⟩ := h8.2
        have h9 := FD.out
        rw [← e, hc] at h9
        cases h9
      exact (World.putObj_heap_other hne).trans (hg9.block j hlt (fun e => by have := Option.some.inj e; have := h8.1; omega))))
    refine hK.out _ _ ⟨(blk_cell F2'.out 0).trans rfl, (blk_cell F2'.out 1).trans rfl, (blk_cell F2'.out 2).trans rfl, (blk_cell F2'.out 3).trans rfl, (blk_cell F2'.out 4).trans rfl, (blk_cell F2'.out 5).trans rfl, (blk_cell F2'.out 6).trans rfl, (blk_cell F2'.out 7).trans rfl, (blk_cell F2'.out 8).trans rfl, (blk_cell F3'.out 0).trans rfl, (blk_cell F4'.out 0).trans rfl⟩ (fun hHeld => ?_)
    clear hK K
    refine pure_ (i := 4) (N := some 3) (v := ?_) (a' := ?_) bq214 rfl rfl (by kernel_rfl) (fun _ _ _ h => nomatch h.1) (Or.inl ⟨by rfl, ?_⟩) ?_ ?_
    rotate_left
    · intro w'; go_simp; with_reducible rfl
    rotate_left
    · simp only [sxx]; rfl
    refine pure_ (i := 5) (N := some 4) (v := ?_) (a' := ?_) bq215 rfl rfl (by kernel_rfl) (fun _ _ _ h => nomatch h.1) (Or.inl ⟨by rfl, ?_⟩) ?_ ?_
    rotate_left
    · intro w'; go_simp; with_reducible rfl
    rotate_left
    · simp only [sxx]; rfl
    refine done_ (by kernel_rfl) ?_
    refine ⟨rfl, ?_⟩
    go_wp2
    refine ⟨by simp, .inl ⟨_, _, rfl, run_takeDeferred FD'.out, ?_⟩⟩
    have b1 : (w9.putObj D (.deferred none)).heap[b]? = some (.cells (s.cells E ne ce) 53 (0, 0)) := (World.putObj_heap_other (by have := FB.out; omega)).trans F1'.out
    refine ⟨_, results20_row _ _ b _ _ _ rfl rfl rfl b1 rfl, E, ne, ce, rfl, FS.out.len, ?_, ?_⟩
    · rw [← HBW.out]; exact Kd.R_mono FR'.out (fun _ _ => trivial)
    · exact F7'.out.grown (grownBy_putObj' _ D _) F7'.out.size (fun r e => by cases e; have := FB.out; have := HBW.out; omega)

set_option maxHeartbeats 4000000 in
set_option maxRecDepth 100000 in
theorem compact_long (vn vp vb ma st of : Int) (x : ByteArray) (E : Option Addr) (ne ce : Nat) (co : Int) (w : World) (hx : 200000 < x.size) :
    Calls Try.prog 22 #[.agg (savedCells vn vp vb ma st of x E ne ce co)] w fun e w' => e = .returned (.tuple #[.slice none 0 0, .int .i64 0, .int .i64 2]) ∧ Below w.heap.size w w' := by
  have hu53 := Try.underlying53
  have hu26 := Try.underlying26
  obtain ⟨nx, hnx⟩ : ∃ nx, nx = x.size := ⟨_, rfl⟩
  have d1 : decide ((200000 : Int) < (x.size : Int)) = true := decide_eq_true (by omega)
  have d2 : decide (200000 < x.size) = true := decide_eq_true hx
  go_enter Try.func22, Try.ntmps22
  go_wp2
  go_ret3
  exact ⟨rfl, below_alloc (Below.refl _ _) _⟩
set_option maxHeartbeats 4000000 in
set_option maxRecDepth 100000 in
theorem known_C (w : World) : Calls Try.prog 16 #[] w fun e w' => e = .returned (.bool true) ∧ Below w.heap.size w w' := by
  have hu53 := Try.underlying53
  have hu26 := Try.underlying26
  have hu28 := Try.underlying28
  go_enter Try.func16, Try.ntmps16
  go_wp2_with fail
  refine (encode_C 1 2 0 0 0 0 0 none 0 0 [] 1 1 2 0 0 ⟨#[]⟩ w rfl (R40_C (Kd.R_nil _ _ _ _ _ : R40 w 0 (.slice none 0 0) [])) (Nat.zero_le _) b23 0 b23_enc).mono ?_
  rintro e w1 ⟨V, rfl, ho, hb⟩
  obtain ⟨A, c, hV, hc, hC⟩ : ∃ A c, V = .slice A 23 c ∧ 23 ≤ c ∧ C8 w1 A 23 b23 := by
    obtain ⟨A, c, h1, h2, h3⟩ := Kd.R_reads ho
    exact ⟨A, c, h1, h2, h3⟩
  subst hV
  have HB1 := Aside0.mk hb
  have HC1 := Aside0.mk hC
  have HCC := Aside0.mk hc
  clear hb ho hC hc
  go_wp2_with fail
  refine (num_N 0 w1).mono ?_
  rintro e w2 ⟨rfl, hd⟩
  have HB2 := Aside0.mk (below_step HB1.out hd.below)
  have HC2 := Aside0.mk (Kd.C_below HC1.out hd.below)
  clear hd HB1 HC1
  go_wp2_with (with_reducible refine stop_make rfl ?_)
  refine mkn8 (C := 200001) w2 w2.heap.size rfl rfl _ _ rfl rfl rfl (by omega) (by omega) (Below.refl _ _) (Nat.le_refl _) ?_
  intro v3 w3 ho hb hg hat
  obtain ⟨l, hl⟩ : ∃ l, l = List.replicate (200001 : Int).toNat (0 : Int) := ⟨_, rfl⟩
  rw [← hl] at ho
  obtain ⟨A3, c3, rfl, hc3, hC3⟩ := Kd.R_reads ho
  have hll : l.length = 200001 := by rw [hl]; exact List.length_replicate
  rw [hll] at hC3 ⊢
  have HB3 := Aside0.mk (below_step HB2.out hb)
  have HC3 := Aside0.mk hC3
  have HCD := Aside0.mk (Kd.C_below HC2.out hb)
  have HL := Aside0.mk hl
  clear ho hb hg hat hc3 hC3 hl
  go_wp2_with (with_reducible refine stop_convert rfl ?_)
  refine str8 rfl _ rfl rfl HC3.out ?_
  obtain ⟨x, hx⟩ : ∃ x, x = strOfNums l := ⟨_, rfl⟩
  rw [← hx]
  have HX := Aside0.mk (show 200000 < x.size by
    have h1 := bytesOf_str l (by rw [HL.out]; unfold bytesOk; exact List.all_eq_true.2 (fun b hb => by rw [List.eq_of_mem_replicate hb]; rfl))
    have h2 := bytesOf_length (strOfNums l)
    rw [h1, hll] at h2
    rw [hx]
    omega)
  clear hx hll
  go_wp2_with fail
  refine (compact_long 0 0 0 0 (-1) 0 x none 0 0 0 w3 HX.out).mono ?_
  rintro e w4 ⟨rfl, hb⟩
  have HB4 := Aside0.mk (below_step HB3.out hb)
  have HC4 := Aside0.mk (Kd.C_below HCD.out hb)
  clear hb
  go_wp2_with fail
  refine (num_N 2 w4).mono ?_
  rintro e w5 ⟨rfl, hd⟩
  have HB5 := Aside0.mk (below_step HB4.out hd.below)
  have HC5 := Aside0.mk (Kd.C_below HC4.out hd.below)
  clear hd
  go_wp2_with fail
  refine (num_N 2 w5).mono ?_
  rintro e w6 ⟨rfl, hd⟩
  have HB6 := Aside0.mk (below_step HB5.out hd.below)
  have HC6 := Aside0.mk (Kd.C_below HC5.out hd.below)
  clear hd
  go_wp2_with fail
  refine (recover_23 w6 A c HC6.out HCC.out).mono ?_
  rintro e w7 ⟨rfl, hb⟩
  have HB7 := Aside0.mk (below_step HB6.out hb)
  clear hb
  go_wp2; go_ret
  exact ⟨rfl, below_alloc HB7.out _⟩

theorem wrGo_cnt : ∀ (l : List JR) (d es : List Int) (ys : List JR), es.length = ys.length → Enc 0 ys d → ys.length ≤ 3000 → (wrGo l (d, es, ys)).2.2.length ≤ 3000
  | [], d, es, ys, he, hE, h => h
  | y :: l, d, es, ys, he, hE, h => by
    unfold wrGo
    by_cases h6 : d.length < 60000
    · rw [if_pos h6]
      by_cases h0 : (y.enc ((es.length : Int) + 1)).2 = 0
      · rw [if_pos h0]
        have hE2 : Enc 0 (ys ++ [y]) (d ++ (y.enc ((es.length : Int) + 1)).1) := Enc_snoc ys 0 d _ y hE (by rw [Nat.zero_add, ← he]; exact Prod.ext rfl h0)
        have := (Enc_ok ys 0 d hE).2
        exact wrGo_cnt l _ _ _ (by simp [he]) hE2 (by rw [List.length_append, List.length_cons, List.length_nil]; omega)
      · rw [if_neg h0]
        exact wrGo_cnt l _ _ _ he hE h
    · rw [if_neg h6]
      exact h

/-- What written leaves, told plainly. -/
theorem wr_plain (l : List JR) (D ES : List Int) (YS : List JR) (hF : wrGo l ([], [], []) = (D, ES, YS)) :
    Enc 0 YS D ∧ EndsOf YS ES ∧ D.length = bytesN 0 YS ∧ D.length ≤ 4100000 ∧ YS.length ≤ 3000 ∧ (∀ y ∈ YS, y ∈ l) := by
  obtain ⟨zs, z1, z2, z3, z4⟩ := wrGo_pick l [] [] [] rfl rfl
  have z5 := wrGo_len l [] [] [] (by simp)
  have z6 := wrGo_cnt l [] [] [] rfl rfl (by simp)
  obtain ⟨z7, z8⟩ := wrGo_ends l [] [] [] ⟨rfl, fun i hi => absurd hi (Nat.not_lt_zero _)⟩ rfl
  rw [hF] at z1 z3 z4 z5 z6 z7 z8
  simp only [List.nil_append] at z1 z3 z4 z5 z6 z7 z8
  subst z1
  exact ⟨z3, z7, z8, z5, z6, Pick_mem _ _ _ z2⟩

/-- Recover of the bytes of records that Encode takes. -/
theorem recover_enc (w : World) (A : Option Addr) (n c : Nat) (d : List Int) (YS : List JR) (hE : Enc 0 YS d) (hn : d.length = n) (hc : n ≤ c) (hm : n ≤ 1000000000) (hY : YS.length ≤ 999999) (hC : C8 w A n d) (F : SV × Nat × Nat) (hR : F = rcGo YS 0 SV.zero 0) :
    Calls Try.prog 20 #[.slice A n c] w fun e w' => ∃ E ne ce, e = .returned (.tuple #[.agg (F.1.cells E ne ce), .int .i64 (F.2.1 : Int), .int .i64 (F.2.2 : Int)]) ∧ F.1.es.length = ne ∧ Kd.R k24 24 w' w.heap.size (fun _ => True) (.slice E ne ce) F.1.es ∧ Below w.heap.size w w' := by
  have hw := Enc_walks YS 0 [] d hE (by rw [List.nil_append]; omega)
  rw [List.nil_append] at hw
  refine recover_R w A n c d YS hn hc hm hC hw hY (fun k y hy => ?_) F hR
  obtain ⟨r1, hr⟩ := Enc_get YS 0 d hE k y hy
  rw [Nat.zero_add] at hr
  exact ⟨r1, hr⟩
theorem C24_R {w : World} {base : Nat} {ok : Nat → Prop} {E : Option Addr} {n c : Nat} {l : List S24} (h : Kd.R k24 24 w base ok (.slice E n c) l) : Kd.C k24 w E n l := by
  obtain ⟨A0, c0, e0, _, h0⟩ := Kd.R_reads h
  injection e0 with e1 e2 e3
  rw [e1, e2]
  exact h0

theorem encAll_snoc0 (L : List JR) (y : JR) {n : Nat} (hn : L.length = n) : encAll 0 (L ++ [y]) = encAll 0 L ++ (y.enc ((n : Int) + 1)).1 := by
  rw [encAll_snoc, Nat.zero_add, hn]
theorem sz_a {a i : Nat} (h1 : a ≤ 4100000 + 4000000 * (i + 1)) (h2 : i < 30) : a ≤ 1000000000 := Nat.le_trans h1 (Nat.le_trans (Nat.add_le_add_left (Nat.mul_le_mul_left _ (show i + 1 ≤ 30 from h2)) _) (by decide))
theorem sz_b {a i : Nat} (h1 : a ≤ 28100000 + 4000000 * (i + 1)) (h2 : i < 30) : a ≤ 1000000000 := Nat.le_trans h1 (Nat.le_trans (Nat.add_le_add_left (Nat.mul_le_mul_left _ (show i + 1 ≤ 30 from h2)) _) (by decide))
theorem sz_l {L : List JR} {y : JR} {p : Nat} (h : p = L.length) (h2 : p ≤ 3036) : (L ++ [y]).length ≤ 999999 := by
  rw [List.length_append, ← h]
  simp only [List.length_cons, List.length_nil]
  omega
theorem sz_c {a i b : Nat} (h1 : a ≤ 4100000 + 4000000 * i) (h2 : i < 30) (h3 : b ≤ 4000000) : a + b ≤ 140737488355328 := by omega
theorem sz_d {a i b : Nat} (h1 : a ≤ 28100000 + 4000000 * i) (h2 : i < 30) (h3 : b ≤ 4000000) : a + b ≤ 140737488355328 := by omega
theorem sz_e {i a b : Nat} {L M : List Int} {x x' : List Int} (h1 : (L ++ x).length = a) (h2 : (M ++ x').length = b) (h3 : L.length ≤ 4100000 + 4000000 * i) (h4 : M.length ≤ 28100000 + 4000000 * i) (h5 : x.length ≤ 4000000) (h6 : x'.length ≤ 4000000) : a ≤ 4100000 + 4000000 * (i + 1) ∧ b ≤ 28100000 + 4000000 * (i + 1) := by
  rw [List.length_append] at h1 h2
  omega
theorem sz_f {i : Nat} {L M : List JR} {y : JR} {S S' : SV} (h1 : L.length ≤ 3000 + i) (h2 : M.length ≤ 3006 + i) (h3 : S.es.length ≤ 3000 + i) (h4 : S'.es.length ≤ S.es.length + 1) : (L ++ [y]).length ≤ 3000 + (i + 1) ∧ (M ++ [y]).length ≤ 3006 + (i + 1) ∧ S'.es.length ≤ 3000 + (i + 1) := by
  rw [List.length_append, List.length_append]
  simp only [List.length_cons, List.length_nil]
  omega
/-- A row of bytes that is not the one that was written. -/
theorem R8_apart {W w1 : World} {base : Nat} {v u : Value} {l : List Int} (h : R8 W base v l) (hne : ∀ j, v.ownBlock = some j → u.ownBlock ≠ some j) (hg : W.grownBy w1 u.ownBlock) : R8 w1 base v l :=
  R8_keep h (fun j hj => hg.block j (R8_lt h j hj).2 (fun e => hne j hj e.symm))
theorem apart_grown {W : World} {u u1 v : Value} (hlt : ∀ j, v.ownBlock = some j → j < W.heap.size) (hne : ∀ j, v.ownBlock = some j → u.ownBlock ≠ some j) (hat : u1.ownBlock = u.ownBlock ∨ ∃ b, u1.ownBlock = some b ∧ W.heap.size ≤ b) : ∀ j, v.ownBlock = some j → u1.ownBlock ≠ some j := by
  intro j hj e
  rcases hat with h | ⟨b, h, hb⟩
  · exact hne j hj (h ▸ e)
  · rw [h] at e
    have := Option.some.inj e
    have := hlt j hj
    omega
set_option maxHeartbeats 64000000 in
set_option maxRecDepth 100000 in
theorem journalGoes_walk (w : World) (A : Option Addr) (n c : Nat) (l : List JR) (A' : Option Addr) (n' c' : Nat) (l' : List JR) (hn : l.length = n) (hc : n ≤ c) (hm : n ≤ 2513169434843) (hC : Kd.C kJ w A n l) (hops : ∀ y ∈ l, y.ops.length ≤ 2513169434843) (hn' : l'.length = n') (hC' : Kd.C kJ w A' n' l') (hops' : ∀ y ∈ l', y.ops.length ≤ 2513169434843) :
    Calls Try.prog 8 #[.slice A n c, .slice A' n' c'] w fun e w' => e = .returned (.bool true) ∧ Below w.heap.size w w' := by
  have HN' := Aside0.mk hn'
  have HC' := Aside0.mk hC'
  have HOP' := Aside0.mk hops'
  clear hn' hC' hops'
  have hu53 := Try.underlying53
  have hu28 := Try.underlying28
  have hu26 := Try.underlying26
  have hu24 := Try.underlying24
  have HN := Aside0.mk hn
  have HC := Aside0.mk hC
  have HCC := Aside0.mk hc
  have HOP := Aside0.mk hops
  obtain ⟨D, ES, YS, hF⟩ : ∃ D ES YS, wrGo l ([], [], []) = (D, ES, YS) := ⟨_, _, _, rfl⟩
  have HF := Aside0.mk hF
  have HPL := Aside0.mk (wr_plain l D ES YS hF)
  obtain ⟨R, hR⟩ : ∃ R, R = rcGo YS 0 SV.zero 0 := ⟨_, rfl⟩
  have HRR := Aside0.mk hR
  have hSO : ∀ e ∈ R.1.es, e.f5.length ≤ 2513169434843 := by
    rw [hR]
    exact rcGo_all (fun e => e.f5.length ≤ 2513169434843) YS 0 SV.zero 0 (fun e he => by cases he) (fun y hy => HOP.out y (HPL.out.2.2.2.2.2 y hy))
  obtain ⟨SR, NR, ZR⟩ := R
  clear hn hC hc hops hF hR
  have HSO := Aside0.mk hSO
  have HSH := Aside0.mk (short_all HPL.out.1 HPL.out.2.2.2.1 HPL.out.2.2.2.2.1 HRR.out)
  clear hSO
  go_enter Try.func8, Try.ntmps8
  go_wp2_with fail
  refine (written_R w A n c l HN.out HCC.out hm HC.out).mono ?_
  rintro e w1 ⟨V, U, rfl, hv, hu, hb⟩
  rw [HF.out] at hv hu
  simp only at hv hu
  obtain ⟨A1, c1, rfl, h1, h2⟩ := Kd.R_reads hv
  obtain ⟨A2, c2, rfl, h3, h4⟩ := Kd.R_reads hu
  obtain ⟨m1, hm1⟩ : ∃ m1, m1 = D.length := ⟨_, rfl⟩
  rw [← hm1] at h1 h2 ⊢
  have HM1 := Aside0.mk hm1
  have H1 := Aside0.mk h1
  have H2 := Aside0.mk h2
  have HB1 := Aside0.mk hb
  clear hv hu h1 h2 h3 h4 hb hm1
  go_wp2_with fail
  refine (recover_enc w1 A1 m1 c1 D YS HPL.out.1 HM1.out.symm H1.out (by have := HPL.out.2.2.2.1; rw [HM1.out]; omega) (by have := HPL.out.2.2.2.2.1; omega) H2.out (SR, NR, ZR) HRR.out).mono ?_
  rintro e w2 ⟨E, ne, ce, rfl, hne, hrow, hb⟩
  simp only at hne hrow
  have HB2 := Aside0.mk (below_step HB1.out hb)
  have HW12 := Aside0.mk hb
  have HNE := Aside0.mk hne
  have HROW := Aside0.mk (C24_R hrow)
  clear hb hrow hne
  go_upto_region 3 with (fail)
  obtain ⟨w3, hw3⟩ : ∃ w3, w3 = w2.alloc (.cells (SR.cells E ne ce) 53) := ⟨_, rfl⟩
  obtain ⟨g3, hg3⟩ : ∃ g3, g3 = w2.heap.size := ⟨_, rfl⟩
  rw [← hw3, ← hg3]
  have HA3 := Aside0.mk (show Below w2.heap.size w2 w3 by rw [hw3]; exact below_alloc (Below.refl _ _) _)
  have HG3 := Aside0.mk (show w3.heap[g3]? = some (.cells (SR.cells E ne ce) 53 (0, 0)) by rw [hw3, hg3]; exact heap_alloc_new w2 _)
  have HB3 := Aside0.mk (below_step HB2.out HA3.out)
  have HR3 := Aside0.mk (Kd.C_below HROW.out HA3.out)
  clear hw3 hg3
  have a0 := (blk_cell HG3.out 0).trans rfl
  have a1 := (blk_cell HG3.out 1).trans rfl
  have a2 := (blk_cell HG3.out 2).trans rfl
  have a3 := (blk_cell HG3.out 3).trans rfl
  have a4 := (blk_cell HG3.out 4).trans rfl
  have a5 := (blk_cell HG3.out 5).trans rfl
  have a6 := (blk_cell HG3.out 6).trans rfl
  have a7 := (blk_cell HG3.out 7).trans rfl
  have a8 := (blk_cell HG3.out 8).trans rfl
  have HK1 := Aside0.mk (show ne ≤ 3000 by rw [← HNE.out]; exact HSH.out.2.1)
  obtain ⟨K, hK⟩ : ∃ K, K = SR.recs.length := ⟨_, rfl⟩
  obtain ⟨B, hB⟩ : ∃ B, B = encAll 0 SR.recs := ⟨_, rfl⟩
  have HCP := Aside0.mk (show SR.cpt = (B, K, 0) by rw [hK, hB]; exact good_cpt SR HSH.out.1)
  have HE2 := Aside0.mk (show Enc 0 SR.recs B by rw [hB]; exact HSH.out.2.2.2.2.2.1)
  have HR2 := Aside0.mk (show (SR, K, B.length) = rcGo SR.recs 0 SV.zero 0 by rw [hK, hB]; exact HSH.out.2.2.2.2.2.2.symm)
  have HKL := Aside0.mk (show K ≤ NR + 1 ∧ K ≤ 3006 by rw [hK]; exact ⟨HSH.out.2.2.1, HSH.out.2.2.2.1⟩)
  have HBL := Aside0.mk (show B.length ≤ 28100000 by rw [hB]; exact HSH.out.2.2.2.2.1)
  have HKK := Aside0.mk hK
  have HNR := Aside0.mk (show NR ≤ 3000 by
    have h1 := rcK_all YS
    rw [← HRR.out] at h1
    have h2 := rcN_le YS 0 SV.zero
    have h3 := HPL.out.2.2.2.2.1
    have h4 : NR = rcN YS 0 SV.zero := h1.1
    omega)
  clear hK hB
  have HZM := Aside0.mk (show ZR ≤ m1 by
    have h1 := rcK_all YS
    rw [← HRR.out] at h1
    have h2 : ZR ≤ bytesN 0 YS := h1.2
    have h3 := HPL.out.2.2.1
    rw [HM1.out]
    omega)
  have hz1 : decide ((m1 : Int) < (ZR : Int)) = false := decide_eq_false (by have := HZM.out; omega)
  have hz2 : decide (m1 < ZR) = false := decide_eq_false (by have := HZM.out; omega)
  have H23 := Aside0.mk (Kd.C_below H2.out (below_step (show Below w1.heap.size w1 w2 from HW12.out) HA3.out))
  go_wp2_with fail
  clear hz1 hz2
  refine (compact_N w3 SR E ne ce HNE.out (by have := HK1.out; omega) HR3.out B K 0 HCP.out).mono ?_
  rintro e w4 ⟨V4, rfl, hv, hb⟩
  obtain ⟨A4, c4, rfl, h1, h2⟩ := Kd.R_reads hv
  obtain ⟨mb, hmb⟩ : ∃ mb, mb = B.length := ⟨_, rfl⟩
  rw [← hmb] at hv h1 h2 ⊢
  have HMB := Aside0.mk hmb
  have H4 := Aside0.mk h1
  have H4C := Aside0.mk h2
  have HB4 := Aside0.mk hb
  have H24 := Aside0.mk (Kd.C_below H23.out hb)
  have HO4 := Aside0.mk hv
  clear hv hb h1 h2 hmb a0 a1 a2 a3 a4 a5 a6 a7 a8
  go_wp2_with fail
  refine (num_N 0 w4).mono ?_
  rintro e w5 ⟨rfl, hd⟩
  have HB5 := Aside0.mk (below_step HB3.out (below_step HB4.out hd.below))
  have H25 := Aside0.mk (Kd.C_below H24.out hd.below)
  have HO5 := Aside0.mk (Kd.R_lower (Kd.R_below HO4.out hd.below) (show w.heap.size ≤ w3.heap.size from HB3.out.size))
  clear hd
  obtain ⟨hq2, hCe⟩ := cutt8 (A := A1) (n := m1) (c := c1) (xs := D) ZR HZM.out H1.out
  have HCZ := Aside0.mk (hCe _ H25.out)
  have hzl : (D.take ZR).length = ZR := by rw [List.length_take, ← HM1.out]; have := HZM.out; omega
  have HZL := Aside0.mk hzl
  clear hCe hzl
  have hzm : ZR ≤ m1 := HZM.out
  have hm1' : m1 ≤ 4100000 := by rw [HM1.out]; exact HPL.out.2.2.2.1
  go_wp2_with (with_reducible refine stop_append rfl ?_)
  refine app8 (v := .slice none 0 0) (xs := []) (ys := D.take ZR) w w.heap.size rfl _ _ rfl rfl rfl (Kd.R_nil _ _ _ _ _) HCZ.out HB5.out HB5.out.size (by rw [List.length_nil]; omega) ?_
  intro v6 w6 ho hb hg hat
  rw [List.nil_append] at ho
  have HO6 := Aside0.mk ho
  have HB6 := Aside0.mk hb
  have HP6 := Aside0.mk (R8_keep HO5.out (fun k hk => hg.block k (R8_lt HO5.out k hk).2 (by simp [Value.ownBlock])))
  have HNE6 := Aside0.mk (show ∀ j, (Value.slice A4 mb c4).ownBlock = some j → v6.ownBlock ≠ some j from apart_grown (u := .slice none 0 0) (fun j hj => (R8_lt HO5.out j hj).2) (fun j hj e => by simp [Value.ownBlock] at e) hat)
  clear ho hb hg hat hzm
  go_upto_region 10 with (fail)
  go_cut [59] (fun v59 wc => v59 = .bool (decide (NR = 0) || decide (K = 0)) ∧ w6 = wc)
  case first =>
    by_cases h0 : NR = 0
    · have e0 : ((NR : Int) == 0) = true := beq_iff_eq.2 (by omega)
      have e1 : decide (NR = 0) = true := decide_eq_true h0
      have HF := Aside0.mk e1
      go_wp2; go_meet
      case rel => exact ⟨by rw [HF.out]; rfl, rfl⟩
    · have e0 : ((NR : Int) == 0) = false := beq_eq_false_iff_ne.2 (by omega)
      have e1 : decide (NR = 0) = false := decide_eq_false h0
      have HF := Aside0.mk e1
      have HG := Aside0.mk (show ((K : Int) == 0) = decide (K = 0) by
        by_cases h : K = 0
        · rw [decide_eq_true h, beq_iff_eq.2 (by omega)]
        · rw [decide_eq_false h, beq_eq_false_iff_ne.2 (by omega)])
      go_wp2; go_meet
      case rel => exact ⟨by rw [HF.out]; first | rfl | (rw [← HG.out]; rfl), rfl⟩
  obtain ⟨rfl, rfl⟩ := hcut
  by_cases hz : NR = 0 ∨ K = 0
  · have hb : (decide (NR = 0) || decide (K = 0)) = true := by
      rcases hz with h | h
      · rw [decide_eq_true h]; rfl
      · rw [decide_eq_true h, Bool.or_true]
    rw [hb]
    clear hz hb
    go_wp2_with fail
    refine (known_C w6).mono ?_
    rintro e w9 ⟨rfl, hb⟩
    have HB9 := Aside0.mk (below_step HB6.out hb)
    clear hb
    go_wp2; go_ret
    exact ⟨rfl, HB9.out⟩
  have hb : (decide (NR = 0) || decide (K = 0)) = false := by
    rw [decide_eq_false (fun h => hz (.inl h)), decide_eq_false (fun h => hz (.inr h))]
    rfl
  rw [hb]
  have HST := Aside0.mk (goes_start HPL.out.1 HPL.out.2.2.2.1 HPL.out.2.2.2.2.1 HRR.out (by omega) (by have := HKK.out; omega))
  clear hz hb
  obtain ⟨L1, hL1⟩ : ∃ L1, L1 = YS.take NR := ⟨_, rfl⟩
  obtain ⟨L2, hL2⟩ : ∃ L2, L2 = SR.recs := ⟨_, rfl⟩
  have HGO := Aside0.mk (show Goes L1 L2 SR by rw [hL1, hL2]; exact HST.out.1)
  have HN1 := Aside0.mk (show NR = L1.length by rw [hL1]; exact HST.out.2.2.symm)
  have HN2 := Aside0.mk (show K = L2.length by rw [hL2]; exact HKK.out)
  have HE1 := Aside0.mk (show D.take ZR = encAll 0 L1 by rw [hL1]; exact HST.out.2.1)
  have HE3 := Aside0.mk (show B = encAll 0 L2 by rw [hL2]; exact Enc_eq _ _ _ HE2.out)
  clear hL1 hL2
  have hk' : K ≤ 3006 := HKL.out.2
  have hn' : NR ≤ 3000 := HNR.out
  have HM' := Aside0.mk (Kd.C_max HC'.out)
  go_wp2
  go_loopw [8, 10, 11, 13, 14] (fun v8 v10 v11 v13 v14 wr => ∃ (i : Nat) (L1 L2 : List JR) (S : SV), i ≤ 30 ∧ i ≤ n' ∧ v14 = .int .i64 (i : Int) ∧ v8 = .int .i64 (L1.length : Int) ∧ v11 = .int .i64 (L2.length : Int) ∧ Aside0 (R8 wr w.heap.size v13 (encAll 0 L1)) ∧ Aside0 (R8 wr w.heap.size v10 (encAll 0 L2)) ∧ Aside0 (∀ j, v10.ownBlock = some j → v13.ownBlock ≠ some j) ∧ Aside0 (Below w.heap.size w wr) ∧ Aside0 (Goes L1 L2 S) ∧ Aside0 (L1.length ≤ 3000 + i ∧ L2.length ≤ 3006 + i ∧ S.es.length ≤ 3000 + i ∧ (encAll 0 L1).length ≤ 4100000 + 4000000 * i ∧ (encAll 0 L2).length ≤ 28100000 + 4000000 * i) ∧ Aside0 (∀ e ∈ S.es, e.f5.length ≤ 2513169434843)) (fun _ _ _ _ v14 _ => 30 - (intOf v14).toNat)
  case atStart =>
    refine ⟨0, L1, L2, SR, by omega, Nat.zero_le _, rfl, by rw [← HN1.out], by rw [← HN2.out], ⟨by rw [← HE1.out]; exact HO6.out⟩, ⟨by rw [← HE3.out]; exact HP6.out⟩, HNE6, HB6, HGO, ⟨?_⟩, HSO⟩
    have h1 := HNR.out
    have h2 := HKL.out.2
    have h3 := HSH.out.2.1
    have h4 := HBL.out
    have h5 := HPL.out.2.2.2.1
    rw [← HN1.out, ← HN2.out, ← HE1.out, ← HE3.out, List.length_take]
    omega
  case round =>
    obtain ⟨i, L1, L2, S, hi30, hin, rfl, rfl, rfl, HOa, HOb, HNE, HB, HGo, HSZ, HOPS⟩ := hrel
    obtain ⟨Aa, na, ca, rfl, hna, hca⟩ := R8_form HOa.out
    obtain ⟨Ab, nb, cb, rfl, hnb, hcb⟩ := R8_form HOb.out
    have HNa := Aside0.mk hna
    have HNb := Aside0.mk hnb
    have HCa := Aside0.mk hca
    have HCb := Aside0.mk hcb
    obtain ⟨p, hp⟩ : ∃ p, p = L1.length := ⟨_, rfl⟩
    obtain ⟨r, hr⟩ : ∃ r, r = L2.length := ⟨_, rfl⟩
    rw [← hp, ← hr]
    have HP := Aside0.mk hp
    have HR := Aside0.mk hr
    have hpl : p ≤ 3030 := by have := HSZ.out.1; omega
    have hrl : r ≤ 3036 := by have := HSZ.out.2.1; omega
    clear hna hnb hca hcb hp hr
    have HPS := Aside0.mk (wr_succ (m := p) (by omega))
    have HRS := Aside0.mk (wr_succ (m := r) (by omega))
    by_cases hlt : i < n'
    · have hd1 : decide ((i : Int) < (n' : Int)) = true := decide_eq_true (by omega)
      have hd2 : decide (i < n') = true := decide_eq_true hlt
      by_cases h30 : i < 30
      · have hd3 : decide ((i : Int) < 30) = true := decide_eq_true (by omega)
        have hd4 : decide (i < 30) = true := decide_eq_true h30
        have i1 : (i < n') = True := eq_true hlt
        have i2 : ((i : Int) < (n' : Int)) = True := eq_true (by omega)
        have HLT := Aside0.mk (And.intro hlt h30)
        obtain ⟨ad, Ao, co, rfl, f0, f1, f2, f3, f4, f5, f6, f7, f8, f9, f10, f11, f12, hlc, hCo⟩ := at_J HC'.out (i : Int) (by omega) (by omega)
        have HYO := Aside0.mk (show (rd_J l' (i : Int)).ops.length ≤ 2513169434843 from HOP'.out _ (by
          unfold rd_J
          rw [Int.toNat_natCast, List.getD_eq_getElem?_getD, List.getElem?_eq_getElem (by rw [HN'.out]; exact hlt)]
          exact List.getElem_mem _))
        obtain ⟨y, hy⟩ : ∃ y, rd_J l' (i : Int) = y := ⟨_, rfl⟩
        rw [hy, Int.toNat_natCast] at f0 f1 f2 f3 f4 f5 f6 f7 f8 f9 f10 f11 f12
        rw [hy] at hlc hCo HYO
        obtain ⟨m6, hm6⟩ : ∃ m6, m6 = y.ops.length := ⟨_, rfl⟩
        rw [← hm6] at f6 hlc hCo
        replace f0 := pw_cell_below HB.out f0
        replace f1 := pw_cell_below HB.out f1
        replace f2 := pw_cell_below HB.out f2
        replace f3 := pw_cell_below HB.out f3
        replace f4 := pw_cell_below HB.out f4
        replace f5 := pw_cell_below HB.out f5
        replace f6 := pw_cell_below HB.out f6
        replace f7 := pw_cell_below HB.out f7
        replace f8 := pw_cell_below HB.out f8
        replace f9 := pw_cell_below HB.out f9
        replace f10 := pw_cell_below HB.out f10
        replace f11 := pw_cell_below HB.out f11
        replace f12 := pw_cell_below HB.out f12
        have HCO := Aside0.mk (Kd.C_below hCo HB.out)
        have HLC := Aside0.mk hlc
        have HM6 := Aside0.mk hm6
        have HF := Aside0.mk (And.intro f0 (And.intro f1 (And.intro f2 (And.intro f3 (And.intro f4 (And.intro f5 (And.intro f6 (And.intro f7 (And.intro f8 (And.intro f9 (And.intro f10 (And.intro f11 f12))))))))))))
        have hps := HPS.out
        clear hCo hlc hm6 hy hlt h30
        go_wp2_with fail
        obtain ⟨x1, hx1⟩ : ∃ x, x = y.enc ((p : Int) + 1) := ⟨_, rfl⟩
        obtain ⟨x2, hx2⟩ : ∃ x, x = y.enc ((r : Int) + 1) := ⟨_, rfl⟩
        have HX1 := Aside0.mk hx1
        have HX2 := Aside0.mk hx2
        have HXC := Aside0.mk (show x1.2 = x2.2 by rw [hx1, hx2]; exact enc_code y (by omega) (by omega) (by omega) (by omega))
        clear hx1 hx2
        refine (encode_C ((p : Int) + 1) y.kd y.s y.v y.k y.se y.rq Ao co m6 y.ops y.vn y.vp y.vb y.st y.of y.x wr HM6.out.symm HCO.out HLC.out x1.1 x1.2 (by rw [HX1.out])).mono ?_
        rintro e1 w7 ⟨V7, rfl, hv, hb⟩
        have HV7 := Aside0.mk hv
        have HB7 := Aside0.mk hb
        clear hv hb f0 f1 f2 f3 f4 f5 f6 f7 f8 f9 f10 f11 f12 hps
        obtain ⟨f0, f1, f2, f3, f4, f5, f6, f7, f8, f9, f10, f11, f12⟩ := HF.out
        replace f0 := pw_cell_below HB7.out f0
        replace f1 := pw_cell_below HB7.out f1
        replace f2 := pw_cell_below HB7.out f2
        replace f3 := pw_cell_below HB7.out f3
        replace f4 := pw_cell_below HB7.out f4
        replace f5 := pw_cell_below HB7.out f5
        replace f6 := pw_cell_below HB7.out f6
        replace f7 := pw_cell_below HB7.out f7
        replace f8 := pw_cell_below HB7.out f8
        replace f9 := pw_cell_below HB7.out f9
        replace f10 := pw_cell_below HB7.out f10
        replace f11 := pw_cell_below HB7.out f11
        replace f12 := pw_cell_below HB7.out f12
        have hrs := HRS.out
        go_wp2_with fail
        refine (encode_C ((r : Int) + 1) y.kd y.s y.v y.k y.se y.rq Ao co m6 y.ops y.vn y.vp y.vb y.st y.of y.x w7 HM6.out.symm (Kd.C_below HCO.out HB7.out) HLC.out x2.1 x2.2 (by rw [HX2.out])).mono ?_
        rintro e1 w8 ⟨V8, rfl, hv, hb⟩
        have HV8 := Aside0.mk hv
        have HV78 := Aside0.mk (Kd.R_below HV7.out hb)
        have HB8 := Aside0.mk (below_step HB7.out hb)
        clear hv hb f0 f1 f2 f3 f4 f5 f6 f7 f8 f9 f10 f11 f12 hrs
        go_wp2_with fail
        refine (num_N x1.2 w8).mono ?_
        rintro e w9 ⟨rfl, hd⟩
        have HB9 := Aside0.mk (below_step HB8.out hd.below)
        have HV79 := Aside0.mk (Kd.R_below HV78.out hd.below)
        have HV89 := Aside0.mk (Kd.R_below HV8.out hd.below)
        clear hd
        go_wp2_with fail
        refine (num_N x2.2 w9).mono ?_
        rintro e w10 ⟨rfl, hd⟩
        have HB10 := Aside0.mk (below_step HB9.out hd.below)
        have HVa := Aside0.mk (Kd.R_below HV79.out hd.below)
        have HVb := Aside0.mk (Kd.R_below HV89.out hd.below)
        clear hd
        obtain ⟨cd, hcd⟩ : ∃ cd, cd = x1.2 := ⟨_, rfl⟩
        have HCD := Aside0.mk hcd
        rw [← HXC.out, ← hcd]
        clear hcd
        have c1 : (cd == cd) = true := by simp
        have c2 : (cd != cd) = false := by simp
        go_wp2_with fail
        refine (num_N cd w10).mono ?_
        rintro e w11 ⟨rfl, hd⟩
        have HB11 := Aside0.mk (below_step HB10.out hd.below)
        have HWa := Aside0.mk (Kd.R_below HVa.out hd.below)
        have HWb := Aside0.mk (Kd.R_below HVb.out hd.below)
        clear hd c1 c2
        have HOa1 := Aside0.mk (Kd.R_below HOa.out HB11.out)
        have HOb1 := Aside0.mk (Kd.R_below HOb.out HB11.out)
        have HBw := Aside0.mk (below_step HB.out HB11.out)
        by_cases h0 : cd = 0
        · have q1 : (cd == 0) = true := beq_iff_eq.2 h0
          have q2 : (cd != 0) = false := bne_eq_false_iff_eq.2 h0
          have HY := Aside0.mk (show y.Fine from enc_zero (sq := (p : Int) + 1) (by rw [← HX1.out, ← HCD.out]; exact h0))
          clear h0
          obtain ⟨S', dl, z1, z2, hrc1, hrc2, hcase, hel, heo⟩ : ∃ (S' : SV) (dl z1 z2 : Nat), (S', p + dl, z1) = rcGo (L1 ++ [y]) 0 SV.zero 0 ∧ (S', r + dl, z2) = rcGo (L2 ++ [y]) 0 SV.zero 0 ∧ ((dl = 1 ∧ Goes (L1 ++ [y]) (L2 ++ [y]) S') ∨ dl = 0) ∧ S'.es.length ≤ S.es.length + 1 ∧ (∀ e ∈ S'.es, e.f5.length ≤ 2513169434843) := by
            rcases HGo.out.rc y with ⟨h1, h2, h3⟩ | ⟨h1, h2, h3⟩
            · exact ⟨S.says y, 1, _, _, by rw [h2, HP.out], by rw [h3, HR.out], .inl ⟨rfl, HGo.out.next HY.out h1⟩, says_len S y, says_all (fun e => e.f5.length ≤ 2513169434843) HOPS.out HYO.out⟩
            · exact ⟨S, 0, _, _, by rw [h2, HP.out]; rfl, by rw [h3, HR.out]; rfl, .inr rfl, Nat.le_succ _, HOPS.out⟩
          have HRC1 := Aside0.mk hrc1
          have HRC2 := Aside0.mk hrc2
          have HCS := Aside0.mk hcase
          have HEL := Aside0.mk (show S'.es.length ≤ 3031 by have := HSZ.out.2.2.1; have := HLT.out.2; omega)
          have HEM := Aside0.mk hel
          have HEO := Aside0.mk heo
          clear hrc1 hrc2 hcase hel heo
          have HE1 := Aside0.mk (show encAll 0 (L1 ++ [y]) = encAll 0 L1 ++ x1.1 by rw [encAll_snoc0 L1 y HP.out.symm, HX1.out])
          have HE2 := Aside0.mk (show encAll 0 (L2 ++ [y]) = encAll 0 L2 ++ x2.1 by rw [encAll_snoc0 L2 y HR.out.symm, HX2.out])
          have HXL := Aside0.mk (show x1.1.length ≤ 4000000 ∧ x2.1.length ≤ 4000000 by rw [HX1.out, HX2.out]; exact ⟨enc_len y _, enc_len y _⟩)
          have HFN := Aside0.mk (show Enc 0 (L1 ++ [y]) (encAll 0 (L1 ++ [y])) ∧ Enc 0 (L2 ++ [y]) (encAll 0 (L2 ++ [y])) by
            refine ⟨Enc_all _ 0 (fun x hx => ?_) ?_, Enc_all _ 0 (fun x hx => ?_) ?_⟩
            · rcases List.mem_append.1 hx with hx | hx
              · exact HGo.out.g1 x hx
              · rw [List.mem_singleton.1 hx]; exact HY.out
            · rw [List.length_append, ← HP.out]; simp only [List.length_cons, List.length_nil]; omega
            · rcases List.mem_append.1 hx with hx | hx
              · exact HGo.out.g2 x hx
              · rw [List.mem_singleton.1 hx]; exact HY.out
            · rw [List.length_append, ← HR.out]; simp only [List.length_cons, List.length_nil]; omega)
          obtain ⟨A7, n7, c7, rfl, h7n, h7c⟩ := R8_form HWa.out
          obtain ⟨A8, n8, c8, rfl, h8n, h8c⟩ := R8_form HWb.out
          have HC7 := Aside0.mk (R8_C HWa.out)
          have H7N := Aside0.mk h7n
          have H8N := Aside0.mk h8n
          have HNE8 := Aside0.mk (show ∀ j, (Value.slice A8 n8 c8).ownBlock = some j → (Value.slice Aa na ca).ownBlock ≠ some j from fun j hj e => by
            have h1 := (R8_lt HWb.out j hj).1
            have h2 := (R8_lt HOa.out j e).2
            have h3 := HB7.out.size
            omega)
          have HNEa := Aside0.mk (show ∀ j, (Value.slice Ab nb cb).ownBlock = some j → (Value.slice Aa na ca).ownBlock ≠ some j from HNE.out)
          clear h7n h8n h7c h8c
          have hps := HPS.out
          have hrs := HRS.out
          go_wp2_with (with_reducible refine stop_append rfl ?_)
          refine app8 (v := .slice Aa na ca) (xs := encAll 0 L1) (ys := x1.1) w w.heap.size rfl _ _ rfl rfl rfl HOa1.out HC7.out HBw.out HBw.out.size (sz_c HSZ.out.2.2.2.1 HLT.out.2 (by rw [← H7N.out]; exact HXL.out.1)) ?_
          intro v12 w12 ho hb hg hat
          rw [← HE1.out] at ho
          have HOa2 := Aside0.mk ho
          have HB12 := Aside0.mk hb
          have HOb2 := Aside0.mk (R8_apart HOb1.out HNEa.out hg)
          have HX22 := Aside0.mk (R8_apart HWb.out HNE8.out hg)
          have HNE2 := Aside0.mk (apart_grown (fun j hj => (R8_lt HOb1.out j hj).2) HNEa.out hat)
          obtain ⟨A12, n12, c12, rfl, h12n, h12c⟩ := R8_form ho
          have H12N := Aside0.mk h12n
          have H12C := Aside0.mk h12c
          have HC8 := Aside0.mk (R8_C HX22.out)
          clear ho hb hg hat h12n h12c
          go_wp2_with (with_reducible refine stop_append rfl ?_)
          refine app8 (v := .slice Ab nb cb) (xs := encAll 0 L2) (ys := x2.1) w w.heap.size rfl _ _ rfl rfl rfl HOb2.out HC8.out HB12.out HB12.out.size (sz_d HSZ.out.2.2.2.2 HLT.out.2 (by rw [← H8N.out]; exact HXL.out.2)) ?_
          intro v13 w13 ho hb hg hat
          rw [← HE2.out] at ho
          have HOb3 := Aside0.mk ho
          have HB13 := Aside0.mk hb
          have HOa3 := Aside0.mk (R8_apart HOa2.out (fun j hj e => HNE2.out j e hj) hg)
          have HNE3 := Aside0.mk (show ∀ j, v13.ownBlock = some j → (Value.slice A12 n12 c12).ownBlock ≠ some j from fun j hj e => apart_grown (u := .slice Ab nb cb) (fun j hj => (R8_lt HOa2.out j hj).2) (fun j hj e => HNE2.out j e hj) hat j e hj)
          obtain ⟨A13, n13, c13, rfl, h13n, h13c⟩ := R8_form ho
          have H13N := Aside0.mk h13n
          have H13C := Aside0.mk h13c
          have HSA := Aside0.mk (show n12 ≤ 4100000 + 4000000 * (i + 1) ∧ n13 ≤ 28100000 + 4000000 * (i + 1) from sz_e (by rw [← HE1.out]; exact H12N.out) (by rw [← HE2.out]; exact h13n) HSZ.out.2.2.2.1 HSZ.out.2.2.2.2 HXL.out.1 HXL.out.2)
          clear ho hb hg hat h13n h13c
          go_wp2_with fail
          refine (recover_enc w13 A12 n12 c12 (encAll 0 (L1 ++ [y])) (L1 ++ [y]) HFN.out.1 H12N.out H12C.out (sz_a HSA.out.1 HLT.out.2) (sz_l HP.out (by clear hps hrs; omega)) (R8_C HOa3.out) (S', p + dl, z1) HRC1.out).mono ?_
          rintro e w14 ⟨E4, n4, c4', rfl, hn4, hr4, hb⟩
          simp only at hn4 hr4
          have HB14 := Aside0.mk hb
          have HN4 := Aside0.mk hn4
          have HR4 := Aside0.mk (C24_R hr4)
          clear hb hn4 hr4
          go_upto_region 25 with (fail)
          obtain ⟨w15, hw15⟩ : ∃ w15, w15 = w14.alloc (.cells (S'.cells E4 n4 c4') 53) := ⟨_, rfl⟩
          obtain ⟨g5, hg5⟩ : ∃ g5, g5 = w14.heap.size := ⟨_, rfl⟩
          rw [← hw15, ← hg5]
          have HA5 := Aside0.mk (show Below w14.heap.size w14 w15 by rw [hw15]; exact below_alloc (Below.refl _ _) _)
          have HG5 := Aside0.mk (show w15.heap[g5]? = some (.cells (S'.cells E4 n4 c4') 53 (0, 0)) by rw [hw15, hg5]; exact heap_alloc_new w14 _)
          have HB15 := Aside0.mk (below_step HB14.out HA5.out)
          have HR5 := Aside0.mk (Kd.C_below HR4.out HA5.out)
          clear hw15 hg5
          go_wp2_with fail
          refine (recover_enc w15 A13 n13 c13 (encAll 0 (L2 ++ [y])) (L2 ++ [y]) HFN.out.2 H13N.out H13C.out (sz_b HSA.out.2 HLT.out.2) (sz_l HR.out (by clear hps hrs; omega)) (Kd.C_below (R8_C HOb3.out) HB15.out) (S', r + dl, z2) HRC2.out).mono ?_
          rintro e w16 ⟨E6, n6, c6, rfl, hn6, hr6, hb⟩
          simp only at hn6 hr6
          obtain rfl : n6 = n4 := hn6.symm.trans HN4.out
          have HB16 := Aside0.mk (below_step HB15.out hb)
          have HR6 := Aside0.mk (C24_R hr6)
          have HR56 := Aside0.mk (Kd.C_below HR5.out hb)
          have HG56 := Aside0.mk ((hb.block g5 (blk_lt HG5.out)).trans HG5.out)
          clear hb hn6 hr6
          go_upto_region 26 with (fail)
          obtain ⟨w17, hw17⟩ : ∃ w17, w17 = w16.alloc (.cells (S'.cells E6 n6 c6) 53) := ⟨_, rfl⟩
          obtain ⟨g7, hg7⟩ : ∃ g7, g7 = w16.heap.size := ⟨_, rfl⟩
          rw [← hw17, ← hg7]
          have HA7 := Aside0.mk (show Below w16.heap.size w16 w17 by rw [hw17]; exact below_alloc (Below.refl _ _) _)
          have HG7 := Aside0.mk (show w17.heap[g7]? = some (.cells (S'.cells E6 n6 c6) 53 (0, 0)) by rw [hw17, hg7]; exact heap_alloc_new w16 _)
          have HB17 := Aside0.mk (below_step HB16.out HA7.out)
          have HR57 := Aside0.mk (Kd.C_below HR56.out HA7.out)
          have HR67 := Aside0.mk (Kd.C_below HR6.out HA7.out)
          have HG57 := Aside0.mk ((HA7.out.block g5 (blk_lt HG56.out)).trans HG56.out)
          clear hw17 hg7
          have a0 := (blk_cell HG57.out 0).trans rfl
          have b0 := (blk_cell HG7.out 0).trans rfl
          have a1 := (blk_cell HG57.out 1).trans rfl
          have b1 := (blk_cell HG7.out 1).trans rfl
          have a2 := (blk_cell HG57.out 2).trans rfl
          have b2 := (blk_cell HG7.out 2).trans rfl
          have a3 := (blk_cell HG57.out 3).trans rfl
          have b3 := (blk_cell HG7.out 3).trans rfl
          have a4 := (blk_cell HG57.out 4).trans rfl
          have b4 := (blk_cell HG7.out 4).trans rfl
          have a5 := (blk_cell HG57.out 5).trans rfl
          have b5 := (blk_cell HG7.out 5).trans rfl
          have a6 := (blk_cell HG57.out 6).trans rfl
          have b6 := (blk_cell HG7.out 6).trans rfl
          have a7 := (blk_cell HG57.out 7).trans rfl
          have b7 := (blk_cell HG7.out 7).trans rfl
          have a8 := (blk_cell HG57.out 8).trans rfl
          have b8 := (blk_cell HG7.out 8).trans rfl
          go_wp2_with fail
          refine (saved_N S' E4 E6 n6 c4' c6 w17 HN4.out (by have h1 := HN4.out; have h2 := HEL.out; clear hps hrs; omega) HR57.out HR67.out HEO.out).mono ?_
          rintro e w18 ⟨rfl, hb⟩
          have HB18 := Aside0.mk (below_step HB17.out hb)
          have HOa4 := Aside0.mk (Kd.R_below HOa3.out HB18.out)
          have HOb4 := Aside0.mk (Kd.R_below HOb3.out HB18.out)
          have HBz := Aside0.mk (below_step HB13.out HB18.out)
          clear hb hps hrs a0 b0 a1 b1 a2 b2 a3 b3 a4 b4 a5 b5 a6 b6 a7 b7 a8 b8
          rcases HCS.out with ⟨hdl, hgo⟩ | hdl
          · subst hdl
            have HGG := Aside0.mk hgo
            clear hgo
            have b1 : (((p + 1 : Nat) : Int) == (p : Int) + 1) = true := beq_iff_eq.2 (by omega)
            have b2 : (((r + 1 : Nat) : Int) == (r : Int) + 1) = true := beq_iff_eq.2 (by omega)
            have b3 : (((p + 1 : Nat) : Int) != (p : Int) + 1) = false := bne_eq_false_iff_eq.2 (by omega)
            go_wp2
            have h8 := wr_succ (m := i) (by have := HLT.out; omega)
            go_roundw
            case rel =>
              refine ⟨i + 1, L1 ++ [y], L2 ++ [y], S', HLT.out.2, HLT.out.1, by first | rfl | (rw [h8]; rfl), by rw [List.length_append, ← HP.out]; rfl, by rw [List.length_append, ← HR.out]; rfl, HOa4, HOb4, HNE3, HBz, HGG, ⟨?_⟩, HEO⟩
              have h5 := sz_f (y := y) HSZ.out.1 HSZ.out.2.1 HSZ.out.2.2.1 HEM.out
              exact ⟨h5.1, h5.2.1, h5.2.2, by rw [H12N.out]; exact HSA.out.1, by rw [H13N.out]; exact HSA.out.2⟩
            case measure =>
              have h9 := HLT.out.2
              first
                | (show 30 - ((i : Int) + 1).toNat < 30 - (i : Int).toNat; omega)
                | (show 30 - (intOf (.int .i64 (wrap64 ((i : Int) + 1)))).toNat < 30 - (intOf (.int .i64 (i : Int))).toNat
                   rw [h8]
                   show 30 - ((i : Int) + 1).toNat < 30 - (i : Int).toNat
                   omega)
          · subst hdl
            have b1 : ((p : Int) == (p : Int) + 1) = false := beq_eq_false_iff_ne.2 (by omega)
            have b2 : ((r : Int) == (r : Int) + 1) = false := beq_eq_false_iff_ne.2 (by omega)
            have b3 : ((p : Int) != (p : Int) + 1) = true := bne_iff_ne.2 (by omega)
            go_wp2_with fail
            refine (known_C w18).mono ?_
            rintro e wk ⟨rfl, hb⟩
            have HBk := Aside0.mk (below_step HBz.out hb)
            clear hb
            go_wp2; go_ret
            exact ⟨rfl, HBk.out⟩
        · have q1 : (cd == 0) = false := beq_eq_false_iff_ne.2 h0
          have q2 : (cd != 0) = true := bne_iff_ne.2 h0
          clear h0
          go_wp2
          have h8 := wr_succ (m := i) (by have := HLT.out; omega)
          go_roundw
          case rel =>
            refine ⟨i + 1, L1, L2, S, HLT.out.2, HLT.out.1, by first | rfl | (rw [h8]; rfl), by rw [← HP.out], by rw [← HR.out], HOa1, HOb1, HNE, HBw, HGo, ⟨?_⟩, HOPS⟩
            have := HSZ.out
            omega
          case measure =>
            have h9 := HLT.out.2
            first
              | (show 30 - ((i : Int) + 1).toNat < 30 - (i : Int).toNat; omega)
              | (show 30 - (intOf (.int .i64 (wrap64 ((i : Int) + 1)))).toNat < 30 - (intOf (.int .i64 (i : Int))).toNat
                 rw [h8]
                 show 30 - ((i : Int) + 1).toNat < 30 - (i : Int).toNat
                 omega)
      · have hd3 : decide ((i : Int) < 30) = false := decide_eq_false (by omega)
        have hd4 : decide (i < 30) = false := decide_eq_false h30
        clear hlt h30
        go_wp2_with fail
        refine (known_C wr).mono ?_
        rintro e wk ⟨rfl, hb⟩
        have HBk := Aside0.mk (below_step HB.out hb)
        clear hb
        go_wp2; go_ret
        exact ⟨rfl, HBk.out⟩
    · have hd1 : decide ((i : Int) < (n' : Int)) = false := decide_eq_false (by omega)
      have hd2 : decide (i < n') = false := decide_eq_false hlt
      clear hlt
      go_wp2_with fail
      refine (known_C wr).mono ?_
      rintro e wk ⟨rfl, hb⟩
      have HBk := Aside0.mk (below_step HB.out hb)
      clear hb
      go_wp2; go_ret
      exact ⟨rfl, HBk.out⟩
end Go.Proofs.Ytdbniihjkiecbaa.PW
namespace Go.Proofs.Ytdbniihjkiecbaa.PW
open Go.ChangeShapes Go.WideShapes Go.ChangeAt Go.RowKit Go.Deep
open Go.Proofs.YtdbniihjkiecbaaW.PrintWords Go.Proofs.YtdbniihjkiecbaaW.PrintLast Go.Proofs.YtdbniihjkiecbaaW.PrintMore
set_option linter.unusedVariables false
set_option linter.unusedSimpArgs false

/-- No list in it is heavier than the form's own reach. -/
def Wt {H : Type} (t : TypeId) (d : DataW H) : Prop := ∀ n ∈ d.weights Try.prog t, n ≤ reachBytes
theorem mem_weightsAll {H : Type} {P : Program} {e : TypeId} {d : DataW H} {n : Nat} : ∀ {l : List (DataW H)}, d ∈ l → n ∈ d.weights P e → n ∈ DataW.weightsAll P e l
  | x :: r, hd, hn => by
    simp only [DataW.weightsAll, List.mem_append]
    rcases List.mem_cons.1 hd with rfl | hd
    · exact .inl hn
    · exact .inr (mem_weightsAll hd hn)
theorem c3 : Try.prog.cellsOf 3 = 1 := by kernel_rfl
theorem c9 : Try.prog.cellsOf 9 = 1 := by kernel_rfl
theorem c22 : Try.prog.cellsOf 22 = 1 := by kernel_rfl
theorem c40 : Try.prog.cellsOf 40 = 5 := by kernel_rfl
theorem c24 : Try.prog.cellsOf 24 = 6 := by kernel_rfl
theorem c26 : Try.prog.cellsOf 26 = 3 := by kernel_rfl
theorem c28 : Try.prog.cellsOf 28 = 13 := by kernel_rfl
theorem bytes40 : Try.prog.bytesOf 40 = 56 := by kernel_rfl
instance : Inhabited S40 := ⟨⟨0, ⟨#[]⟩, ⟨#[]⟩, 0, 0⟩⟩
section
variable {H : Type} {enc : TypeId × Value → H} {W : World}
theorem row_of {α : Type} [Inhabited α] {d : Kd α} {t e : TypeId} (ht : Try.prog.underlying t = some (.slice e)) (hc : Try.prog.cellsOf e = d.sz) (good : α → Prop)
    (hopen : ∀ (n : Nat) (cs : List Value) (x : DataW H × List MemPlace), DataW.trod enc Try.prog W 0 (fun _ => true) true n e cs = some x → Wt e x.1 → ∃ y, d.K W y cs ∧ good y)
    {n : Nat} {cs : List Value} {x : DataW H × List MemPlace} (h : DataW.trod enc Try.prog W 0 (fun _ => true) true n t cs = some x) (hw : Wt t x.1) :
    ∃ A c len, ∃ l : List α, cs = [.slice A len c] ∧ l.length = len ∧ len ≤ c ∧ Kd.C d W A len l ∧ (∀ y ∈ l, good y) ∧ len * Try.prog.bytesOf e ≤ reachBytes := by
  rcases open_slice ht h with ⟨rfl, rfl⟩ | ⟨a, len, cap, m, k, D, Pl, rfl, hb, hl, hm, hmm, rfl, hx⟩
  · exact ⟨none, 0, 0, [], rfl, rfl, Nat.le_refl _, ⟨rfl, by omega, fun h => absurd h (by omega)⟩, fun y hy => by simp at hy, by simp⟩
  · have hmm' : m = cap := by simpa using hmm
    have hel : ∀ i, i < len → Wt e (D i) := by
      intro i hi q hq
      refine hw q ?_
      simp only [DataW.weights, ht, List.mem_cons, List.mem_append]
      exact .inr (.inl (mem_weightsAll (List.mem_map.2 ⟨i, List.mem_range.2 hi, rfl⟩) hq))
    have each : ∀ i, i < len → ∃ y : α, ∃ cs', W.cells? 0 (a.add (i * d.sz)) d.sz = some cs' ∧ d.K W y cs' ∧ good y := by
      intro i hi
      obtain ⟨cs', h1, h2⟩ := hx i (by omega)
      rw [hc] at h1
      obtain ⟨y, h3, h4⟩ := hopen _ _ _ h2 (hel i hi)
      exact ⟨y, cs', h1, h3, h4⟩
    obtain ⟨g, hg⟩ := choose_lt each
    have hlen : ((List.range len).map g).length = len := by simp
    have hmax : maxLen = 9223372036854775807 := rfl
    refine ⟨some a, cap, len, (List.range len).map g, rfl, hlen, hl, ⟨hlen, by omega, fun _ => ⟨a, rfl, fun j p hj => ?_⟩⟩, fun y hy => ?_, ?_⟩
    · rw [List.getElem?_map] at hj
      obtain ⟨j', hj', rfl⟩ := Option.map_eq_some_iff.1 hj
      obtain ⟨hjl, he⟩ := List.getElem?_eq_some_iff.1 hj'
      rw [List.getElem_range] at he
      subst he
      rw [List.length_range] at hjl
      obtain ⟨cs', h1, h2, h3⟩ := hg j hjl
      obtain ⟨_, hlc, hcell⟩ := World.cells?_some h1
      refine ⟨cs', hlc, h2, fun i u hu => ?_⟩
      have hi : i < cs'.length := (List.getElem?_eq_some_iff.1 hu).1
      rw [← Go.Deep.add_add, hcell i (by omega)]
      exact hu
    · obtain ⟨r, hr, rfl⟩ := List.mem_map.1 hy
      obtain ⟨cs', h1, h2, h3⟩ := hg r (List.mem_range.1 hr)
      exact h3
    · have h0 := hw ((((List.range len).map D).length + ((List.range (m - len)).map fun j => D (len + j)).length) * Try.prog.bytesOf e) (by simp only [DataW.weights, ht, List.mem_cons]; exact .inl trivial)
      refine Nat.le_trans (Nat.mul_le_mul_right _ ?_) h0
      rw [List.length_map, List.length_range]
      omega
set_option maxRecDepth 100000 in
theorem open40 (n : Nat) (cs : List Value) (x : DataW H × List MemPlace) (h : DataW.trod enc Try.prog W 0 (fun _ => true) true n 40 cs = some x) : ∃ y : S40, k40.K W y cs := by
  obtain ⟨xs, m, _, rfl, hl, hxl, hf⟩ := DataW.trod_struct Try.underlying40 h
  rw [c40] at hl
  match cs, hl, xs, hxl with
  | [v0, v1, v2, v3, v4], _, [x0, x1, x2, x3, x4], _ =>
    have e0 : DataW.trod enc Try.prog W 0 (fun _ => true) true m 3 [v0] = some x0 := by simpa [c3] using hf 0 _ rfl
    have e1 : DataW.trod enc Try.prog W 0 (fun _ => true) true m 9 [v1] = some x1 := by simpa [c9] using hf 1 _ rfl
    have e2 : DataW.trod enc Try.prog W 0 (fun _ => true) true m 9 [v2] = some x2 := by simpa [c9] using hf 2 _ rfl
    have e3 : DataW.trod enc Try.prog W 0 (fun _ => true) true m 3 [v3] = some x3 := by simpa [c3] using hf 3 _ rfl
    have e4 : DataW.trod enc Try.prog W 0 (fun _ => true) true m 3 [v4] = some x4 := by simpa [c3] using hf 4 _ rfl
    obtain ⟨a0, h0, _⟩ := DataW.trod_int Try.underlying3 e0
    obtain ⟨a1, h1, _⟩ := DataW.trod_string Try.underlying9 e1
    obtain ⟨a2, h2, _⟩ := DataW.trod_string Try.underlying9 e2
    obtain ⟨a3, h3, _⟩ := DataW.trod_int Try.underlying3 e3
    obtain ⟨a4, h4, _⟩ := DataW.trod_int Try.underlying3 e4
    injection h0 with h0 _
    injection h1 with h1 _
    injection h2 with h2 _
    injection h3 with h3 _
    injection h4 with h4 _
    rw [h0, h1, h2, h3, h4]
    exact ⟨⟨a0, a1, a2, a3, a4⟩, k40_mk W _⟩
theorem Wt.agg {t : TypeId} {fs : Array Field} {parts : List (DataW H)} (h : Wt t (.agg parts)) (ht : Try.prog.underlying t = some (.struct fs)) {j : Nat} {f : Field} {d : DataW H} (hf : fs[j]? = some f) (hd : parts[j]? = some d) : Wt f.type d := by
  intro n hn
  refine h n ?_
  simp only [DataW.weights, ht]
  exact DataW.weights_mem_each (j := j) (by rw [List.getElem?_map, Array.getElem?_toList, hf]; rfl) hd n hn
set_option maxRecDepth 100000 in
theorem open24 (n : Nat) (cs : List Value) (x : DataW H × List MemPlace) (h : DataW.trod enc Try.prog W 0 (fun _ => true) true n 24 cs = some x) (hw : Wt 24 x.1) :
    ∃ s v k se rq A len c, ∃ l : List S40, cs = [.int .i64 s, .int .i64 v, .int .i64 k, .int .i64 se, .int .i64 rq, .slice A len c] ∧ l.length = len ∧ len ≤ c ∧ Kd.C k40 W A len l ∧ len ≤ 2513169434843 := by
  obtain ⟨xs, m, _, rfl, hl, hxl, hf⟩ := DataW.trod_struct Try.underlying24 h
  rw [c24] at hl
  match cs, hl, xs, hxl with
  | [v0, v1, v2, v3, v4, v5], _, [x0, x1, x2, x3, x4, x5], _ =>
    have e0 : DataW.trod enc Try.prog W 0 (fun _ => true) true m 3 [v0] = some x0 := by simpa [c3] using hf 0 _ rfl
    have e1 : DataW.trod enc Try.prog W 0 (fun _ => true) true m 3 [v1] = some x1 := by simpa [c3] using hf 1 _ rfl
    have e2 : DataW.trod enc Try.prog W 0 (fun _ => true) true m 3 [v2] = some x2 := by simpa [c3] using hf 2 _ rfl
    have e3 : DataW.trod enc Try.prog W 0 (fun _ => true) true m 3 [v3] = some x3 := by simpa [c3] using hf 3 _ rfl
    have e4 : DataW.trod enc Try.prog W 0 (fun _ => true) true m 3 [v4] = some x4 := by simpa [c3] using hf 4 _ rfl
    have e5 : DataW.trod enc Try.prog W 0 (fun _ => true) true m 22 [v5] = some x5 := by simpa [c22] using hf 5 _ rfl
    have hw5 : Wt 22 x5.1 := Wt.agg (j := 5) hw Try.underlying24 rfl rfl
    obtain ⟨a0, h0, _⟩ := DataW.trod_int Try.underlying3 e0
    obtain ⟨a1, h1, _⟩ := DataW.trod_int Try.underlying3 e1
    obtain ⟨a2, h2, _⟩ := DataW.trod_int Try.underlying3 e2
    obtain ⟨a3, h3, _⟩ := DataW.trod_int Try.underlying3 e3
    obtain ⟨a4, h4, _⟩ := DataW.trod_int Try.underlying3 e4
    obtain ⟨A, c, len, l, h5, hll, hlc, hC, _, hb⟩ := row_of (d := k40) Try.underlying22 c40 (fun _ => True) (fun n cs x h _ => by obtain ⟨y, hy⟩ := open40 n cs x h; exact ⟨y, hy, trivial⟩) e5 hw5
    rw [bytes40] at hb
    injection h0 with h0 _
    injection h1 with h1 _
    injection h2 with h2 _
    injection h3 with h3 _
    injection h4 with h4 _
    injection h5 with h5 _
    rw [h0, h1, h2, h3, h4, h5]
    have : reachBytes = 140737488351232 := rfl
    exact ⟨a0, a1, a2, a3, a4, A, len, c, l, rfl, hll, hlc, hC, by omega⟩
set_option maxRecDepth 100000 in
theorem open26 (n : Nat) (cs : List Value) (x : DataW H × List MemPlace) (h : DataW.trod enc Try.prog W 0 (fun _ => true) true n 26 cs = some x) : ∃ a b c, cs = [.int .i64 a, .int .i64 b, .int .i64 c] := by
  obtain ⟨xs, m, _, rfl, hl, hxl, hf⟩ := DataW.trod_struct Try.underlying26 h
  rw [c26] at hl
  match cs, hl, xs, hxl with
  | [v0, v1, v2], _, [x0, x1, x2], _ =>
    have e0 : DataW.trod enc Try.prog W 0 (fun _ => true) true m 3 [v0] = some x0 := by simpa [c3] using hf 0 _ rfl
    have e1 : DataW.trod enc Try.prog W 0 (fun _ => true) true m 3 [v1] = some x1 := by simpa [c3] using hf 1 _ rfl
    have e2 : DataW.trod enc Try.prog W 0 (fun _ => true) true m 3 [v2] = some x2 := by simpa [c3] using hf 2 _ rfl
    obtain ⟨a0, h0, _⟩ := DataW.trod_int Try.underlying3 e0
    obtain ⟨a1, h1, _⟩ := DataW.trod_int Try.underlying3 e1
    obtain ⟨a2, h2, _⟩ := DataW.trod_int Try.underlying3 e2
    injection h0 with h0 _
    injection h1 with h1 _
    injection h2 with h2 _
    rw [h0, h1, h2]
    exact ⟨a0, a1, a2, rfl⟩
set_option maxRecDepth 100000 in
/-- WHAT A RECORD READS AS. -/
theorem open28 {n : Nat} {cs : List Value} {x : DataW H × List MemPlace} (h : DataW.trod enc Try.prog W 0 (fun _ => true) true n 28 cs = some x) (hw : Wt 28 x.1) :
    ∃ kd s v k se rq A len c vn vp vb st of, ∃ (y : ByteArray) (l : List S40), cs = [.int .i64 kd, .int .i64 s, .int .i64 v, .int .i64 k, .int .i64 se, .int .i64 rq, .slice A len c, .int .i64 vn, .int .i64 vp, .int .i64 vb, .int .i64 st, .int .i64 of, .string y] ∧ l.length = len ∧ len ≤ c ∧ Kd.C k40 W A len l ∧ len ≤ 2513169434843 := by
  obtain ⟨xs, m, _, rfl, hl, hxl, hf⟩ := DataW.trod_struct Try.underlying28 h
  rw [c28] at hl
  match cs, hl, xs, hxl with
  | [v0, v1, v2, v3, v4, v5, v6, v7, v8, v9, v10, v11, v12], _, [x0, x1, x2, x3, x4, x5], _ =>
    have e0 : DataW.trod enc Try.prog W 0 (fun _ => true) true m 3 [v0] = some x0 := by simpa [c3] using hf 0 _ rfl
    have e1 : DataW.trod enc Try.prog W 0 (fun _ => true) true m 24 [v1, v2, v3, v4, v5, v6] = some x1 := by simpa [c24] using hf 1 _ rfl
    have e2 : DataW.trod enc Try.prog W 0 (fun _ => true) true m 26 [v7, v8, v9] = some x2 := by simpa [c26] using hf 2 _ rfl
    have e3 : DataW.trod enc Try.prog W 0 (fun _ => true) true m 3 [v10] = some x3 := by simpa [c3] using hf 3 _ rfl
    have e4 : DataW.trod enc Try.prog W 0 (fun _ => true) true m 3 [v11] = some x4 := by simpa [c3] using hf 4 _ rfl
    have e5 : DataW.trod enc Try.prog W 0 (fun _ => true) true m 9 [v12] = some x5 := by simpa [c9] using hf 5 _ rfl
    have hw1 : Wt 24 x1.1 := Wt.agg (j := 1) hw Try.underlying28 rfl rfl
    obtain ⟨kd, h0, _⟩ := DataW.trod_int Try.underlying3 e0
    obtain ⟨s, v, k, se, rq, A, len, c, l, h1, hll, hlc, hC, hb⟩ := open24 _ _ _ e1 hw1
    obtain ⟨vn, vp, vb, h2⟩ := open26 _ _ _ e2
    obtain ⟨st, h3, _⟩ := DataW.trod_int Try.underlying3 e3
    obtain ⟨of, h4, _⟩ := DataW.trod_int Try.underlying3 e4
    obtain ⟨y, h5, _⟩ := DataW.trod_string Try.underlying9 e5
    injection h0 with h0 _
    injection h3 with h3 _
    injection h4 with h4 _
    injection h5 with h5 _
    simp only [List.cons.injEq, and_true] at h1 h2
    obtain ⟨rfl, rfl, rfl, rfl, rfl, rfl⟩ := h1
    obtain ⟨rfl, rfl, rfl⟩ := h2
    rw [h0, h3, h4, h5]
    exact ⟨kd, s, v, k, se, rq, A, len, c, vn, vp, vb, st, of, y, l, rfl, hll, hlc, hC, hb⟩
end
end Go.Proofs.Ytdbniihjkiecbaa.PW
namespace Go.Proofs.Ytdbniihjkiecbaa.PW
open Go.ChangeShapes Go.WideShapes Go.ChangeAt Go.RowKit Go.Deep
open Go.Proofs.YtdbniihjkiecbaaW.PrintWords Go.Proofs.YtdbniihjkiecbaaW.PrintLast Go.Proofs.YtdbniihjkiecbaaW.PrintMore
set_option linter.unusedVariables false
set_option linter.unusedSimpArgs false

instance : Inhabited JR := ⟨zJ⟩
theorem bytes28 : Try.prog.bytesOf 28 = 128 := by kernel_rfl
section
variable {H : Type} {enc : TypeId × Value → H} {W : World}
/-- WHAT A LIST OF RECORDS READS AS. -/
theorem open_records {a : Option Addr} {len cap : Nat} {d : DataW H} {p : List MemPlace} (h0 : DataW.Trod enc Try.prog W 0 (fun _ => true) true 43 (.slice a len cap) d p) (hw : Wt 43 d) :
    ∃ L : List JR, L.length = len ∧ Kd.C kJ W a len L ∧ len ≤ cap ∧ (∀ y ∈ L, y.ops.length ≤ 2513169434843) ∧ len ≤ 2513169434843 := by
  obtain ⟨fuel, hf⟩ := h0
  obtain ⟨A, c, n, L, h1, h2, h3, h4, h5, h6⟩ := row_of (d := kJ) u43 c28 (fun y => y.ops.length ≤ 2513169434843) (fun n cs x h hw => by
    obtain ⟨kd, s, v, k, se, rq, A, len, c, vn, vp, vb, st, of, y, l, rfl, hl, hc, hC, hb⟩ := open28 h hw
    subst hl
    exact ⟨⟨kd, s, v, k, se, rq, l, vn, vp, vb, st, of, y⟩, kJ_mk W ⟨kd, s, v, k, se, rq, l, vn, vp, vb, st, of, y⟩ hc hC, hb⟩) hf hw
  rw [bytes28] at h6
  injection h1 with h1 _
  injection h1 with e1 e2 e3
  subst e1
  subst e2
  subst e3
  have : reachBytes = 140737488351232 := rfl
  exact ⟨L, h2, h4, h3, h5, by omega⟩
end
end Go.Proofs.Ytdbniihjkiecbaa.PW
