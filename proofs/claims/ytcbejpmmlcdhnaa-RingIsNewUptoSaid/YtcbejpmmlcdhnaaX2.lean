/- Words, contracts and walks of the law RingIsNew, in one text. -/
import Derived.Test.YtcbejpmmlcdhnaaX1
import Derived.Test.YtcbejpmmlcdhnaaRows
import Derived.Test.YtcbejpmmlcdhnaaX0
import Derived.WalkKit
import Derived.ProofKit
import Derived.OpenShut
import Derived.ChangeOld
import Derived.Below
import Derived.SizedLaws
import Derived.Deep.Slices
namespace Go.Proofs.Ytcbejpmmlcdhnaa.PW
open Go.RowKit Go.Proofs.YtcbejpmmlcdhnaaW.PrintWords Go.Proofs.YtcbejpmmlcdhnaaW.PrintLast Go.Proofs.YtcbejpmmlcdhnaaW.PrintMore
set_option linter.unusedVariables false
set_option linter.unusedSimpArgs false
def rg9.T40 : Bool × List (List Nat × List Nat) := (true, [([], []), ([], []), ([0, 1], [0, 1]), ([2], [2]), ([], []), ([], []), ([4, 5], [4, 5]), ([6], [6]), ([3, 7], [3, 7]), ([8], [8]), ([9, 8], [9]), ([10], [10]), ([10], [10]), ([11, 12, 10], [10, 11, 12]), ([13, 10], [10, 13]), ([10], [10]), ([10], [10]), ([10], [10]), ([16, 17, 10], [10, 16, 17]), ([15, 18, 10], [10, 15, 18]), ([19, 10], [10, 19]), ([14, 20, 10, 10], [10, 14, 20]), ([21, 10], [10, 21]), ([10, 22], [10, 22])])
def rg9.B40 : List Nat := [0, 0, 3, 7, 0, 0, 48, 112, 255, 511, 1023, 2047, 2047, 8191, 16383, 2047, 2047, 2047, 198655, 493567, 1017855, 2097151, 4194303, 8388607]
theorem rg9.tab40 : rtab .any (opsOf Try.f9 40) = rg9.T40 := by kernel_rfl
theorem rg9.bits40 : waitsOk rg9.T40.2 rg9.B40 = true := by kernel_rfl

theorem few_ops {L : List S33} (h : few L) : ∀ y ∈ L, opsOk y := fun y hy => by have := h.2 y hy; unfold opsOk; omega
theorem info3 : (Try.prog.info? 3).map (fun i => (i.zero, i.size, i.bytes)) = some (some (.int .i64 0), 1, 8) := by kernel_rfl
set_option maxHeartbeats 64000000 in
set_option maxRecDepth 100000 in
theorem ringIsNew_le (room n : Nat) (A0 : Option Addr) (q0 c0 : Nat) (ms0 : List Int) (w : World) (h1 : 1 ≤ room) (h2 : room ≤ 64) (hn : n ≤ 100) (hq : ms0.length = q0) (hC : Kd.C (Kd.int .i64) w A0 q0 ms0) (hqc : q0 ≤ c0) (hbig : q0 ≤ 24) :
    Calls Try.prog 9 #[.int .i64 (room : Int), .int .i64 (n : Int), .slice A0 q0 c0] w fun e w' => e = .returned (.bool true) ∧ Below w.heap.size w w' := by
  obtain ⟨nm, hnm⟩ : ∃ nm, nm = q0 := ⟨_, rfl⟩
  obtain ⟨ms, hms⟩ : ∃ ms, ms = ms0 := ⟨_, rfl⟩
  rw [← hms] at hq hC
  rw [← hnm] at hC hq hbig hqc ⊢
  have hml : ms.length = nm := hq
  have hCm : Kd.C (Kd.int .i64) w A0 nm ms := hC
  have hd24 : decide (24 < nm) = false := decide_eq_false (by omega)
  have hd24i : decide ((24 : Int) < (nm : Int)) = false := decide_eq_false (by omega)
  have hnm24 : nm ≤ 24 := hbig
  clear hms hnm hbig hq hC
  have HML := Aside0.mk hml
  have HCM := Aside0.mk hCm
  have h64 : ∀ k : Nat, k ≤ 64 → True := fun _ _ => trivial
  clear hml hCm h64
  have hr1 : decide ((room : Int) < 1) = false := decide_eq_false (by omega)
  have hr2 : decide ((64 : Int) < (room : Int)) = false := decide_eq_false (by omega)
  have hr3 : decide ((100 : Int) < (n : Int)) = false := decide_eq_false (by omega)
  have hr4 : decide (room < 1) = false := decide_eq_false (by omega)
  have hr5 : decide (64 < room) = false := decide_eq_false (by omega)
  have hr6 : decide (100 < n) = false := decide_eq_false (by omega)
  go_enter Try.func9, Try.ntmps9
  go_wp2_with fail
  refine (begins_R w).mono ?_
  rintro e w1 ⟨rfl, hb⟩
  have HB := Aside0.mk hb
  clear hb
  go_wp2_with fail
  refine (filled_R w1 room n h1 h2 (by omega)).mono ?_
  rintro e w2 ⟨rfl, hr, hb⟩
  obtain ⟨s, hs⟩ : ∃ s, s = fillS room n := ⟨_, rfl⟩
  obtain ⟨b, hb1⟩ : ∃ b, b = w1.heap.size := ⟨_, rfl⟩
  rw [← hs] at hr
  have HFEW := Aside0.mk (show few s.l by rw [hs]; exact few_fill room n h2)
  have HSOK := Aside0.mk hr.1
  have HTRI := Aside0.mk (show Tri w2 w1.heap.size (fun _ => False) (fun _ => False) (fun k => True ∧ k < w2.heap.size) b s (.slice none 0 0) (.slice none 0 0) [] [] from
    ⟨Kd.S_nil _ _ _ _ _, Kd.S_nil _ _ _ _ _, by rw [hb1]; exact RingIs_bound hr, fun k h => h.elim, fun k h => h.elim, fun k h => h.elim, fun k h => h.elim, fun k h => h.elim, fun k h => h.2⟩)
  have HB2 := Aside0.mk hb
  rw [← hb1]
  obtain ⟨fl, hfl⟩ : ∃ fl, fl = s.fl := ⟨_, rfl⟩
  have hfl100 : fl ≤ 100 := by rw [hfl, hs]; show n - room ≤ 100; omega
  obtain ⟨ln, hln⟩ : ∃ ln, ln = s.l.length := ⟨_, rfl⟩
  have hln64 : ln ≤ 64 := by rw [hln]; exact HFEW.out.1
  have HFL := Aside0.mk (And.intro hfl hln)
  obtain ⟨PS, hPS⟩ : ∃ PS, PS = pass s ms := ⟨_, rfl⟩
  have HPS := Aside0.mk hPS
  have HPL := Aside0.mk (show PS.length = 1 + nm + ln by rw [hPS, pass_len, HML.out, hln])
  obtain ⟨OR, hOR⟩ : ∃ OR : Nat → Prop, OR = (fun k => True ∧ k < w2.heap.size) := ⟨_, rfl⟩
  rw [← hOR] at HTRI
  clear hr hb hb1 hs hfl hln hPS hOR
  go_wp2
  go_loopw [9, 10, 11, 12, 13, 14, 15, 16, 17, 18, 19, 20, 21] (fun v9 v10 v11 v12 v13 v14 v15 v16 v17 v18 v19 v20 v21 wr => ∃ (k : Nat) (OT OW : Nat → Prop) (vT vW : Value), k ≤ 2 ∧ vT = v9 ∧ vW = v10 ∧ v11 = .int .i64 (k : Int) ∧ Aside0 (Tri wr w1.heap.size OT OW OR b s vT vW (List.replicate k PS).flatten (List.replicate k PS).flatten) ∧ Aside0 (Below w1.heap.size w1 wr)) (fun _ _ v11 _ _ _ _ _ _ _ _ _ _ _ => 3 - (intOf v11).toNat)
  case atStart => exact ⟨0, _, _, _, _, Nat.zero_le _, rfl, rfl, rfl, HTRI, HB2⟩
  case round =>
    obtain ⟨k, OT, OW, vT, vW, hk, rfl, rfl, rfl, HTRI, HW⟩ := hrel
    by_cases hlt : k < 2
    · have hd1 : decide (k < 2) = true := decide_eq_true hlt
      have hd2 : decide ((k : Int) < 2) = true := decide_eq_true (by omega)
      obtain ⟨RP, hRP⟩ : ∃ RP, RP = (List.replicate k PS).flatten := ⟨_, rfl⟩
      rw [← hRP] at HTRI
      have HRP := Aside0.mk hRP
      have HRL := Aside0.mk (show RP.length ≤ 178 by
        rw [hRP, List.length_flatten, List.map_replicate, List.sum_replicate_nat, HPL.out]
        have : k * (1 + nm + ln) ≤ 2 * 89 := Nat.mul_le_mul hk (by omega)
        omega)
      clear hRP
      go_wp2_with fail
      refine (all_R HTRI.out.r).mono ?_
      rintro e w3 ⟨AL, nL, cL, rfl, hnL, hlc, hSL, hb3⟩
      obtain rfl : nL = ln := by rw [hnL]; exact HFL.out.2.symm
      have HSL := Aside0.mk hSL
      have HB3 := Aside0.mk hb3
      have HW3 := Aside0.mk (HW.out.trans (hb3.mono HW.out.size))
      have HSZ := Aside0.mk HW.out.size
      clear hnL hSL hb3
      go_wp2_with (with_reducible refine stop_append rfl ?_)
      refine told_append (w0 := w1) rfl (.tmp 68) (.tmp 70) rfl HTRI.out HB3.out HSL.out rfl rfl HW3.out HSZ.out (by have := HRL.out; omega) ?_
      rintro vT1 w4 ⟨OT1, ht4⟩ hg4 hlt4 hB4
      have HT4 := Aside0.mk ht4
      have HW4 := Aside0.mk hB4
      have HSL4 := Aside0.mk (show Kd.S k33 33 w4 wr.heap.size (fun k => wr.heap.size ≤ k) (.slice AL nL cL) s.l from Kd.S_grown (Kd.S_mono (Kd.S_bound HSL.out) (fun k hk => hk.2.1)) hg4 (fun k hk e => by have := hlt4 k e.symm; omega))
      clear ht4 hg4 hlt4 hB4
      go_wp2_with fail
      refine (twins_T s.l HFEW.out AL nL cL w4 HFL.out.2.symm (by obtain ⟨q1, q2, q3⟩ := Kd.S_reads' HSL4.out; rw [← q1] at q3; exact q3) hlc).mono ?_
      rintro e w5 ⟨A5, c5, rfl, hS5, hb5⟩
      have HS5 := Aside0.mk hS5
      have HB5 := Aside0.mk hb5
      have HW5 := Aside0.mk (HW4.out.trans (hb5.mono HW4.out.size))
      clear hS5 hb5
      go_wp2_with (with_reducible refine stop_append rfl ?_)
      refine was_append (w0 := w1) rfl (.tmp 72) (.tmp 75) rfl HT4.out HB5.out HS5.out rfl rfl HW5.out HW4.out.size (by have := HRL.out; omega) ?_
      rintro vW1 w6 ⟨OW1, ht6⟩ hB6
      have HT6 := Aside0.mk ht6
      have HW6 := Aside0.mk hB6
      clear ht6 hB6
      go_wp2_with fail
      refine (floor_R HT6.out.r).mono ?_
      rintro e w7 ⟨rfl, ⟨⟨m7, rfl⟩⟩⟩
      rw [← HFL.out.1]
      have HT7 := Aside0.mk (HT6.out.below (pw_below_drewN (Below.refl w6.heap.size w6) m7))
      have HW7 := Aside0.mk (show Below w1.heap.size w1 (w6.drewN m7) from pw_below_drewN HW6.out m7)
      obtain ⟨w7, hw7⟩ : ∃ w7, w7 = w6.drewN m7 := ⟨_, rfl⟩
      rw [← hw7] at HT7 HW7 ⊢
      clear hw7 HT6 HW6 HT4 HW4 HSL4 HS5 HB5 HW5 HSL HB3 HW3 HTRI HW HSZ
      go_wp2
      obtain ⟨wo, hwo⟩ : ∃ wo, wo = wr := ⟨_, rfl⟩
      go_loopw [9, 10, 16, 17, 18] (fun v9 v10 v16 v17 v18 wr => ∃ (i : Nat) (OT OW : Nat → Prop) (vT vW : Value), i ≤ nm ∧ vT = v9 ∧ vW = v10 ∧ v16 = .int .i64 (i : Int) ∧ Aside0 (Tri wr w1.heap.size OT OW OR b s vT vW (RP ++ [s.l] ++ (List.range i).map (aftL s ms)) (RP ++ [s.l] ++ (List.range i).map (aftL s ms))) ∧ Aside0 (Below w1.heap.size w1 wr)) (fun _ _ v16 _ _ _ => nm + 1 - (intOf v16).toNat)
      case atStart => exact ⟨0, _, _, _, _, Nat.zero_le _, rfl, rfl, rfl, by rw [List.range_zero, List.map_nil, List.append_nil]; exact HT7, HW7⟩
      case round =>
        obtain ⟨i, OT, OW, vT, vW, hi, rfl, rfl, rfl, HTRI, HW⟩ := hrel
        by_cases hin : i < nm
        · have hd3 : decide (i < nm) = true := decide_eq_true hin
          have hd4 : decide ((i : Int) < (nm : Int)) = true := decide_eq_true (by omega)
          obtain ⟨adm, cm, hAm, _, hKm, hcm⟩ := Kd.C_get HCM.out (0 : Int) (i : Int) (by omega) (by omega)
          subst hAm
          obtain ⟨mi, hmi⟩ : ∃ mi : Int, mi = ms.getD i 0 := ⟨_, rfl⟩
          have hcm0 : w.cell? (adm.add i) = some (.int .i64 mi) := by
            rw [Int.toNat_natCast] at hKm hcm
            rw [hmi]
            have hc2 : cm = [.int .i64 (ms.getD i 0)] := hKm
            have h9 := hcm 0 (.int .i64 (ms.getD i 0)) (by rw [hc2]; rfl)
            exact (show w.cell? (adm.add (i * 1 + 0)) = _ from h9) ▸ (by rw [Nat.mul_one, Nat.add_zero])
          have HMI := Aside0.mk hmi
          clear hKm hcm hmi
          have cM : wr.cell? (adm.add i) = some (.int .i64 mi) := pw_cell_below (HB.out.trans (HW.out.mono HB.out.size)) hcm0
          obtain ⟨t3, ht3⟩ : ∃ t3 : Nat, t3 = fl + i % 3 := ⟨_, rfl⟩
          have hib : i ≤ 24 := by omega
          go_wp2_with fail
          rw [show (fl : Int) + (i : Int) % 3 = (t3 : Int) by omega]
          refine (after_R HTRI.out.r (t3 : Int) mi).mono ?_
          rintro e w3 ⟨A3, c3, rfl, hS3, hl3, hb3⟩
          obtain ⟨L, hL⟩ : ∃ L, L = aftL s ms i := ⟨_, rfl⟩
          have hLe : s.after (t3 : Int) mi = L := by rw [hL, ht3, HFL.out.1, HMI.out]; rfl
          rw [hLe] at hS3 hl3 ⊢
          obtain ⟨nL, hnL⟩ : ∃ nL, nL = L.length := ⟨_, rfl⟩
          rw [← hnL] at hS3 hl3 ⊢
          have HL := Aside0.mk (show few L by rw [hL]; exact few_after HFEW.out _ _)
          have HLE := Aside0.mk (And.intro hL hnL)
          have HS3 := Aside0.mk hS3
          have HB3 := Aside0.mk hb3
          have HW3 := Aside0.mk (HW.out.trans (hb3.mono HW.out.size))
          have HSZ := Aside0.mk HW.out.size
          have HPT := Aside0.mk (show (RP ++ [s.l] ++ (List.range i).map (aftL s ms)).length ≤ 300 by simp; have := HRL.out; omega)
          clear hLe hL hnL hS3 hb3 ht3
          go_wp2_with (with_reducible refine stop_append rfl ?_)
          refine told_append (w0 := w1) rfl (.tmp 101) (.tmp 103) rfl HTRI.out HB3.out HS3.out rfl rfl HW3.out HSZ.out (by have := HPT.out; omega) ?_
          rintro vT1 w4 ⟨OT1, ht4⟩ hg4 hlt4 hB4
          have HT4 := Aside0.mk ht4
          have HW4 := Aside0.mk hB4
          have HSL4 := Aside0.mk (show Kd.S k33 33 w4 wr.heap.size (fun k => wr.heap.size ≤ k) (.slice A3 nL c3) L from Kd.S_grown (Kd.S_mono (Kd.S_bound HS3.out) (fun k hk => hk.2.1)) hg4 (fun k hk e => by have := hlt4 k e.symm; omega))
          clear ht4 hg4 hlt4 hB4
          go_wp2_with fail
          refine (twins_T L HL.out A3 nL c3 w4 HLE.out.2.symm (by obtain ⟨q1, q2, q3⟩ := Kd.S_reads' HSL4.out; rw [← q1] at q3; exact q3) hl3).mono ?_
          rintro e w5 ⟨A5, c5, rfl, hS5, hb5⟩
          have HS5 := Aside0.mk hS5
          have HB5 := Aside0.mk hb5
          have HW5 := Aside0.mk (HW4.out.trans (hb5.mono HW4.out.size))
          clear hS5 hb5
          go_wp2_with (with_reducible refine stop_append rfl ?_)
          refine was_append (w0 := w1) rfl (.tmp 105) (.tmp 108) rfl HT4.out HB5.out HS5.out rfl rfl HW5.out HW4.out.size (by have := HPT.out; omega) ?_
          rintro vW1 w6 ⟨OW1, ht6⟩ hB6
          have HT6 := Aside0.mk (show Tri w6 w1.heap.size OT1 OW1 OR b s vT1 vW1 (RP ++ [s.l] ++ (List.range (i + 1)).map (aftL s ms)) (RP ++ [s.l] ++ (List.range (i + 1)).map (aftL s ms)) by rw [range_snoc, ← List.append_assoc, ← HLE.out.1]; exact ht6)
          have HW6 := Aside0.mk hB6
          clear ht6 hB6
          go_wp2
          go_roundw
          case rel => exact ⟨i + 1, OT1, OW1, vT1, vW1, by omega, rfl, rfl, by go_num, HT6, HW6⟩
          case measure => simp [intOf]; omega
        · have hd3 : decide (i < nm) = false := decide_eq_false hin
          have hd4 : decide ((i : Int) < (nm : Int)) = false := decide_eq_false (by omega)
          obtain rfl : nm = i := by omega
          obtain ⟨RQ, hRQ⟩ : ∃ RQ, RQ = RP ++ [s.l] ++ (List.range nm).map (aftL s ms) := ⟨_, rfl⟩
          rw [← hRQ] at HTRI
          have HRQ := Aside0.mk hRQ
          have HRQL := Aside0.mk (show RQ.length ≤ 300 by rw [hRQ]; simp; have := HRL.out; omega)
          clear hRQ
          have HT8 := HTRI
          have HW8 := HW
          go_wp2
          go_loopw [9, 10, 19, 20, 21] (fun v9 v10 v19 v20 v21 wr => ∃ (i : Nat) (OT OW : Nat → Prop) (vT vW : Value), i ≤ nL ∧ vT = v9 ∧ vW = v10 ∧ v19 = .int .i64 (i : Int) ∧ Aside0 (Tri wr w1.heap.size OT OW OR b s vT vW (RQ ++ (List.range i).map (atL s)) (RQ ++ (List.range i).map (atL s))) ∧ Aside0 (Below w1.heap.size w1 wr)) (fun _ _ v19 _ _ _ => nL + 1 - (intOf v19).toNat)
          case atStart => exact ⟨0, _, _, _, _, Nat.zero_le _, rfl, rfl, rfl, by rw [List.range_zero, List.map_nil, List.append_nil]; exact HT8, HW8⟩
          case round =>
            obtain ⟨i, OT, OW, vT, vW, hi, rfl, rfl, rfl, HTRI, HW⟩ := hrel
            by_cases hin2 : i < nL
            · have hd5 : decide (i < nL) = true := decide_eq_true hin2
              have hd6 : decide ((i : Int) < (nL : Int)) = true := decide_eq_true (by omega)
              obtain ⟨t3, ht3⟩ : ∃ t3 : Nat, t3 = fl + 1 + i := ⟨_, rfl⟩
              have hatc : s.atc (t3 : Int) = 0 := by
                unfold RS.atc
                have h8 := HFL.out.1
                have h9 := HFL.out.2
                rw [if_neg (by omega), if_neg (by unfold RS.la; omega)]
              have HT3 := Aside0.mk (And.intro ht3 hatc)
              have hsum3 : (fl : Int) + 1 + (i : Int) = (t3 : Int) := by omega
              clear hatc ht3
              go_wp2_with fail
              refine (at_R HTRI.out.r (t3 : Int)).mono ?_
              rintro e w3 ⟨A3, c3, rfl, hR3, hb3⟩
              rw [HT3.out.2]
              obtain ⟨y, hy⟩ : ∃ y, y = s.at (t3 : Int) := ⟨_, rfl⟩
              rw [← hy] at hR3 ⊢
              obtain ⟨m5, hm5⟩ : ∃ m5, m5 = y.f5.length := ⟨_, rfl⟩
              rw [← hm5] at hR3 ⊢
              have HY := Aside0.mk (And.intro hy hm5)
              have HYF := Aside0.mk (show few [y] by rw [hy]; exact few_at HFEW.out _)
              have HYA := Aside0.mk (show atL s i = [y] by rw [hy, HT3.out.1]; unfold atL; rw [HFL.out.1])
              have HR3 := Aside0.mk hR3
              have HB3 := Aside0.mk hb3
              have HSZ := Aside0.mk HW.out.size
              have HPT := Aside0.mk (show (RQ ++ (List.range i).map (atL s)).length ≤ 400 by simp; have := HRQL.out; omega)
              clear hy hm5 hR3 hb3 hsum3
              unfold entV
              have HNEW := Aside0.mk (heap_alloc_new w3 (.cells zeroCells 33))
              go_wp2_with (with_reducible refine stop_store rfl ?_)
              refine wpList_store rfl rfl 33 (.tmp 20) (.tmp 123) rfl (.agg #[.int .i64 y.f0, .int .i64 y.f1, .int .i64 y.f2, .int .i64 y.f3, .int .i64 y.f4, .slice A3 m5 c3]) (cells6 y (.slice A3 m5 c3)) rfl rfl HNEW.out rfl size33 (by show 0 + 6 ≤ 6; omega) (by simp [cells6, Value.oneCell']) ?_
              rw [alloc_full (w := w3) (cur := zeroCells) (e := 33) (cells6 y (.slice A3 m5 c3)) rfl]
              have hbx4 : (w3.alloc (.cells (cells6 y (.slice A3 m5 c3)).toArray 33)).heap[w3.heap.size]? = some (.cells (cells6 y (.slice A3 m5 c3)).toArray 33) := heap_alloc_new w3 _
              have HB4 := Aside0.mk (below_step HB3.out (below_alloc (Below.refl w3.heap.size w3) (.cells (cells6 y (.slice A3 m5 c3)).toArray 33)))
              have HR4 := Aside0.mk (Kd.R_below HR3.out (below_alloc (Below.refl w3.heap.size w3) (.cells (cells6 y (.slice A3 m5 c3)).toArray 33)))
              have HG4 := Aside0.mk HB3.out.size
              obtain ⟨g4, hg4⟩ : ∃ g4, g4 = w3.heap.size := ⟨_, rfl⟩
              rw [← hg4] at hbx4 HG4 ⊢
              clear HNEW hg4
              obtain ⟨w4, hw4⟩ : ∃ w4, w4 = w3.alloc (.cells (cells6 y (.slice A3 m5 c3)).toArray 33) := ⟨_, rfl⟩
              rw [← hw4] at hbx4 HB4 HR4 ⊢
              have d0 : w4.cell? ⟨g4, 0, none⟩ = some (.int .i64 y.f0) := (blk_cell hbx4 0).trans rfl
              have d1 : w4.cell? ⟨g4, 1, none⟩ = some (.int .i64 y.f1) := (blk_cell hbx4 1).trans rfl
              have d2 : w4.cell? ⟨g4, 2, none⟩ = some (.int .i64 y.f2) := (blk_cell hbx4 2).trans rfl
              have d3 : w4.cell? ⟨g4, 3, none⟩ = some (.int .i64 y.f3) := (blk_cell hbx4 3).trans rfl
              have d4 : w4.cell? ⟨g4, 4, none⟩ = some (.int .i64 y.f4) := (blk_cell hbx4 4).trans rfl
              have d5 : w4.cell? ⟨g4, 5, none⟩ = some (.slice A3 m5 c3) := (blk_cell hbx4 5).trans rfl
              have HBX4 := Aside0.mk hbx4
              clear hw4 hbx4 HR3 HB3
              go_wp2_with (with_reducible refine stop_append rfl ?_)
              have hBc : Below w4.heap.size w4 (w4.alloc (.cells (cells6 y (.slice A3 m5 c3)).toArray 33)) := below_alloc (Below.refl _ _) _
              have hone : Kd.S k33 33 (w4.alloc (.cells (cells6 y (.slice A3 m5 c3)).toArray 33)) wr.heap.size (fun _ => True) (.slice (some ⟨w4.heap.size, 0, none⟩) 1 1) [y] :=
                S_one (ok' := fun k => k < w4.heap.size) y (heap_alloc_new w4 _) HB4.out.size (Kd.R_below (Kd.R_mono (Kd.R_bound HR4.out) (fun k hk => hk.2.2.1)) hBc) trivial (fun k hk => ⟨trivial, by omega⟩)
              have HBC := Aside0.mk (below_step HB4.out hBc)
              have HBXC := Aside0.mk ((hBc.block _ (blk_lt HBX4.out)).trans HBX4.out)
              have HRC := Aside0.mk (Kd.R_below HR4.out hBc)
              have HWC := Aside0.mk (HW.out.trans (HBC.out.mono HW.out.size))
              refine told_append (w0 := w1) rfl (.tmp 127) (.tmp 130) rfl HTRI.out HBC.out hone rfl (by rw [szA]; rfl) HWC.out HSZ.out (by have := HPT.out; omega) ?_
              rintro vT1 w5 ⟨OT1, ht5⟩ hg5 hlt5 hB5
              have hbx5 := blk_grown HBXC.out hg5 (fun e => by have := hlt5 _ e.symm; have := HG4.out; omega)
              have HR5 := Aside0.mk (show Kd.R k55 55 w5 wr.heap.size (fun k => wr.heap.size ≤ k) (.slice A3 m5 c3) y.f5 from Kd.R_grown (Kd.R_mono (Kd.R_bound HRC.out) (fun k hk => hk.2.1)) hg5 (fun k hk e => by have := hlt5 k e.symm; omega))
              have HT5 := Aside0.mk ht5
              have HW5 := Aside0.mk hB5
              have HZ5 := Aside0.mk (show wr.heap.size ≤ w5.heap.size from Nat.le_trans HBC.out.size hg5.size)
              clear d0 d1 d2 d3 d4 d5
              have d0 : w5.cell? ⟨g4, 0, none⟩ = some (.int .i64 y.f0) := (blk_cell hbx5 0).trans rfl
              have d1 : w5.cell? ⟨g4, 1, none⟩ = some (.int .i64 y.f1) := (blk_cell hbx5 1).trans rfl
              have d2 : w5.cell? ⟨g4, 2, none⟩ = some (.int .i64 y.f2) := (blk_cell hbx5 2).trans rfl
              have d3 : w5.cell? ⟨g4, 3, none⟩ = some (.int .i64 y.f3) := (blk_cell hbx5 3).trans rfl
              have d4 : w5.cell? ⟨g4, 4, none⟩ = some (.int .i64 y.f4) := (blk_cell hbx5 4).trans rfl
              have d5 : w5.cell? ⟨g4, 5, none⟩ = some (.slice A3 m5 c3) := (blk_cell hbx5 5).trans rfl
              clear hBc hone ht5 hg5 hlt5 hB5 hbx5 HBC HBXC HRC HWC HR4 HB4 HBX4
              go_wp2_with fail
              have hBd : Below w5.heap.size w5 (w5.alloc (.cells (cells6 y (.slice A3 m5 c3)).toArray 33)) := below_alloc (Below.refl _ _) _
              have hone2 : Kd.S k33 33 (w5.alloc (.cells (cells6 y (.slice A3 m5 c3)).toArray 33)) wr.heap.size (fun _ => True) (.slice (some ⟨w5.heap.size, 0, none⟩) 1 1) [y] :=
                S_one (ok' := fun k => k < w5.heap.size) y (heap_alloc_new w5 _) HZ5.out (Kd.R_below (Kd.R_mono (Kd.R_bound HR5.out) (fun k hk => hk.2.2.1)) hBd) trivial (fun k hk => ⟨trivial, by omega⟩)
              refine (twins_T [y] HYF.out (some ⟨w5.heap.size, 0, none⟩) 1 1 (w5.alloc (.cells (cells6 y (.slice A3 m5 c3)).toArray 33)) rfl (Kd.S_reads' hone2).2.2 (Nat.le_refl _)).mono ?_
              rintro e w7 ⟨A7, c7, rfl, hS7, hb7⟩
              have HS7 := Aside0.mk (Kd.S_lower hS7 hBd.size)
              have HB7 := Aside0.mk (below_step hBd hb7)
              have HW7 := Aside0.mk (HW5.out.trans ((below_step hBd hb7).mono HW5.out.size))
              clear hS7 hb7 hone2 hBd
              go_wp2_with (with_reducible refine stop_append rfl ?_)
              refine was_append (w0 := w1) rfl (.tmp 132) (.tmp 136) rfl HT5.out HB7.out HS7.out rfl rfl HW7.out HW5.out.size (by have := HPT.out; omega) ?_
              rintro vW1 w8 ⟨OW1, ht8⟩ hB8
              have HT9 := Aside0.mk (show Tri w8 w1.heap.size OT1 OW1 OR b s vT1 vW1 (RQ ++ (List.range (i + 1)).map (atL s)) (RQ ++ (List.range (i + 1)).map (atL s)) by rw [range_snoc, ← List.append_assoc, HYA.out]; exact ht8)
              have HW9 := Aside0.mk hB8
              clear ht8 hB8 d0 d1 d2 d3 d4 d5
              go_wp2
              go_roundw
              case rel => exact ⟨i + 1, OT1, OW1, vT1, vW1, by omega, rfl, rfl, by go_num, HT9, HW9⟩
              case measure => simp [intOf]; omega
            · have hd5 : decide (i < nL) = false := decide_eq_false hin2
              have hd6 : decide ((i : Int) < (nL : Int)) = false := decide_eq_false (by omega)
              have hnext : RQ ++ (List.range i).map (atL s) = (List.replicate (k + 1) PS).flatten := by
                rw [show i = s.l.length by have := HFL.out.2; omega, HRQ.out, List.replicate_succ', List.flatten_append, ← HRP.out]
                simp only [List.flatten_cons, List.flatten_nil, List.append_nil]
                rw [HPS.out]
                unfold pass
                rw [HML.out]
                simp only [List.append_assoc]
              rw [hnext] at HTRI
              clear hnext
              go_wp2
              go_roundw
              case rel => exact ⟨k + 1, OT, OW, _, _, by omega, rfl, rfl, by go_num, HTRI, HW⟩
              case measure => simp [intOf]; omega
    · have hd1 : decide (k < 2) = false := decide_eq_false hlt
      have hd2 : decide ((k : Int) < 2) = false := decide_eq_false (by omega)
      have hk2 : k = 2 := by omega
      obtain ⟨QQ, hQQ⟩ : ∃ QQ, QQ = PS ++ PS := ⟨_, rfl⟩
      have hQe : (List.replicate k PS).flatten = QQ := by rw [hk2, hQQ]; simp
      clear hk2
      rw [hQe] at HTRI
      have HQ0 := Aside0.mk (show QQ[0]? = some s.l by rw [hQQ, HPS.out]; rfl)
      have hQl : QQ.length = 2 * PS.length := by rw [hQQ, List.length_append]; omega
      have HQF := Aside0.mk (show ∀ L ∈ QQ, few L from fun L hL => few_pass HFEW.out ms L (by
        rw [hQQ] at hL
        rw [← HPS.out]
        rcases List.mem_append.1 hL with h | h <;> exact h))
      have HQM := Aside0.mk (show ∀ i, i < QQ.length → QQ[i]? = QQ[i % PS.length]? from fun i hi => by
        rw [hQQ] at hi ⊢
        exact twice_get PS (by rw [HPL.out]; omega) i hi)
      obtain ⟨vs, f, howT, hvl, hokT, hvs⟩ := open_told HTRI.out.t
      obtain ⟨wsl, f2, howW, hwl, hokW, hws⟩ := open_told HTRI.out.w
      obtain ⟨hDv, hRv⟩ := told_dist hvl hvs HQF.out
      obtain ⟨AT, cT, hvT, _⟩ := own_form howT
      obtain ⟨AW, cW, hvW, _⟩ := own_form howW
      obtain ⟨NQ, hNQ⟩ : ∃ NQ, NQ = QQ.length := ⟨_, rfl⟩
      obtain ⟨HF0, hHF⟩ : ∃ HF0, HF0 = PS.length := ⟨_, rfl⟩
      rw [← hNQ] at hvT hvW
      subst hvT
      subst hvW
      obtain ⟨wm, hwm⟩ : ∃ wm, wm = wr := ⟨_, rfl⟩
      rw [← hwm] at HTRI HW howT howW hvs hws hRv
      have HVS := Aside0.mk hvs
      have HWS := Aside0.mk hws
      have HDV := Aside0.mk (And.intro hDv hRv)
      have HOT := Aside0.mk howT
      have HOW := Aside0.mk howW
      have HVL := Aside0.mk (And.intro hvl hokT)
      have HNQ := Aside0.mk (show NQ = QQ.length ∧ HF0 = PS.length ∧ NQ = 2 * HF0 ∧ 1 ≤ HF0 ∧ HF0 ≤ 89 from ⟨hNQ, hHF, by omega, by have := HPL.out; omega, by have := HPL.out; omega⟩)
      have hdiv : (NQ : Int) / 2 = (HF0 : Int) := by have := HNQ.out; omega
      have hdiv2 : Int.tdiv (NQ : Int) 2 = (HF0 : Int) := by rw [Int.tdiv_eq_ediv_of_nonneg (by omega)]; exact hdiv
      have hNQ178 : NQ ≤ 178 := by have := HNQ.out; omega
      clear hQQ hQe hQl hvs hws hDv hRv howT howW hvl hokT hwl hokW hNQ hHF
      rw [← hwm]
      clear hwm
      go_wp2
      have hgb : (wm.alloc (.cells #[.slice none 0 0, .slice none 0 0, .slice none 0 0, .slice none 0 0] 76)).heap[wm.heap.size]? = some (.cells #[.slice none 0 0, .slice none 0 0, .slice none 0 0, .slice none 0 0] 76) := heap_alloc_new wm _
      have hwmb : w1.heap.size ≤ wm.heap.size := HW.out.size
      have HBK0 := Aside0.mk (show Book (wm.alloc (.cells #[.slice none 0 0, .slice none 0 0, .slice none 0 0, .slice none 0 0] 76)) w1.heap.size wm.heap.size (.slice none 0 0) (.slice none 0 0) (.slice none 0 0) (.slice none 0 0) [] [] (vs.take 0) [] from
        ⟨hwmb, hgb, World.ownsRow_nil _ _ _ _, World.ownsRow_nil _ _ _ _, World.ownsRow_nil _ _ _ _, World.ownsRow_nil _ _ _ _⟩)
      have HBW0 := Aside0.mk (show Below wm.heap.size wm (wm.alloc (.cells #[.slice none 0 0, .slice none 0 0, .slice none 0 0, .slice none 0 0] 76)) from below_alloc (Below.refl _ _) _)
      obtain ⟨gb, hgbe⟩ : ∃ gb, gb = wm.heap.size := ⟨_, rfl⟩
      rw [← hgbe] at HBK0
      have HGB := Aside0.mk (And.intro hgbe hwmb)
      rw [← hgbe]
      clear hgb hgbe hwmb
      go_loopw [24] (fun v24 wr => ∃ (i : Nat) (ro re : Value) (vo : List Value), i ≤ NQ ∧ v24 = .int .i64 (i : Int) ∧ Aside0 (Book wr w1.heap.size gb ro (.slice none 0 0) re (.slice none 0 0) vo [] (vs.take i) []) ∧ Aside0 (VOk wm w1.heap.size OT f i vo) ∧ Aside0 (Below wm.heap.size wm wr) ∧ Aside0 (∀ q, ro.ownBlock = some q ∨ re.ownBlock = some q → wm.heap.size ≤ q)) (fun v24 _ => NQ + 1 - (intOf v24).toNat)
      case atStart => exact ⟨0, _, _, _, Nat.zero_le _, rfl, HBK0, ⟨VOk.zero⟩, HBW0, ⟨fun q hq => by rcases hq with hq | hq <;> simp [Value.ownBlock] at hq⟩⟩
      case round =>
        obtain ⟨i, ro, re, vo, hi, rfl, HBK, HVO, HBW, HRO⟩ := hrel
        by_cases hin : i < NQ
        · have hd3 : decide (i < NQ) = true := decide_eq_true hin
          have hd4 : decide ((i : Int) < (NQ : Int)) = true := decide_eq_true (by omega)
          have howT := HOT.out
          have howW := HOW.out
          rw [← HNQ.out.1] at howT howW
          obtain ⟨gT, cT', curT, hrT, _, _, _, _⟩ := own_some howT (by omega)
          injection hrT with hAT _ hcT
          obtain rfl := hcT
          obtain ⟨gW, cW', curW, hrW, _, _, _, _⟩ := own_some howW (by omega)
          injection hrW with hAW _ hcW
          obtain rfl := hcW
          have hATe : AT = some ⟨gT, 0, none⟩ := hAT
          have hAWe : AW = some ⟨gW, 0, none⟩ := hAW
          rw [hATe] at howT
          rw [hAWe] at howW
          obtain ⟨r, hr⟩ : ∃ r, r = i % HF0 := ⟨_, rfl⟩
          have hrH : r < HF0 := by rw [hr]; exact Nat.mod_lt _ (by have := HNQ.out; omega)
          have hQi : i < QQ.length := by rw [← HNQ.out.1]; exact hin
          obtain ⟨L, hL⟩ : ∃ L, QQ[i]? = some L := ⟨_, List.getElem?_eq_getElem hQi⟩
          have hLr : QQ[r]? = some L := by
            have h9 := HQM.out i hQi
            rw [← HNQ.out.2.1, ← hr, hL] at h9
            exact h9.symm
          obtain ⟨u1, hu1, hS1⟩ := HVS.out i L hL
          obtain ⟨u2, hu2, hS2⟩ := HWS.out i L hL
          obtain ⟨u3, hu3, hS3⟩ := HWS.out r L hLr
          obtain ⟨A1, c1, rfl⟩ := Kd.S_slice hS1
          obtain ⟨A2, c2, rfl⟩ := Kd.S_slice hS2
          obtain ⟨A3, c3, rfl⟩ := Kd.S_slice hS3
          have hfew : few L := HQF.out L (List.mem_of_getElem? hL)
          obtain ⟨raw, os, hraw1, hraw2, hraw3, hraw4, hraw5, hraw6⟩ := list_brings hS1 hfew
          obtain ⟨q11, q12, q13⟩ := Kd.S_reads' hS1
          obtain ⟨q21, q22, q23⟩ := Kd.S_reads' hS2
          obtain ⟨q31, q32, q33⟩ := Kd.S_reads' hS3
          obtain ⟨n1, hn1⟩ : ∃ n1, n1 = L.length := ⟨_, rfl⟩
          rw [← hn1] at hu1 hu2 hu3 hraw1 hraw2 hraw3 q12 q13 q22 q23 q32 q33
          have HLC := Aside0.mk (And.intro q12 (And.intro q22 q32))
          have HRD := Aside0.mk (And.intro q13 (And.intro q23 q33))
          have HRAW := Aside0.mk (And.intro hraw1 (And.intro hraw2 (And.intro hraw3 (And.intro hraw4 (And.intro hraw5 hraw6)))))
          have HN1 := Aside0.mk hn1
          have HFEWL := Aside0.mk hfew
          have hn64 : n1 ≤ 64 := by rw [hn1]; exact hfew.1
          have HU1 := Aside0.mk hu1
          have e1 : wr.drew.cell? ⟨gT, i, none⟩ = some (.slice A1 n1 c1) := pw_cell_below HBW.out (own_cell howT hu1)
          have e2 : wr.drew.cell? ⟨gW, i, none⟩ = some (.slice A2 n1 c2) := pw_cell_below HBW.out (own_cell howW hu2)
          have e3 : wr.drew.cell? ⟨gW, r, none⟩ = some (.slice A3 n1 c3) := pw_cell_below HBW.out (own_cell howW hu3)
          have HE1 := Aside0.mk (own_cell howT hu1)
          have hrNQ : r < NQ := by have := HNQ.out; omega
          have hrem1 : (i : Int) % (HF0 : Int) = (r : Int) := by rw [hr]; rfl
          have hrem2 : Int.tmod (i : Int) (HF0 : Int) = (r : Int) := by rw [Int.tmod_eq_emod_of_nonneg (by omega)]; exact hrem1
          have hh0 : (HF0 == 0) = false := beq_eq_false_iff_ne.mpr (by have := HNQ.out; omega)
          have hh1 : ((HF0 : Int) == 0) = false := beq_eq_false_iff_ne.mpr (by have := HNQ.out; omega)
          have hh2 : (HF0 = 0) = False := eq_false (by have := HNQ.out; omega)
          obtain rfl := hATe
          obtain rfl := hAWe
          clear hfew hraw1 hraw2 hraw3 hraw4 hraw5 hraw6 q11 q12 q13 q21 q22 q23 q31 q32 q33 hS1 hS2 hS3 hu1 hu2 hu3 hL hLr hr hn1 howT howW hQi
          have HBD := Aside0.mk (show Below wm.heap.size wm wr.drew ∧ wm.heap.size ≤ wr.drew.heap.size from ⟨below_drew HBW.out, HBW.out.size⟩)
          go_wp2
          refine start_ (n := 24) (S := fun w' => w'.cell? ⟨gT, i, none⟩ = some (.slice A1 n1 c1) ∧ w'.cell? ⟨gW, i, none⟩ = some (.slice A2 n1 c2) ∧ w'.cell? ⟨gW, r, none⟩ = some (.slice A3 n1 c3)) (ds := []) #[false, false, false, false, false, false, false, false, false, false, false, false, false, false, false, false, false, false, false, false, false, false, false, false] (by kernel_rfl) rfl rfl ⟨e1, e2, e3⟩ (fun hHeld => ?_)
          refine with_tabW rg9.tab40 rg9.bits40 (fun HT_ HW_ => ?_)
          refine pure_ (i := 0) (N := some 149) (v := ?_) (a' := ?_) #[true, false, false, false, false, false, false, false, false, false, false, false, false, false, false, false, false, false, false, false, false, false, false, false] rfl rfl (any_of HT_.out (by kernel_rfl)) (fun _ _ _ h => h) (Or.inl ⟨by rfl, ?_⟩) ?_ ?_
          rotate_left
          · intro w'
            go_simp
            with_reducible rfl
          rotate_left
          · simp only [Act.put, List.setIfInBounds_toArray, List.set_cons_zero, List.set_cons_succ, i64_w, i32_w]
            rfl
          refine pure_ (i := 1) (N := some 150) (v := ?_) (a' := ?_) #[true, true, false, false, false, false, false, false, false, false, false, false, false, false, false, false, false, false, false, false, false, false, false, false] rfl rfl (any_of HT_.out (by kernel_rfl)) (fun _ _ _ h => h) (Or.inl ⟨by rfl, ?_⟩) ?_ ?_
          rotate_left
          · intro w'
            go_simp
            with_reducible rfl
          rotate_left
          · simp only [Act.put, List.setIfInBounds_toArray, List.set_cons_zero, List.set_cons_succ, i64_w, i32_w]
            rfl
          refine pure_ (i := 2) (N := some 151) (v := ?_) (a' := ?_) #[true, true, true, false, false, false, false, false, false, false, false, false, false, false, false, false, false, false, false, false, false, false, false, false] rfl rfl (any_of HT_.out (by kernel_rfl)) (fun _ _ _ h => h) (Or.inl ⟨by rfl, ?_⟩) ?_ ?_
          rotate_left
          · intro w'
            go_simp
            with_reducible rfl
          rotate_left
          · simp only [Act.put, List.setIfInBounds_toArray, List.set_cons_zero, List.set_cons_succ, i64_w, i32_w]
            rfl
          refine pure_ (i := 4) (N := some 153) (v := ?_) (a' := ?_) #[true, true, true, false, true, false, false, false, false, false, false, false, false, false, false, false, false, false, false, false, false, false, false, false] rfl rfl (any_of HT_.out (by kernel_rfl)) (fun _ _ _ h => h) (Or.inl ⟨by rfl, ?_⟩) ?_ ?_
          rotate_left
          · intro w'
            go_simp
            with_reducible rfl
          rotate_left
          · simp only [Act.put, List.setIfInBounds_toArray, List.set_cons_zero, List.set_cons_succ, i64_w, i32_w]
            rfl
          refine pure_ (i := 5) (N := some 154) (v := ?_) (a' := ?_) #[true, true, true, false, true, true, false, false, false, false, false, false, false, false, false, false, false, false, false, false, false, false, false, false] rfl rfl (any_of HT_.out (by kernel_rfl)) (fun _ _ _ h => h) (Or.inl ⟨by rfl, ?_⟩) ?_ ?_
          rotate_left
          · intro w'
            go_simp
            with_reducible rfl
          rotate_left
          · simp only [Act.put, List.setIfInBounds_toArray, List.set_cons_zero, List.set_cons_succ, i64_w, i32_w]
            rfl
          refine pure_ (i := 6) (N := some 155) (v := ?_) (a' := ?_) #[true, true, true, false, true, true, true, false, false, false, false, false, false, false, false, false, false, false, false, false, false, false, false, false] rfl rfl (any_of HT_.out (by kernel_rfl)) (fun _ _ _ h => h) (Or.inl ⟨by rfl, ?_⟩) ?_ ?_
          rotate_left
          · intro w'
            go_simp
            with_reducible rfl
          rotate_left
          · simp only [Act.put, List.setIfInBounds_toArray, List.set_cons_zero, List.set_cons_succ, i64_w, i32_w]
            rfl
          refine take_ (i := 3) (N := some 152) (v := ?_) (a' := ?_) #[true, true, true, true, true, true, true, false, false, false, false, false, false, false, false, false, false, false, false, false, false, false, false, false] rfl rfl (take_ofW HT_.out HW_.out (by kernel_rfl)) (fun _ _ _ h => h) (Or.inl ⟨by rfl, ?_⟩) hHeld ?_ ?_
          rotate_left
          · rintro w' ⟨s0, s1, s2⟩
            go_simp
            with_reducible rfl
          rotate_left
          · simp only [Act.put, List.setIfInBounds_toArray, List.set_cons_zero, List.set_cons_succ, i64_w, i32_w]
            rfl
          refine take_ (i := 7) (N := some 156) (v := ?_) (a' := ?_) #[true, true, true, true, true, true, true, true, false, false, false, false, false, false, false, false, false, false, false, false, false, false, false, false] rfl rfl (take_ofW HT_.out HW_.out (by kernel_rfl)) (fun _ _ _ h => h) (Or.inl ⟨by rfl, ?_⟩) hHeld ?_ ?_
          rotate_left
          · rintro w' ⟨s0, s1, s2⟩
            go_simp
            with_reducible rfl
          rotate_left
          · simp only [Act.put, List.setIfInBounds_toArray, List.set_cons_zero, List.set_cons_succ, i64_w, i32_w]
            rfl
          refine one_ (i := 8) (N := some 157) #[true, true, true, true, true, true, true, true, true, false, false, false, false, false, false, false, false, false, false, false, false, false, false, false] rfl rfl (one_of HT_.out (by kernel_rfl)) (by decide) (fun K hK => ?_)
          refine goes_ Try.func22 (by kernel_rfl) rfl #[.slice A1 n1 c1, .slice A2 n1 c2] (by rfl) rfl rfl (by simp only [List.map_toArray, List.map_cons, List.map_nil]; rfl) ?_
          with_reducible refine (sameAll_T L A1 A2 n1 c1 c2 _ HN1.out.symm (fun y hy => few_ops HFEWL.out y hy) (Nat.le_trans hn64 (by decide)) (Kd.C_below HRD.out.1 HBD.out.1) HLC.out.1 (Kd.C_below HRD.out.2.1 HBD.out.1) HLC.out.2.1).mono ?_
          rintro e w3 ⟨rfl, hb3⟩
          have HB3 := Aside0.mk hb3
          clear hb3
          refine ⟨_, rfl, ?_⟩
          refine hK.out _ _ ⟨pw_cell_below HB3.out e1, pw_cell_below HB3.out e2, pw_cell_below HB3.out e3⟩ (fun hHeld => ?_)
          clear hK K
          refine norm_ (a' := ?_) ?_ ?_
          rotate_left
          · show Act.put _ (some 157) _ = _
            simp only [Act.put, List.setIfInBounds_toArray, List.set_cons_zero, List.set_cons_succ, i64_w, i32_w]
            rfl
          refine pure_ (i := 9) (N := some 158) (v := ?_) (a' := ?_) #[true, true, true, true, true, true, true, true, true, true, false, false, false, false, false, false, false, false, false, false, false, false, false, false] rfl rfl (any_of HT_.out (by kernel_rfl)) (fun _ _ _ h => h) (Or.inl ⟨by rfl, ?_⟩) ?_ ?_
          rotate_left
          · intro w'
            go_simp
            with_reducible rfl
          rotate_left
          · simp only [Act.put, List.setIfInBounds_toArray, List.set_cons_zero, List.set_cons_succ, i64_w, i32_w]
            rfl
          refine pure_ (i := 10) (N := some 159) (v := ?_) (a' := ?_) #[true, true, true, true, true, true, true, true, true, true, true, false, false, false, false, false, false, false, false, false, false, false, false, false] rfl rfl (any_of HT_.out (by kernel_rfl)) (fun _ _ _ h => h) (Or.inl ⟨by rfl, ?_⟩) ?_ ?_
          rotate_left
          · intro w'
            go_simp
            with_reducible rfl
          rotate_left
          · simp only [Act.put, List.setIfInBounds_toArray, List.set_cons_zero, List.set_cons_succ, i64_w, i32_w]
            rfl
          refine pure_ (i := 11) (N := some 160) (v := ?_) (a' := ?_) #[true, true, true, true, true, true, true, true, true, true, true, true, false, false, false, false, false, false, false, false, false, false, false, false] rfl rfl (any_of HT_.out (by kernel_rfl)) (fun _ _ _ h => h) (Or.inl ⟨by rfl, ?_⟩) ?_ ?_
          rotate_left
          · intro w'
            go_simp
            with_reducible rfl
          rotate_left
          · simp only [Act.put, List.setIfInBounds_toArray, List.set_cons_zero, List.set_cons_succ, i64_w, i32_w]
            rfl
          refine pure_ (i := 12) (N := some 161) (v := ?_) (a' := ?_) #[true, true, true, true, true, true, true, true, true, true, true, true, true, false, false, false, false, false, false, false, false, false, false, false] rfl rfl (any_of HT_.out (by kernel_rfl)) (fun _ _ _ h => h) (Or.inl ⟨by rfl, ?_⟩) ?_ ?_
          rotate_left
          · intro w'
            go_simp
            with_reducible rfl
          rotate_left
          · simp only [Act.put, List.setIfInBounds_toArray, List.set_cons_zero, List.set_cons_succ, i64_w, i32_w]
            rfl
          refine pure_ (i := 13) (N := some 162) (v := ?_) (a' := ?_) #[true, true, true, true, true, true, true, true, true, true, true, true, true, true, false, false, false, false, false, false, false, false, false, false] rfl rfl (any_of HT_.out (by kernel_rfl)) (fun _ _ _ h => h) (Or.inl ⟨by rfl, ?_⟩) ?_ ?_
          rotate_left
          · intro w'
            go_simp
            with_reducible rfl
          rotate_left
          · simp only [Act.put, List.setIfInBounds_toArray, List.set_cons_zero, List.set_cons_succ, i64_w, i32_w]
            rfl
          refine pure_ (i := 15) (N := some 164) (v := ?_) (a' := ?_) #[true, true, true, true, true, true, true, true, true, true, true, true, true, true, false, true, false, false, false, false, false, false, false, false] rfl rfl (any_of HT_.out (by kernel_rfl)) (fun _ _ _ h => h) (Or.inl ⟨by rfl, ?_⟩) ?_ ?_
          rotate_left
          · intro w'
            go_simp
            with_reducible rfl
          rotate_left
          · simp only [Act.put, List.setIfInBounds_toArray, List.set_cons_zero, List.set_cons_succ, i64_w, i32_w]
            rfl
          refine pure_ (i := 16) (N := some 165) (v := ?_) (a' := ?_) #[true, true, true, true, true, true, true, true, true, true, true, true, true, true, false, true, true, false, false, false, false, false, false, false] rfl rfl (any_of HT_.out (by kernel_rfl)) (fun _ _ _ h => h) (Or.inl ⟨by rfl, ?_⟩) ?_ ?_
          rotate_left
          · intro w'
            go_simp
            with_reducible rfl
          rotate_left
          · simp only [Act.put, List.setIfInBounds_toArray, List.set_cons_zero, List.set_cons_succ, i64_w, i32_w]
            rfl
          refine pure_ (i := 17) (N := some 166) (v := ?_) (a' := ?_) #[true, true, true, true, true, true, true, true, true, true, true, true, true, true, false, true, true, true, false, false, false, false, false, false] rfl rfl (any_of HT_.out (by kernel_rfl)) (fun _ _ _ h => h) (Or.inl ⟨by rfl, ?_⟩) ?_ ?_
          rotate_left
          · intro w'
            go_simp
            with_reducible rfl
          rotate_left
          · simp only [Act.put, List.setIfInBounds_toArray, List.set_cons_zero, List.set_cons_succ, i64_w, i32_w]
            rfl
          refine pure_ (i := 18) (N := some 167) (v := ?_) (a' := ?_) #[true, true, true, true, true, true, true, true, true, true, true, true, true, true, false, true, true, true, true, false, false, false, false, false] rfl rfl (any_of HT_.out (by kernel_rfl)) (fun _ _ _ h => h) (Or.inl ⟨by rfl, ?_⟩) ?_ ?_
          rotate_left
          · intro w'
            go_simp
            with_reducible rfl
          rotate_left
          · simp only [Act.put, List.setIfInBounds_toArray, List.set_cons_zero, List.set_cons_succ, i64_w, i32_w]
            rfl
          refine pure_ (i := 19) (N := some 168) (v := ?_) (a' := ?_) #[true, true, true, true, true, true, true, true, true, true, true, true, true, true, false, true, true, true, true, true, false, false, false, false] rfl rfl (any_of HT_.out (by kernel_rfl)) (fun _ _ _ h => h) (Or.inl ⟨by rfl, ?_⟩) ?_ ?_
          rotate_left
          · intro w'
            go_simp
            with_reducible rfl
          rotate_left
          · simp only [Act.put, List.setIfInBounds_toArray, List.set_cons_zero, List.set_cons_succ, i64_w, i32_w]
            rfl
          refine take_ (i := 14) (N := some 163) (v := ?_) (a' := ?_) #[true, true, true, true, true, true, true, true, true, true, true, true, true, true, true, true, true, true, true, true, false, false, false, false] rfl rfl (take_ofW HT_.out HW_.out (by kernel_rfl)) (fun _ _ _ h => h) (Or.inl ⟨by rfl, ?_⟩) hHeld ?_ ?_
          rotate_left
          · rintro w' ⟨s0, s1, s2⟩
            go_simp
            with_reducible rfl
          rotate_left
          · simp only [Act.put, List.setIfInBounds_toArray, List.set_cons_zero, List.set_cons_succ, i64_w, i32_w]
            rfl
          refine take_ (i := 20) (N := some 169) (v := ?_) (a' := ?_) #[true, true, true, true, true, true, true, true, true, true, true, true, true, true, true, true, true, true, true, true, true, false, false, false] rfl rfl (take_ofW HT_.out HW_.out (by kernel_rfl)) (fun _ _ _ h => h) (Or.inl ⟨by rfl, ?_⟩) hHeld ?_ ?_
          rotate_left
          · rintro w' ⟨s0, s1, s2⟩
            go_simp
            with_reducible rfl
          rotate_left
          · simp only [Act.put, List.setIfInBounds_toArray, List.set_cons_zero, List.set_cons_succ, i64_w, i32_w]
            rfl
          refine one_ (i := 21) (N := some 170) #[true, true, true, true, true, true, true, true, true, true, true, true, true, true, true, true, true, true, true, true, true, true, false, false] rfl rfl (one_of HT_.out (by kernel_rfl)) (by decide) (fun K hK => ?_)
          refine goes_ Try.func22 (by kernel_rfl) rfl #[.slice A2 n1 c2, .slice A3 n1 c3] (by rfl) rfl rfl (by simp only [List.map_toArray, List.map_cons, List.map_nil]; rfl) ?_
          with_reducible refine (sameAll_T L A2 A3 n1 c2 c3 _ HN1.out.symm (fun y hy => few_ops HFEWL.out y hy) (Nat.le_trans hn64 (by decide)) (Kd.C_below HRD.out.2.1 (below_then HBD.out.1 HBD.out.2 HB3.out)) HLC.out.2.1 (Kd.C_below HRD.out.2.2 (below_then HBD.out.1 HBD.out.2 HB3.out)) HLC.out.2.2).mono ?_
          rintro e w4 ⟨rfl, hb4⟩
          have HB4 := Aside0.mk hb4
          clear hb4
          refine ⟨_, rfl, ?_⟩
          refine hK.out _ _ ⟨pw_cell_below HB4.out (pw_cell_below HB3.out e1), pw_cell_below HB4.out (pw_cell_below HB3.out e2), pw_cell_below HB4.out (pw_cell_below HB3.out e3)⟩ (fun hHeld => ?_)
          clear hK K
          refine norm_ (a' := ?_) ?_ ?_
          rotate_left
          · show Act.put _ (some 170) _ = _
            simp only [Act.put, List.setIfInBounds_toArray, List.set_cons_zero, List.set_cons_succ, i64_w, i32_w]
            rfl
          refine pure_ (i := 22) (N := some 171) (v := ?_) (a' := ?_) #[true, true, true, true, true, true, true, true, true, true, true, true, true, true, true, true, true, true, true, true, true, true, true, false] rfl rfl (any_of HT_.out (by kernel_rfl)) (fun _ _ _ h => h) (Or.inl ⟨by rfl, ?_⟩) ?_ ?_
          rotate_left
          · intro w'
            go_simp
            with_reducible rfl
          rotate_left
          · simp only [Act.put, List.setIfInBounds_toArray, List.set_cons_zero, List.set_cons_succ, i64_w, i32_w]
            rfl
          refine pure_ (i := 23) (N := some 172) (v := ?_) (a' := ?_) #[true, true, true, true, true, true, true, true, true, true, true, true, true, true, true, true, true, true, true, true, true, true, true, true] rfl rfl (any_of HT_.out (by kernel_rfl)) (fun _ _ _ h => h) (Or.inl ⟨by rfl, ?_⟩) ?_ ?_
          rotate_left
          · intro w'
            go_simp
            with_reducible rfl
          rotate_left
          · simp only [Act.put, List.setIfInBounds_toArray, List.set_cons_zero, List.set_cons_succ, i64_w, i32_w]
            rfl
          refine done_ (done_of HT_.out (by kernel_rfl)) ?_
          have hB34 : Below wr.heap.size wr w4 := below_then (below_then (below_drew (Below.refl _ _)) (Nat.le_refl _) HB3.out) (by exact HB3.out.size) HB4.out
          have HBW4 := Aside0.mk (HBW.out.trans (hB34.mono HBW.out.size))
          have HBK4 := Aside0.mk (HBK.out.step (W' := w4) (fun q hq => by rcases hq with ⟨cs, hq⟩ | ⟨cs, hq⟩ | ⟨cs, hq⟩ <;> exact hB34.block q (blk_lt hq)))
          have f1 : w4.cell? ⟨gT, i, none⟩ = some (.slice A1 n1 c1) := pw_cell_below HBW4.out HE1.out
          have HZ4 := Aside0.mk hB34.size
          clear hB34 e1 e2 e3 hrem1 hrem2 hh0 hh1 hh2
          go_wp2_with fail
          refine (takes_B HBK4.out (own_step HRAW.out.1 (fun q hq => HBW4.out.block q ((HRAW.out.1.lt q hq).2))) HRAW.out.2.1 (fun j hj => HRAW.out.2.2.1 j hj) HRAW.out.2.2.2.1 (Nat.le_trans HW.out.size HBW4.out.size) hn64 (by have := HVO.out.len; omega) (by rw [List.length_take]; omega)).mono ?_
          rintro e w5 ⟨⟨e5, rfl⟩, ro5, re5, hbk5, hf5, hro5, hre5⟩
          have HBW5 := Aside0.mk (show Below wm.heap.size wm w5 from HBW4.out.trans (hf5.below (B := wm.heap.size) (fun q hq _ => by
            rcases hq with rfl | hq | hq
            · rw [HGB.out.1]; exact Nat.le_refl _
            · exact HRO.out q (.inl hq)
            · exact HRO.out q (.inr hq)) HBW4.out.size))
          have HBK5 := Aside0.mk (show Book w5 w1.heap.size gb ro5 (.slice none 0 0) re5 (.slice none 0 0) (vo ++ os) [] (vs.take (i + 1)) [] by
            rw [List.take_add_one, HU1.out]
            exact hbk5)
          have HVO5 := Aside0.mk (HVO.out.step HRAW.out.2.2.2.2.1 HRAW.out.2.2.2.2.2 (by rw [HRAW.out.2.1]; exact hn64))
          have HRO5 := Aside0.mk (show ∀ q, ro5.ownBlock = some q ∨ re5.ownBlock = some q → wm.heap.size ≤ q from fun q hq => by
            rcases hq with hq | hq
            · rcases hro5 q hq with h | h
              · exact HRO.out q (.inl h)
              · exact Nat.le_trans HBW4.out.size h
            · rcases hre5 q hq with h | h
              · exact HRO.out q (.inr h)
              · exact Nat.le_trans HBW4.out.size h)
          clear hbk5 hf5 hro5 hre5 f1
          go_wp2
          go_roundw
          case rel => exact ⟨i + 1, ro5, re5, _, by omega, by go_num, HBK5, HVO5, HBW5, HRO5⟩
          case measure => simp [intOf]; omega
        · have hd3 : decide (i < NQ) = false := decide_eq_false hin
          have hd4 : decide ((i : Int) < (NQ : Int)) = false := decide_eq_false (by omega)
          have HBKF := Aside0.mk (show Book wr w1.heap.size gb ro (.slice none 0 0) re (.slice none 0 0) vo [] vs [] by
            have h9 := HBK.out
            rw [List.take_of_length_le (by rw [HVL.out.1, ← HNQ.out.1]; omega)] at h9
            exact h9)
          go_wp2_with fail
          refine (apart_B HBKF.out (fun j v hj => (HVO.out.raw v (List.mem_of_getElem? hj)).1.step (fun q hq => HBW.out.block q ((HVO.out.raw v (List.mem_of_getElem? hj)).1.lt q hq).2)) (fun j v hj => (HDV.out.2 j v hj).1.step (fun q hq => HBW.out.block q ((HDV.out.2 j v hj).1.lt q hq).2)) HVO.out.dist HDV.out.1 (by have := HVO.out.len; omega) (by rw [HVL.out.1, ← HNQ.out.1]; omega) (Nat.le_trans HW.out.size HBW.out.size)).mono ?_
          rintro e w5 ⟨rfl, ⟨rm5, rx5, mo5, me5, hg5⟩, hf5⟩
          have hch : ∀ q, q < wm.heap.size → ¬ OT q → w5.heap[q]? = wm.heap[q]? := fun q hq hno => (hf5.block q (Nat.lt_of_lt_of_le hq HBW.out.size) (fun h => by
            rcases h with h | ⟨j, v, hj, hb⟩ | ⟨j, v, hj, hb⟩
            · rw [h, HGB.out.1] at hq
              exact Nat.lt_irrefl _ hq
            · exact hno ((HVO.out.raw v (List.mem_of_getElem? hj)).2 q hb).1
            · exact hno ((HDV.out.2 j v hj).2 q hb).1)).trans (HBW.out.block q hq)
          have HR5 := Aside0.mk (RingIs_step HTRI.out.r (fun k hk hlt => hch k hlt (fun h => HTRI.out.tr k h hk)))
          have HS5 := Aside0.mk (Kd.S_step HTRI.out.w (fun k hk hlt => hch k hlt (fun h => HTRI.out.tw k h hk)))
          have HG5 := Aside0.mk hg5
          have HB5 := Aside0.mk (show Below w1.heap.size w1 w5 from (HW.out.trans (HBW.out.mono HW.out.size)).trans (hf5.below (B := w1.heap.size) (fun q hq _ => by
            rcases hq with h | ⟨j, v, hj, hb⟩ | ⟨j, v, hj, hb⟩
            · rw [h, HGB.out.1]
              exact HGB.out.2
            · exact ((HVO.out.raw v (List.mem_of_getElem? hj)).1.lt q hb).1
            · exact ((HDV.out.2 j v hj).1.lt q hb).1) (Nat.le_trans HW.out.size HBW.out.size)))
          obtain ⟨w8l, f8, how8, hwl8, _, hw8⟩ := open_told HS5.out
          obtain ⟨u8, hu8, hS8⟩ := hw8 0 s.l HQ0.out
          obtain ⟨A8, c8, rfl⟩ := Kd.S_slice hS8
          rw [← HNQ.out.1] at how8
          obtain ⟨gW, cW', curW, hrW, _, _, _, _⟩ := own_some how8 (by have := HNQ.out; omega)
          injection hrW with hAW _ hcW
          obtain rfl := hcW
          have hAWe : AW = some ⟨gW, 0, none⟩ := hAW
          rw [hAWe] at how8
          have ew := own_cell how8 hu8
          rw [← HFL.out.2] at ew hS8
          have HEW := Aside0.mk ew
          obtain ⟨q81, q82, q83⟩ := Kd.S_reads' hS8
          have HQ8 := Aside0.mk (And.intro q82 q83)
          obtain rfl := hAWe
          clear hg5 hf5 hch how8 hwl8 hw8 hu8 hS8 ew q81 q82 q83
          go_wp2_with fail
          refine (all_R HR5.out).mono ?_
          rintro e w6 ⟨A6, n6, c6, rfl, hn6, hl6, hS6, hb6⟩
          have hn6' : n6 = ln := by rw [hn6]; exact HFL.out.2.symm
          have ew6 : w6.cell? ⟨gW, 0, none⟩ = some (.slice A8 ln c8) := pw_cell_below hb6 HEW.out
          have HS6 := Aside0.mk hS6
          have HB6 := Aside0.mk hb6
          have HL6 := Aside0.mk hl6
          subst hn6'
          have HNQ0 := Aside0.mk (show 0 < NQ by have := HNQ.out; omega)
          have hnq0 : 0 < NQ := HNQ0.out
          clear hn6 hl6 hS6 hb6
          go_wp2_with fail
          refine (sameAll_T s.l A6 A8 n6 c6 c8 _ HFL.out.2.symm HSOK.out.2.2.2.2.2 (Nat.le_trans hln64 (by decide)) (by obtain ⟨q1, q2, q3⟩ := Kd.S_reads' HS6.out; rw [← HFL.out.2] at q3; exact q3) HL6.out (by have h9 := Kd.C_below HQ8.out.2 HB6.out; rw [← HFL.out.2] at h9; exact h9) HQ8.out.1).mono ?_
          rintro e w7 ⟨rfl, hb7⟩
          have HR7 := Aside0.mk (RingIs_below HR5.out (below_step HB6.out hb7))
          have HG7 := Aside0.mk (HG5.out.below (below_step HB6.out hb7))
          have HB7 := Aside0.mk (HB5.out.trans ((below_step HB6.out hb7).mono HB5.out.size))
          clear hb7 ew6
          go_wp2_with fail
          refine (last_R HR7.out).mono ?_
          rintro e w8 ⟨rfl, ⟨⟨m8, rfl⟩⟩⟩
          obtain ⟨LA, hLA⟩ : ∃ LA, LA = s.la := ⟨_, rfl⟩
          have hLA2 : LA ≤ 2147483647 := by rw [hLA]; exact HSOK.out.2.2.2.2.1
          rw [← hLA]
          have HLA := Aside0.mk hLA
          have HR8 := Aside0.mk (RingIs_below HR7.out (pw_below_drewN (Below.refl w7.heap.size w7) m8))
          have HG8 := Aside0.mk (HG7.out.below (pw_below_drewN (Below.refl w7.heap.size w7) m8))
          have HB8 := Aside0.mk (pw_below_drewN HB7.out m8)
          obtain ⟨w8, hw8⟩ : ∃ w8, w8 = w7.drewN m8 := ⟨_, rfl⟩
          rw [← hw8] at HR8 HG8 HB8 ⊢
          clear hw8 hLA
          go_wp2_with fail
          have hbo : (w8.alloc (.cells (cells5 o4).toArray 55)).heap[w8.heap.size]? = some (.cells (cells5 o4).toArray 55) := heap_alloc_new w8 _
          have hBo : Below w8.heap.size w8 (w8.alloc (.cells (cells5 o4).toArray 55)) := below_alloc (Below.refl _ _) _
          have hRo : RingIs (w8.alloc (.cells (cells5 o4).toArray 55)) w1.heap.size (fun _ => True) (some b) s := RingIs_mono (RingIs_below HR8.out hBo) (fun _ _ => trivial)
          have hbb : b < w8.heap.size := by
            obtain ⟨_, E, hA, _⟩ := HR8.out
            obtain ⟨C, hC, _⟩ := RingAt_blk hA
            exact blk_lt hC
          have hlive : Live (w8.alloc (.cells (cells5 o4).toArray 55)) (some b) (some ⟨w8.heap.size, 0, none⟩) 1 [o4] := fun W' hf => one_reads (hf.blk hbo (fun hq => by have : b = w8.heap.size := Option.some.inj hq; omega))
          refine (append_R (p := some b) hRo ⟨(LA : Int) + 1, s.lv, 0, 0, 0, [o4]⟩ (some ⟨w8.heap.size, 0, none⟩) 1 1 rfl hlive (by show 1 ≤ 2513169434843; decide) (fun _ _ => trivial)).mono ?_
          rintro e w9 ⟨rfl, hr9, hf9⟩
          have HR9 := Aside0.mk hr9
          have HG9 := Aside0.mk ((HG8.out.below hBo).own1 hRo hf9)
          have HB9 := Aside0.mk (show Below w1.heap.size w1 w9 from (HB8.out.trans (hBo.mono HB8.out.size)).trans (hf9.below (B := w1.heap.size) (fun q hq _ => by have : b = q := Option.some.inj hq; rw [← this]; exact (RingIs_base hRo).1) (Nat.le_trans HB8.out.size hBo.size)))
          clear hbo hBo hRo hbb hlive hr9 hf9
          go_wp2_with fail
          refine (cut_R (p := some b) (LA : Int) HR9.out).mono ?_
          rintro e w10 ⟨rfl, hr10, hf10⟩
          have HG10 := Aside0.mk (HG9.out.own1 HR9.out hf10)
          have HB10 := Aside0.mk (show Below w1.heap.size w1 w10 from HB9.out.trans (hf10.below (B := w1.heap.size) (fun q hq _ => by have : b = q := Option.some.inj hq; rw [← this]; exact (RingIs_base HR9.out).1) HB9.out.size))
          clear hr10 hf10
          go_wp2_with fail
          refine (marks_G HG10.out).mono ?_
          rintro e w11 ⟨rfl, hb11⟩
          have HB11 := Aside0.mk (show Below w.heap.size w w11 from HB.out.trans ((HB10.out.trans (hb11.mono HB10.out.size)).mono HB.out.size))
          clear hb11
          go_wp2
          go_ret
          exact ⟨rfl, HB11.out⟩
end Go.Proofs.Ytcbejpmmlcdhnaa.PW
namespace Go.Proofs.Ytcbejpmmlcdhnaa.PW.Gt
open Go.RowKit Go.Proofs.YtcbejpmmlcdhnaaW.PrintWords Go.Proofs.YtcbejpmmlcdhnaaW.PrintLast Go.Proofs.YtcbejpmmlcdhnaaW.PrintMore
set_option linter.unusedVariables false
set_option linter.unusedSimpArgs false
def rg9.T40 : Bool × List (List Nat × List Nat) := (true, [([], []), ([], []), ([0, 1], [0, 1]), ([2], [2]), ([], []), ([], []), ([4, 5], [4, 5]), ([6], [6]), ([3, 7], [3, 7]), ([8], [8]), ([9, 8], [9]), ([10], [10]), ([10], [10]), ([11, 12, 10], [10, 11, 12]), ([13, 10], [10, 13]), ([10], [10]), ([10], [10]), ([10], [10]), ([16, 17, 10], [10, 16, 17]), ([15, 18, 10], [10, 15, 18]), ([19, 10], [10, 19]), ([14, 20, 10, 10], [10, 14, 20]), ([21, 10], [10, 21]), ([10, 22], [10, 22])])
def rg9.B40 : List Nat := [0, 0, 3, 7, 0, 0, 48, 112, 255, 511, 1023, 2047, 2047, 8191, 16383, 2047, 2047, 2047, 198655, 493567, 1017855, 2097151, 4194303, 8388607]
theorem rg9.tab40 : rtab .any (opsOf Try.f9 40) = rg9.T40 := by kernel_rfl
theorem rg9.bits40 : waitsOk rg9.T40.2 rg9.B40 = true := by kernel_rfl
set_option maxHeartbeats 64000000 in
set_option maxRecDepth 100000 in
theorem ringIsNew_gt (room n : Nat) (A0 : Option Addr) (q0 c0 : Nat) (ms0 : List Int) (w : World) (h1 : 1 ≤ room) (h2 : room ≤ 64) (hn : n ≤ 100) (hq : ms0.length = q0) (hC : Kd.C (Kd.int .i64) w A0 q0 ms0) (hqc : q0 ≤ c0) (hbig : 24 < q0) :
    Calls Try.prog 9 #[.int .i64 (room : Int), .int .i64 (n : Int), .slice A0 q0 c0] w fun e w' => e = .returned (.bool true) ∧ Below w.heap.size w w' := by
  obtain ⟨nm, hnm⟩ : ∃ nm, nm = 24 := ⟨_, rfl⟩
  obtain ⟨ms, hms⟩ : ∃ ms, ms = ms0.take nm := ⟨_, rfl⟩
  have hml : ms.length = nm := by rw [hms, List.length_take]; omega
  have hCm : Kd.C (Kd.int .i64) w A0 nm ms := by
    have h9 := Kd.C_take (m := nm) (by rw [hq]; exact hC) (by omega)
    rw [← hms, hml] at h9
    exact h9
  have hcut : ∀ W, (Instr.slice 70 (.slice A0 q0 c0) none (some (.int .i64 24)) none).run Try.prog W = .ok (.slice A0 nm c0) W := by
    intro W
    obtain ⟨i0, hi0, hz⟩ := Option.map_eq_some_iff.1 info3
    have := cut_to (P := Try.prog) 70 3 .i64 Try.underlying70 hi0 A0 q0 c0 24 (by omega) (by omega) hqc W
    rw [hnm]
    exact this
  have hd24 : decide (24 < q0) = true := decide_eq_true hbig
  have hd24i : decide ((24 : Int) < (q0 : Int)) = true := decide_eq_true (by omega)
  have hnm24 : nm ≤ 24 := by omega
  clear hms hnm hbig hq hC
  have HML := Aside0.mk hml
  have HCM := Aside0.mk hCm
  have h64 : ∀ k : Nat, k ≤ 64 → True := fun _ _ => trivial
  clear hml hCm h64
  have hr1 : decide ((room : Int) < 1) = false := decide_eq_false (by omega)
  have hr2 : decide ((64 : Int) < (room : Int)) = false := decide_eq_false (by omega)
  have hr3 : decide ((100 : Int) < (n : Int)) = false := decide_eq_false (by omega)
  have hr4 : decide (room < 1) = false := decide_eq_false (by omega)
  have hr5 : decide (64 < room) = false := decide_eq_false (by omega)
  have hr6 : decide (100 < n) = false := decide_eq_false (by omega)
  go_enter Try.func9, Try.ntmps9
  go_wp2_with fail
  refine (begins_R w).mono ?_
  rintro e w1 ⟨rfl, hb⟩
  have HB := Aside0.mk hb
  clear hb
  go_wp2_with fail
  refine (filled_R w1 room n h1 h2 (by omega)).mono ?_
  rintro e w2 ⟨rfl, hr, hb⟩
  obtain ⟨s, hs⟩ : ∃ s, s = fillS room n := ⟨_, rfl⟩
  obtain ⟨b, hb1⟩ : ∃ b, b = w1.heap.size := ⟨_, rfl⟩
  rw [← hs] at hr
  have HFEW := Aside0.mk (show few s.l by rw [hs]; exact few_fill room n h2)
  have HSOK := Aside0.mk hr.1
  have HTRI := Aside0.mk (show Tri w2 w1.heap.size (fun _ => False) (fun _ => False) (fun k => True ∧ k < w2.heap.size) b s (.slice none 0 0) (.slice none 0 0) [] [] from
    ⟨Kd.S_nil _ _ _ _ _, Kd.S_nil _ _ _ _ _, by rw [hb1]; exact RingIs_bound hr, fun k h => h.elim, fun k h => h.elim, fun k h => h.elim, fun k h => h.elim, fun k h => h.elim, fun k h => h.2⟩)
  have HB2 := Aside0.mk hb
  rw [← hb1]
  obtain ⟨fl, hfl⟩ : ∃ fl, fl = s.fl := ⟨_, rfl⟩
  have hfl100 : fl ≤ 100 := by rw [hfl, hs]; show n - room ≤ 100; omega
  obtain ⟨ln, hln⟩ : ∃ ln, ln = s.l.length := ⟨_, rfl⟩
  have hln64 : ln ≤ 64 := by rw [hln]; exact HFEW.out.1
  have HFL := Aside0.mk (And.intro hfl hln)
  obtain ⟨PS, hPS⟩ : ∃ PS, PS = pass s ms := ⟨_, rfl⟩
  have HPS := Aside0.mk hPS
  have HPL := Aside0.mk (show PS.length = 1 + nm + ln by rw [hPS, pass_len, HML.out, hln])
  obtain ⟨OR, hOR⟩ : ∃ OR : Nat → Prop, OR = (fun k => True ∧ k < w2.heap.size) := ⟨_, rfl⟩
  rw [← hOR] at HTRI
  clear hr hb hb1 hs hfl hln hPS hOR
  go_wp2
  go_loopw [9, 10, 11, 12, 13, 14, 15, 16, 17, 18, 19, 20, 21] (fun v9 v10 v11 v12 v13 v14 v15 v16 v17 v18 v19 v20 v21 wr => ∃ (k : Nat) (OT OW : Nat → Prop) (vT vW : Value), k ≤ 2 ∧ vT = v9 ∧ vW = v10 ∧ v11 = .int .i64 (k : Int) ∧ Aside0 (Tri wr w1.heap.size OT OW OR b s vT vW (List.replicate k PS).flatten (List.replicate k PS).flatten) ∧ Aside0 (Below w1.heap.size w1 wr)) (fun _ _ v11 _ _ _ _ _ _ _ _ _ _ _ => 3 - (intOf v11).toNat)
  case atStart => exact ⟨0, _, _, _, _, Nat.zero_le _, rfl, rfl, rfl, HTRI, HB2⟩
  case round =>
    obtain ⟨k, OT, OW, vT, vW, hk, rfl, rfl, rfl, HTRI, HW⟩ := hrel
    by_cases hlt : k < 2
    · have hd1 : decide (k < 2) = true := decide_eq_true hlt
      have hd2 : decide ((k : Int) < 2) = true := decide_eq_true (by omega)
      obtain ⟨RP, hRP⟩ : ∃ RP, RP = (List.replicate k PS).flatten := ⟨_, rfl⟩
      rw [← hRP] at HTRI
      have HRP := Aside0.mk hRP
      have HRL := Aside0.mk (show RP.length ≤ 178 by
        rw [hRP, List.length_flatten, List.map_replicate, List.sum_replicate_nat, HPL.out]
        have : k * (1 + nm + ln) ≤ 2 * 89 := Nat.mul_le_mul hk (by omega)
        omega)
      clear hRP
      go_wp2_with fail
      refine (all_R HTRI.out.r).mono ?_
      rintro e w3 ⟨AL, nL, cL, rfl, hnL, hlc, hSL, hb3⟩
      obtain rfl : nL = ln := by rw [hnL]; exact HFL.out.2.symm
      have HSL := Aside0.mk hSL
      have HB3 := Aside0.mk hb3
      have HW3 := Aside0.mk (HW.out.trans (hb3.mono HW.out.size))
      have HSZ := Aside0.mk HW.out.size
      clear hnL hSL hb3
      go_wp2_with (with_reducible refine stop_append rfl ?_)
      refine told_append (w0 := w1) rfl (.tmp 68) (.tmp 70) rfl HTRI.out HB3.out HSL.out rfl rfl HW3.out HSZ.out (by have := HRL.out; omega) ?_
      rintro vT1 w4 ⟨OT1, ht4⟩ hg4 hlt4 hB4
      have HT4 := Aside0.mk ht4
      have HW4 := Aside0.mk hB4
      have HSL4 := Aside0.mk (show Kd.S k33 33 w4 wr.heap.size (fun k => wr.heap.size ≤ k) (.slice AL nL cL) s.l from Kd.S_grown (Kd.S_mono (Kd.S_bound HSL.out) (fun k hk => hk.2.1)) hg4 (fun k hk e => by have := hlt4 k e.symm; omega))
      clear ht4 hg4 hlt4 hB4
      go_wp2_with fail
      refine (twins_T s.l HFEW.out AL nL cL w4 HFL.out.2.symm (by obtain ⟨q1, q2, q3⟩ := Kd.S_reads' HSL4.out; rw [← q1] at q3; exact q3) hlc).mono ?_
      rintro e w5 ⟨A5, c5, rfl, hS5, hb5⟩
      have HS5 := Aside0.mk hS5
      have HB5 := Aside0.mk hb5
      have HW5 := Aside0.mk (HW4.out.trans (hb5.mono HW4.out.size))
      clear hS5 hb5
      go_wp2_with (with_reducible refine stop_append rfl ?_)
      refine was_append (w0 := w1) rfl (.tmp 72) (.tmp 75) rfl HT4.out HB5.out HS5.out rfl rfl HW5.out HW4.out.size (by have := HRL.out; omega) ?_
      rintro vW1 w6 ⟨OW1, ht6⟩ hB6
      have HT6 := Aside0.mk ht6
      have HW6 := Aside0.mk hB6
      clear ht6 hB6
      go_wp2_with fail
      refine (floor_R HT6.out.r).mono ?_
      rintro e w7 ⟨rfl, ⟨⟨m7, rfl⟩⟩⟩
      rw [← HFL.out.1]
      have HT7 := Aside0.mk (HT6.out.below (pw_below_drewN (Below.refl w6.heap.size w6) m7))
      have HW7 := Aside0.mk (show Below w1.heap.size w1 (w6.drewN m7) from pw_below_drewN HW6.out m7)
      obtain ⟨w7, hw7⟩ : ∃ w7, w7 = w6.drewN m7 := ⟨_, rfl⟩
      rw [← hw7] at HT7 HW7 ⊢
      clear hw7 HT6 HW6 HT4 HW4 HSL4 HS5 HB5 HW5 HSL HB3 HW3 HTRI HW HSZ
      go_wp2
      obtain ⟨wo, hwo⟩ : ∃ wo, wo = wr := ⟨_, rfl⟩
      go_loopw [9, 10, 16, 17, 18] (fun v9 v10 v16 v17 v18 wr => ∃ (i : Nat) (OT OW : Nat → Prop) (vT vW : Value), i ≤ nm ∧ vT = v9 ∧ vW = v10 ∧ v16 = .int .i64 (i : Int) ∧ Aside0 (Tri wr w1.heap.size OT OW OR b s vT vW (RP ++ [s.l] ++ (List.range i).map (aftL s ms)) (RP ++ [s.l] ++ (List.range i).map (aftL s ms))) ∧ Aside0 (Below w1.heap.size w1 wr)) (fun _ _ v16 _ _ _ => nm + 1 - (intOf v16).toNat)
      case atStart => exact ⟨0, _, _, _, _, Nat.zero_le _, rfl, rfl, rfl, by rw [List.range_zero, List.map_nil, List.append_nil]; exact HT7, HW7⟩
      case round =>
        obtain ⟨i, OT, OW, vT, vW, hi, rfl, rfl, rfl, HTRI, HW⟩ := hrel
        by_cases hin : i < nm
        · have hd3 : decide (i < nm) = true := decide_eq_true hin
          have hd4 : decide ((i : Int) < (nm : Int)) = true := decide_eq_true (by omega)
          obtain ⟨adm, cm, hAm, _, hKm, hcm⟩ := Kd.C_get HCM.out (0 : Int) (i : Int) (by omega) (by omega)
          subst hAm
          obtain ⟨mi, hmi⟩ : ∃ mi : Int, mi = ms.getD i 0 := ⟨_, rfl⟩
          have hcm0 : w.cell? (adm.add i) = some (.int .i64 mi) := by
            rw [Int.toNat_natCast] at hKm hcm
            rw [hmi]
            have hc2 : cm = [.int .i64 (ms.getD i 0)] := hKm
            have h9 := hcm 0 (.int .i64 (ms.getD i 0)) (by rw [hc2]; rfl)
            exact (show w.cell? (adm.add (i * 1 + 0)) = _ from h9) ▸ (by rw [Nat.mul_one, Nat.add_zero])
          have HMI := Aside0.mk hmi
          clear hKm hcm hmi
          have cM : wr.cell? (adm.add i) = some (.int .i64 mi) := pw_cell_below (HB.out.trans (HW.out.mono HB.out.size)) hcm0
          obtain ⟨t3, ht3⟩ : ∃ t3 : Nat, t3 = fl + i % 3 := ⟨_, rfl⟩
          have hib : i ≤ 24 := by omega
          go_wp2_with fail
          rw [show (fl : Int) + (i : Int) % 3 = (t3 : Int) by omega]
          refine (after_R HTRI.out.r (t3 : Int) mi).mono ?_
          rintro e w3 ⟨A3, c3, rfl, hS3, hl3, hb3⟩
          obtain ⟨L, hL⟩ : ∃ L, L = aftL s ms i := ⟨_, rfl⟩
          have hLe : s.after (t3 : Int) mi = L := by rw [hL, ht3, HFL.out.1, HMI.out]; rfl
          rw [hLe] at hS3 hl3 ⊢
          obtain ⟨nL, hnL⟩ : ∃ nL, nL = L.length := ⟨_, rfl⟩
          rw [← hnL] at hS3 hl3 ⊢
          have HL := Aside0.mk (show few L by rw [hL]; exact few_after HFEW.out _ _)
          have HLE := Aside0.mk (And.intro hL hnL)
          have HS3 := Aside0.mk hS3
          have HB3 := Aside0.mk hb3
          have HW3 := Aside0.mk (HW.out.trans (hb3.mono HW.out.size))
          have HSZ := Aside0.mk HW.out.size
          have HPT := Aside0.mk (show (RP ++ [s.l] ++ (List.range i).map (aftL s ms)).length ≤ 300 by simp; have := HRL.out; omega)
          clear hLe hL hnL hS3 hb3 ht3
          go_wp2_with (with_reducible refine stop_append rfl ?_)
          refine told_append (w0 := w1) rfl (.tmp 101) (.tmp 103) rfl HTRI.out HB3.out HS3.out rfl rfl HW3.out HSZ.out (by have := HPT.out; omega) ?_
          rintro vT1 w4 ⟨OT1, ht4⟩ hg4 hlt4 hB4
          have HT4 := Aside0.mk ht4
          have HW4 := Aside0.mk hB4
          have HSL4 := Aside0.mk (show Kd.S k33 33 w4 wr.heap.size (fun k => wr.heap.size ≤ k) (.slice A3 nL c3) L from Kd.S_grown (Kd.S_mono (Kd.S_bound HS3.out) (fun k hk => hk.2.1)) hg4 (fun k hk e => by have := hlt4 k e.symm; omega))
          clear ht4 hg4 hlt4 hB4
          go_wp2_with fail
          refine (twins_T L HL.out A3 nL c3 w4 HLE.out.2.symm (by obtain ⟨q1, q2, q3⟩ := Kd.S_reads' HSL4.out; rw [← q1] at q3; exact q3) hl3).mono ?_
          rintro e w5 ⟨A5, c5, rfl, hS5, hb5⟩
          have HS5 := Aside0.mk hS5
          have HB5 := Aside0.mk hb5
          have HW5 := Aside0.mk (HW4.out.trans (hb5.mono HW4.out.size))
          clear hS5 hb5
          go_wp2_with (with_reducible refine stop_append rfl ?_)
          refine was_append (w0 := w1) rfl (.tmp 105) (.tmp 108) rfl HT4.out HB5.out HS5.out rfl rfl HW5.out HW4.out.size (by have := HPT.out; omega) ?_
          rintro vW1 w6 ⟨OW1, ht6⟩ hB6
          have HT6 := Aside0.mk (show Tri w6 w1.heap.size OT1 OW1 OR b s vT1 vW1 (RP ++ [s.l] ++ (List.range (i + 1)).map (aftL s ms)) (RP ++ [s.l] ++ (List.range (i + 1)).map (aftL s ms)) by rw [range_snoc, ← List.append_assoc, ← HLE.out.1]; exact ht6)
          have HW6 := Aside0.mk hB6
          clear ht6 hB6
          go_wp2
          go_roundw
          case rel => exact ⟨i + 1, OT1, OW1, vT1, vW1, by omega, rfl, rfl, by go_num, HT6, HW6⟩
          case measure => simp [intOf]; omega
        · have hd3 : decide (i < nm) = false := decide_eq_false hin
          have hd4 : decide ((i : Int) < (nm : Int)) = false := decide_eq_false (by omega)
          obtain rfl : nm = i := by omega
          obtain ⟨RQ, hRQ⟩ : ∃ RQ, RQ = RP ++ [s.l] ++ (List.range nm).map (aftL s ms) := ⟨_, rfl⟩
          rw [← hRQ] at HTRI
          have HRQ := Aside0.mk hRQ
          have HRQL := Aside0.mk (show RQ.length ≤ 300 by rw [hRQ]; simp; have := HRL.out; omega)
          clear hRQ
          have HT8 := HTRI
          have HW8 := HW
          go_wp2
          go_loopw [9, 10, 19, 20, 21] (fun v9 v10 v19 v20 v21 wr => ∃ (i : Nat) (OT OW : Nat → Prop) (vT vW : Value), i ≤ nL ∧ vT = v9 ∧ vW = v10 ∧ v19 = .int .i64 (i : Int) ∧ Aside0 (Tri wr w1.heap.size OT OW OR b s vT vW (RQ ++ (List.range i).map (atL s)) (RQ ++ (List.range i).map (atL s))) ∧ Aside0 (Below w1.heap.size w1 wr)) (fun _ _ v19 _ _ _ => nL + 1 - (intOf v19).toNat)
          case atStart => exact ⟨0, _, _, _, _, Nat.zero_le _, rfl, rfl, rfl, by rw [List.range_zero, List.map_nil, List.append_nil]; exact HT8, HW8⟩
          case round =>
            obtain ⟨i, OT, OW, vT, vW, hi, rfl, rfl, rfl, HTRI, HW⟩ := hrel
            by_cases hin2 : i < nL
            · have hd5 : decide (i < nL) = true := decide_eq_true hin2
              have hd6 : decide ((i : Int) < (nL : Int)) = true := decide_eq_true (by omega)
              obtain ⟨t3, ht3⟩ : ∃ t3 : Nat, t3 = fl + 1 + i := ⟨_, rfl⟩
              have hatc : s.atc (t3 : Int) = 0 := by
                unfold RS.atc
                have h8 := HFL.out.1
                have h9 := HFL.out.2
                rw [if_neg (by omega), if_neg (by unfold RS.la; omega)]
              have HT3 := Aside0.mk (And.intro ht3 hatc)
              have hsum3 : (fl : Int) + 1 + (i : Int) = (t3 : Int) := by omega
              clear hatc ht3
              go_wp2_with fail
              refine (at_R HTRI.out.r (t3 : Int)).mono ?_
              rintro e w3 ⟨A3, c3, rfl, hR3, hb3⟩
              rw [HT3.out.2]
              obtain ⟨y, hy⟩ : ∃ y, y = s.at (t3 : Int) := ⟨_, rfl⟩
              rw [← hy] at hR3 ⊢
              obtain ⟨m5, hm5⟩ : ∃ m5, m5 = y.f5.length := ⟨_, rfl⟩
              rw [← hm5] at hR3 ⊢
              have HY := Aside0.mk (And.intro hy hm5)
              have HYF := Aside0.mk (show few [y] by rw [hy]; exact few_at HFEW.out _)
              have HYA := Aside0.mk (show atL s i = [y] by rw [hy, HT3.out.1]; unfold atL; rw [HFL.out.1])
              have HR3 := Aside0.mk hR3
              have HB3 := Aside0.mk hb3
              have HSZ := Aside0.mk HW.out.size
              have HPT := Aside0.mk (show (RQ ++ (List.range i).map (atL s)).length ≤ 400 by simp; have := HRQL.out; omega)
              clear hy hm5 hR3 hb3 hsum3
              unfold entV
              have HNEW := Aside0.mk (heap_alloc_new w3 (.cells zeroCells 33))
              go_wp2_with (with_reducible refine stop_store rfl ?_)
              refine wpList_store rfl rfl 33 (.tmp 20) (.tmp 123) rfl (.agg #[.int .i64 y.f0, .int .i64 y.f1, .int .i64 y.f2, .int .i64 y.f3, .int .i64 y.f4, .slice A3 m5 c3]) (cells6 y (.slice A3 m5 c3)) rfl rfl HNEW.out rfl size33 (by show 0 + 6 ≤ 6; omega) (by simp [cells6, Value.oneCell']) ?_
              rw [alloc_full (w := w3) (cur := zeroCells) (e := 33) (cells6 y (.slice A3 m5 c3)) rfl]
              have hbx4 : (w3.alloc (.cells (cells6 y (.slice A3 m5 c3)).toArray 33)).heap[w3.heap.size]? = some (.cells (cells6 y (.slice A3 m5 c3)).toArray 33) := heap_alloc_new w3 _
              have HB4 := Aside0.mk (below_step HB3.out (below_alloc (Below.refl w3.heap.size w3) (.cells (cells6 y (.slice A3 m5 c3)).toArray 33)))
              have HR4 := Aside0.mk (Kd.R_below HR3.out (below_alloc (Below.refl w3.heap.size w3) (.cells (cells6 y (.slice A3 m5 c3)).toArray 33)))
              have HG4 := Aside0.mk HB3.out.size
              obtain ⟨g4, hg4⟩ : ∃ g4, g4 = w3.heap.size := ⟨_, rfl⟩
              rw [← hg4] at hbx4 HG4 ⊢
              clear HNEW hg4
              obtain ⟨w4, hw4⟩ : ∃ w4, w4 = w3.alloc (.cells (cells6 y (.slice A3 m5 c3)).toArray 33) := ⟨_, rfl⟩
              rw [← hw4] at hbx4 HB4 HR4 ⊢
              have d0 : w4.cell? ⟨g4, 0, none⟩ = some (.int .i64 y.f0) := (blk_cell hbx4 0).trans rfl
              have d1 : w4.cell? ⟨g4, 1, none⟩ = some (.int .i64 y.f1) := (blk_cell hbx4 1).trans rfl
              have d2 : w4.cell? ⟨g4, 2, none⟩ = some (.int .i64 y.f2) := (blk_cell hbx4 2).trans rfl
              have d3 : w4.cell? ⟨g4, 3, none⟩ = some (.int .i64 y.f3) := (blk_cell hbx4 3).trans rfl
              have d4 : w4.cell? ⟨g4, 4, none⟩ = some (.int .i64 y.f4) := (blk_cell hbx4 4).trans rfl
              have d5 : w4.cell? ⟨g4, 5, none⟩ = some (.slice A3 m5 c3) := (blk_cell hbx4 5).trans rfl
              have HBX4 := Aside0.mk hbx4
              clear hw4 hbx4 HR3 HB3
              go_wp2_with (with_reducible refine stop_append rfl ?_)
              have hBc : Below w4.heap.size w4 (w4.alloc (.cells (cells6 y (.slice A3 m5 c3)).toArray 33)) := below_alloc (Below.refl _ _) _
              have hone : Kd.S k33 33 (w4.alloc (.cells (cells6 y (.slice A3 m5 c3)).toArray 33)) wr.heap.size (fun _ => True) (.slice (some ⟨w4.heap.size, 0, none⟩) 1 1) [y] :=
                S_one (ok' := fun k => k < w4.heap.size) y (heap_alloc_new w4 _) HB4.out.size (Kd.R_below (Kd.R_mono (Kd.R_bound HR4.out) (fun k hk => hk.2.2.1)) hBc) trivial (fun k hk => ⟨trivial, by omega⟩)
              have HBC := Aside0.mk (below_step HB4.out hBc)
              have HBXC := Aside0.mk ((hBc.block _ (blk_lt HBX4.out)).trans HBX4.out)
              have HRC := Aside0.mk (Kd.R_below HR4.out hBc)
              have HWC := Aside0.mk (HW.out.trans (HBC.out.mono HW.out.size))
              refine told_append (w0 := w1) rfl (.tmp 127) (.tmp 130) rfl HTRI.out HBC.out hone rfl (by rw [szA]; rfl) HWC.out HSZ.out (by have := HPT.out; omega) ?_
              rintro vT1 w5 ⟨OT1, ht5⟩ hg5 hlt5 hB5
              have hbx5 := blk_grown HBXC.out hg5 (fun e => by have := hlt5 _ e.symm; have := HG4.out; omega)
              have HR5 := Aside0.mk (show Kd.R k55 55 w5 wr.heap.size (fun k => wr.heap.size ≤ k) (.slice A3 m5 c3) y.f5 from Kd.R_grown (Kd.R_mono (Kd.R_bound HRC.out) (fun k hk => hk.2.1)) hg5 (fun k hk e => by have := hlt5 k e.symm; omega))
              have HT5 := Aside0.mk ht5
              have HW5 := Aside0.mk hB5
              have HZ5 := Aside0.mk (show wr.heap.size ≤ w5.heap.size from Nat.le_trans HBC.out.size hg5.size)
              clear d0 d1 d2 d3 d4 d5
              have d0 : w5.cell? ⟨g4, 0, none⟩ = some (.int .i64 y.f0) := (blk_cell hbx5 0).trans rfl
              have d1 : w5.cell? ⟨g4, 1, none⟩ = some (.int .i64 y.f1) := (blk_cell hbx5 1).trans rfl
              have d2 : w5.cell? ⟨g4, 2, none⟩ = some (.int .i64 y.f2) := (blk_cell hbx5 2).trans rfl
              have d3 : w5.cell? ⟨g4, 3, none⟩ = some (.int .i64 y.f3) := (blk_cell hbx5 3).trans rfl
              have d4 : w5.cell? ⟨g4, 4, none⟩ = some (.int .i64 y.f4) := (blk_cell hbx5 4).trans rfl
              have d5 : w5.cell? ⟨g4, 5, none⟩ = some (.slice A3 m5 c3) := (blk_cell hbx5 5).trans rfl
              clear hBc hone ht5 hg5 hlt5 hB5 hbx5 HBC HBXC HRC HWC HR4 HB4 HBX4
              go_wp2_with fail
              have hBd : Below w5.heap.size w5 (w5.alloc (.cells (cells6 y (.slice A3 m5 c3)).toArray 33)) := below_alloc (Below.refl _ _) _
              have hone2 : Kd.S k33 33 (w5.alloc (.cells (cells6 y (.slice A3 m5 c3)).toArray 33)) wr.heap.size (fun _ => True) (.slice (some ⟨w5.heap.size, 0, none⟩) 1 1) [y] :=
                S_one (ok' := fun k => k < w5.heap.size) y (heap_alloc_new w5 _) HZ5.out (Kd.R_below (Kd.R_mono (Kd.R_bound HR5.out) (fun k hk => hk.2.2.1)) hBd) trivial (fun k hk => ⟨trivial, by omega⟩)
              refine (twins_T [y] HYF.out (some ⟨w5.heap.size, 0, none⟩) 1 1 (w5.alloc (.cells (cells6 y (.slice A3 m5 c3)).toArray 33)) rfl (Kd.S_reads' hone2).2.2 (Nat.le_refl _)).mono ?_
              rintro e w7 ⟨A7, c7, rfl, hS7, hb7⟩
              have HS7 := Aside0.mk (Kd.S_lower hS7 hBd.size)
              have HB7 := Aside0.mk (below_step hBd hb7)
              have HW7 := Aside0.mk (HW5.out.trans ((below_step hBd hb7).mono HW5.out.size))
              clear hS7 hb7 hone2 hBd
              go_wp2_with (with_reducible refine stop_append rfl ?_)
              refine was_append (w0 := w1) rfl (.tmp 132) (.tmp 136) rfl HT5.out HB7.out HS7.out rfl rfl HW7.out HW5.out.size (by have := HPT.out; omega) ?_
              rintro vW1 w8 ⟨OW1, ht8⟩ hB8
              have HT9 := Aside0.mk (show Tri w8 w1.heap.size OT1 OW1 OR b s vT1 vW1 (RQ ++ (List.range (i + 1)).map (atL s)) (RQ ++ (List.range (i + 1)).map (atL s)) by rw [range_snoc, ← List.append_assoc, HYA.out]; exact ht8)
              have HW9 := Aside0.mk hB8
              clear ht8 hB8 d0 d1 d2 d3 d4 d5
              go_wp2
              go_roundw
              case rel => exact ⟨i + 1, OT1, OW1, vT1, vW1, by omega, rfl, rfl, by go_num, HT9, HW9⟩
              case measure => simp [intOf]; omega
            · have hd5 : decide (i < nL) = false := decide_eq_false hin2
              have hd6 : decide ((i : Int) < (nL : Int)) = false := decide_eq_false (by omega)
              have hnext : RQ ++ (List.range i).map (atL s) = (List.replicate (k + 1) PS).flatten := by
                rw [show i = s.l.length by have := HFL.out.2; omega, HRQ.out, List.replicate_succ', List.flatten_append, ← HRP.out]
                simp only [List.flatten_cons, List.flatten_nil, List.append_nil]
                rw [HPS.out]
                unfold pass
                rw [HML.out]
                simp only [List.append_assoc]
              rw [hnext] at HTRI
              clear hnext
              go_wp2
              go_roundw
              case rel => exact ⟨k + 1, OT, OW, _, _, by omega, rfl, rfl, by go_num, HTRI, HW⟩
              case measure => simp [intOf]; omega
    · have hd1 : decide (k < 2) = false := decide_eq_false hlt
      have hd2 : decide ((k : Int) < 2) = false := decide_eq_false (by omega)
      have hk2 : k = 2 := by omega
      obtain ⟨QQ, hQQ⟩ : ∃ QQ, QQ = PS ++ PS := ⟨_, rfl⟩
      have hQe : (List.replicate k PS).flatten = QQ := by rw [hk2, hQQ]; simp
      clear hk2
      rw [hQe] at HTRI
      have HQ0 := Aside0.mk (show QQ[0]? = some s.l by rw [hQQ, HPS.out]; rfl)
      have hQl : QQ.length = 2 * PS.length := by rw [hQQ, List.length_append]; omega
      have HQF := Aside0.mk (show ∀ L ∈ QQ, few L from fun L hL => few_pass HFEW.out ms L (by
        rw [hQQ] at hL
        rw [← HPS.out]
        rcases List.mem_append.1 hL with h | h <;> exact h))
      have HQM := Aside0.mk (show ∀ i, i < QQ.length → QQ[i]? = QQ[i % PS.length]? from fun i hi => by
        rw [hQQ] at hi ⊢
        exact twice_get PS (by rw [HPL.out]; omega) i hi)
      obtain ⟨vs, f, howT, hvl, hokT, hvs⟩ := open_told HTRI.out.t
      obtain ⟨wsl, f2, howW, hwl, hokW, hws⟩ := open_told HTRI.out.w
      obtain ⟨hDv, hRv⟩ := told_dist hvl hvs HQF.out
      obtain ⟨AT, cT, hvT, _⟩ := own_form howT
      obtain ⟨AW, cW, hvW, _⟩ := own_form howW
      obtain ⟨NQ, hNQ⟩ : ∃ NQ, NQ = QQ.length := ⟨_, rfl⟩
      obtain ⟨HF0, hHF⟩ : ∃ HF0, HF0 = PS.length := ⟨_, rfl⟩
      rw [← hNQ] at hvT hvW
      subst hvT
      subst hvW
      obtain ⟨wm, hwm⟩ : ∃ wm, wm = wr := ⟨_, rfl⟩
      rw [← hwm] at HTRI HW howT howW hvs hws hRv
      have HVS := Aside0.mk hvs
      have HWS := Aside0.mk hws
      have HDV := Aside0.mk (And.intro hDv hRv)
      have HOT := Aside0.mk howT
      have HOW := Aside0.mk howW
      have HVL := Aside0.mk (And.intro hvl hokT)
      have HNQ := Aside0.mk (show NQ = QQ.length ∧ HF0 = PS.length ∧ NQ = 2 * HF0 ∧ 1 ≤ HF0 ∧ HF0 ≤ 89 from ⟨hNQ, hHF, by omega, by have := HPL.out; omega, by have := HPL.out; omega⟩)
      have hdiv : (NQ : Int) / 2 = (HF0 : Int) := by have := HNQ.out; omega
      have hdiv2 : Int.tdiv (NQ : Int) 2 = (HF0 : Int) := by rw [Int.tdiv_eq_ediv_of_nonneg (by omega)]; exact hdiv
      have hNQ178 : NQ ≤ 178 := by have := HNQ.out; omega
      clear hQQ hQe hQl hvs hws hDv hRv howT howW hvl hokT hwl hokW hNQ hHF
      rw [← hwm]
      clear hwm
      go_wp2
      have hgb : (wm.alloc (.cells #[.slice none 0 0, .slice none 0 0, .slice none 0 0, .slice none 0 0] 76)).heap[wm.heap.size]? = some (.cells #[.slice none 0 0, .slice none 0 0, .slice none 0 0, .slice none 0 0] 76) := heap_alloc_new wm _
      have hwmb : w1.heap.size ≤ wm.heap.size := HW.out.size
      have HBK0 := Aside0.mk (show Book (wm.alloc (.cells #[.slice none 0 0, .slice none 0 0, .slice none 0 0, .slice none 0 0] 76)) w1.heap.size wm.heap.size (.slice none 0 0) (.slice none 0 0) (.slice none 0 0) (.slice none 0 0) [] [] (vs.take 0) [] from
        ⟨hwmb, hgb, World.ownsRow_nil _ _ _ _, World.ownsRow_nil _ _ _ _, World.ownsRow_nil _ _ _ _, World.ownsRow_nil _ _ _ _⟩)
      have HBW0 := Aside0.mk (show Below wm.heap.size wm (wm.alloc (.cells #[.slice none 0 0, .slice none 0 0, .slice none 0 0, .slice none 0 0] 76)) from below_alloc (Below.refl _ _) _)
      obtain ⟨gb, hgbe⟩ : ∃ gb, gb = wm.heap.size := ⟨_, rfl⟩
      rw [← hgbe] at HBK0
      have HGB := Aside0.mk (And.intro hgbe hwmb)
      rw [← hgbe]
      clear hgb hgbe hwmb
      go_loopw [24] (fun v24 wr => ∃ (i : Nat) (ro re : Value) (vo : List Value), i ≤ NQ ∧ v24 = .int .i64 (i : Int) ∧ Aside0 (Book wr w1.heap.size gb ro (.slice none 0 0) re (.slice none 0 0) vo [] (vs.take i) []) ∧ Aside0 (VOk wm w1.heap.size OT f i vo) ∧ Aside0 (Below wm.heap.size wm wr) ∧ Aside0 (∀ q, ro.ownBlock = some q ∨ re.ownBlock = some q → wm.heap.size ≤ q)) (fun v24 _ => NQ + 1 - (intOf v24).toNat)
      case atStart => exact ⟨0, _, _, _, Nat.zero_le _, rfl, HBK0, ⟨VOk.zero⟩, HBW0, ⟨fun q hq => by rcases hq with hq | hq <;> simp [Value.ownBlock] at hq⟩⟩
      case round =>
        obtain ⟨i, ro, re, vo, hi, rfl, HBK, HVO, HBW, HRO⟩ := hrel
        by_cases hin : i < NQ
        · have hd3 : decide (i < NQ) = true := decide_eq_true hin
          have hd4 : decide ((i : Int) < (NQ : Int)) = true := decide_eq_true (by omega)
          have howT := HOT.out
          have howW := HOW.out
          rw [← HNQ.out.1] at howT howW
          obtain ⟨gT, cT', curT, hrT, _, _, _, _⟩ := own_some howT (by omega)
          injection hrT with hAT _ hcT
          obtain rfl := hcT
          obtain ⟨gW, cW', curW, hrW, _, _, _, _⟩ := own_some howW (by omega)
          injection hrW with hAW _ hcW
          obtain rfl := hcW
          have hATe : AT = some ⟨gT, 0, none⟩ := hAT
          have hAWe : AW = some ⟨gW, 0, none⟩ := hAW
          rw [hATe] at howT
          rw [hAWe] at howW
          obtain ⟨r, hr⟩ : ∃ r, r = i % HF0 := ⟨_, rfl⟩
          have hrH : r < HF0 := by rw [hr]; exact Nat.mod_lt _ (by have := HNQ.out; omega)
          have hQi : i < QQ.length := by rw [← HNQ.out.1]; exact hin
          obtain ⟨L, hL⟩ : ∃ L, QQ[i]? = some L := ⟨_, List.getElem?_eq_getElem hQi⟩
          have hLr : QQ[r]? = some L := by
            have h9 := HQM.out i hQi
            rw [← HNQ.out.2.1, ← hr, hL] at h9
            exact h9.symm
          obtain ⟨u1, hu1, hS1⟩ := HVS.out i L hL
          obtain ⟨u2, hu2, hS2⟩ := HWS.out i L hL
          obtain ⟨u3, hu3, hS3⟩ := HWS.out r L hLr
          obtain ⟨A1, c1, rfl⟩ := Kd.S_slice hS1
          obtain ⟨A2, c2, rfl⟩ := Kd.S_slice hS2
          obtain ⟨A3, c3, rfl⟩ := Kd.S_slice hS3
          have hfew : few L := HQF.out L (List.mem_of_getElem? hL)
          obtain ⟨raw, os, hraw1, hraw2, hraw3, hraw4, hraw5, hraw6⟩ := list_brings hS1 hfew
          obtain ⟨q11, q12, q13⟩ := Kd.S_reads' hS1
          obtain ⟨q21, q22, q23⟩ := Kd.S_reads' hS2
          obtain ⟨q31, q32, q33⟩ := Kd.S_reads' hS3
          obtain ⟨n1, hn1⟩ : ∃ n1, n1 = L.length := ⟨_, rfl⟩
          rw [← hn1] at hu1 hu2 hu3 hraw1 hraw2 hraw3 q12 q13 q22 q23 q32 q33
          have HLC := Aside0.mk (And.intro q12 (And.intro q22 q32))
          have HRD := Aside0.mk (And.intro q13 (And.intro q23 q33))
          have HRAW := Aside0.mk (And.intro hraw1 (And.intro hraw2 (And.intro hraw3 (And.intro hraw4 (And.intro hraw5 hraw6)))))
          have HN1 := Aside0.mk hn1
          have HFEWL := Aside0.mk hfew
          have hn64 : n1 ≤ 64 := by rw [hn1]; exact hfew.1
          have HU1 := Aside0.mk hu1
          have e1 : wr.drew.cell? ⟨gT, i, none⟩ = some (.slice A1 n1 c1) := pw_cell_below HBW.out (own_cell howT hu1)
          have e2 : wr.drew.cell? ⟨gW, i, none⟩ = some (.slice A2 n1 c2) := pw_cell_below HBW.out (own_cell howW hu2)
          have e3 : wr.drew.cell? ⟨gW, r, none⟩ = some (.slice A3 n1 c3) := pw_cell_below HBW.out (own_cell howW hu3)
          have HE1 := Aside0.mk (own_cell howT hu1)
          have hrNQ : r < NQ := by have := HNQ.out; omega
          have hrem1 : (i : Int) % (HF0 : Int) = (r : Int) := by rw [hr]; rfl
          have hrem2 : Int.tmod (i : Int) (HF0 : Int) = (r : Int) := by rw [Int.tmod_eq_emod_of_nonneg (by omega)]; exact hrem1
          have hh0 : (HF0 == 0) = false := beq_eq_false_iff_ne.mpr (by have := HNQ.out; omega)
          have hh1 : ((HF0 : Int) == 0) = false := beq_eq_false_iff_ne.mpr (by have := HNQ.out; omega)
          have hh2 : (HF0 = 0) = False := eq_false (by have := HNQ.out; omega)
          obtain rfl := hATe
          obtain rfl := hAWe
          clear hfew hraw1 hraw2 hraw3 hraw4 hraw5 hraw6 q11 q12 q13 q21 q22 q23 q31 q32 q33 hS1 hS2 hS3 hu1 hu2 hu3 hL hLr hr hn1 howT howW hQi
          have HBD := Aside0.mk (show Below wm.heap.size wm wr.drew ∧ wm.heap.size ≤ wr.drew.heap.size from ⟨below_drew HBW.out, HBW.out.size⟩)
          go_wp2
          refine start_ (n := 24) (S := fun w' => w'.cell? ⟨gT, i, none⟩ = some (.slice A1 n1 c1) ∧ w'.cell? ⟨gW, i, none⟩ = some (.slice A2 n1 c2) ∧ w'.cell? ⟨gW, r, none⟩ = some (.slice A3 n1 c3)) (ds := []) #[false, false, false, false, false, false, false, false, false, false, false, false, false, false, false, false, false, false, false, false, false, false, false, false] (by kernel_rfl) rfl rfl ⟨e1, e2, e3⟩ (fun hHeld => ?_)
          refine with_tabW rg9.tab40 rg9.bits40 (fun HT_ HW_ => ?_)
          refine pure_ (i := 0) (N := some 149) (v := ?_) (a' := ?_) #[true, false, false, false, false, false, false, false, false, false, false, false, false, false, false, false, false, false, false, false, false, false, false, false] rfl rfl (any_of HT_.out (by kernel_rfl)) (fun _ _ _ h => h) (Or.inl ⟨by rfl, ?_⟩) ?_ ?_
          rotate_left
          · intro w'
            go_simp
            with_reducible rfl
          rotate_left
          · simp only [Act.put, List.setIfInBounds_toArray, List.set_cons_zero, List.set_cons_succ, i64_w, i32_w]
            rfl
          refine pure_ (i := 1) (N := some 150) (v := ?_) (a' := ?_) #[true, true, false, false, false, false, false, false, false, false, false, false, false, false, false, false, false, false, false, false, false, false, false, false] rfl rfl (any_of HT_.out (by kernel_rfl)) (fun _ _ _ h => h) (Or.inl ⟨by rfl, ?_⟩) ?_ ?_
          rotate_left
          · intro w'
            go_simp
            with_reducible rfl
          rotate_left
          · simp only [Act.put, List.setIfInBounds_toArray, List.set_cons_zero, List.set_cons_succ, i64_w, i32_w]
            rfl
          refine pure_ (i := 2) (N := some 151) (v := ?_) (a' := ?_) #[true, true, true, false, false, false, false, false, false, false, false, false, false, false, false, false, false, false, false, false, false, false, false, false] rfl rfl (any_of HT_.out (by kernel_rfl)) (fun _ _ _ h => h) (Or.inl ⟨by rfl, ?_⟩) ?_ ?_
          rotate_left
          · intro w'
            go_simp
            with_reducible rfl
          rotate_left
          · simp only [Act.put, List.setIfInBounds_toArray, List.set_cons_zero, List.set_cons_succ, i64_w, i32_w]
            rfl
          refine pure_ (i := 4) (N := some 153) (v := ?_) (a' := ?_) #[true, true, true, false, true, false, false, false, false, false, false, false, false, false, false, false, false, false, false, false, false, false, false, false] rfl rfl (any_of HT_.out (by kernel_rfl)) (fun _ _ _ h => h) (Or.inl ⟨by rfl, ?_⟩) ?_ ?_
          rotate_left
          · intro w'
            go_simp
            with_reducible rfl
          rotate_left
          · simp only [Act.put, List.setIfInBounds_toArray, List.set_cons_zero, List.set_cons_succ, i64_w, i32_w]
            rfl
          refine pure_ (i := 5) (N := some 154) (v := ?_) (a' := ?_) #[true, true, true, false, true, true, false, false, false, false, false, false, false, false, false, false, false, false, false, false, false, false, false, false] rfl rfl (any_of HT_.out (by kernel_rfl)) (fun _ _ _ h => h) (Or.inl ⟨by rfl, ?_⟩) ?_ ?_
          rotate_left
          · intro w'
            go_simp
            with_reducible rfl
          rotate_left
          · simp only [Act.put, List.setIfInBounds_toArray, List.set_cons_zero, List.set_cons_succ, i64_w, i32_w]
            rfl
          refine pure_ (i := 6) (N := some 155) (v := ?_) (a' := ?_) #[true, true, true, false, true, true, true, false, false, false, false, false, false, false, false, false, false, false, false, false, false, false, false, false] rfl rfl (any_of HT_.out (by kernel_rfl)) (fun _ _ _ h => h) (Or.inl ⟨by rfl, ?_⟩) ?_ ?_
          rotate_left
          · intro w'
            go_simp
            with_reducible rfl
          rotate_left
          · simp only [Act.put, List.setIfInBounds_toArray, List.set_cons_zero, List.set_cons_succ, i64_w, i32_w]
            rfl
          refine take_ (i := 3) (N := some 152) (v := ?_) (a' := ?_) #[true, true, true, true, true, true, true, false, false, false, false, false, false, false, false, false, false, false, false, false, false, false, false, false] rfl rfl (take_ofW HT_.out HW_.out (by kernel_rfl)) (fun _ _ _ h => h) (Or.inl ⟨by rfl, ?_⟩) hHeld ?_ ?_
          rotate_left
          · rintro w' ⟨s0, s1, s2⟩
            go_simp
            with_reducible rfl
          rotate_left
          · simp only [Act.put, List.setIfInBounds_toArray, List.set_cons_zero, List.set_cons_succ, i64_w, i32_w]
            rfl
          refine take_ (i := 7) (N := some 156) (v := ?_) (a' := ?_) #[true, true, true, true, true, true, true, true, false, false, false, false, false, false, false, false, false, false, false, false, false, false, false, false] rfl rfl (take_ofW HT_.out HW_.out (by kernel_rfl)) (fun _ _ _ h => h) (Or.inl ⟨by rfl, ?_⟩) hHeld ?_ ?_
          rotate_left
          · rintro w' ⟨s0, s1, s2⟩
            go_simp
            with_reducible rfl
          rotate_left
          · simp only [Act.put, List.setIfInBounds_toArray, List.set_cons_zero, List.set_cons_succ, i64_w, i32_w]
            rfl
          refine one_ (i := 8) (N := some 157) #[true, true, true, true, true, true, true, true, true, false, false, false, false, false, false, false, false, false, false, false, false, false, false, false] rfl rfl (one_of HT_.out (by kernel_rfl)) (by decide) (fun K hK => ?_)
          refine goes_ Try.func22 (by kernel_rfl) rfl #[.slice A1 n1 c1, .slice A2 n1 c2] (by rfl) rfl rfl (by simp only [List.map_toArray, List.map_cons, List.map_nil]; rfl) ?_
          with_reducible refine (sameAll_T L A1 A2 n1 c1 c2 _ HN1.out.symm (fun y hy => few_ops HFEWL.out y hy) (Nat.le_trans hn64 (by decide)) (Kd.C_below HRD.out.1 HBD.out.1) HLC.out.1 (Kd.C_below HRD.out.2.1 HBD.out.1) HLC.out.2.1).mono ?_
          rintro e w3 ⟨rfl, hb3⟩
          have HB3 := Aside0.mk hb3
          clear hb3
          refine ⟨_, rfl, ?_⟩
          refine hK.out _ _ ⟨pw_cell_below HB3.out e1, pw_cell_below HB3.out e2, pw_cell_below HB3.out e3⟩ (fun hHeld => ?_)
          clear hK K
          refine norm_ (a' := ?_) ?_ ?_
          rotate_left
          · show Act.put _ (some 157) _ = _
            simp only [Act.put, List.setIfInBounds_toArray, List.set_cons_zero, List.set_cons_succ, i64_w, i32_w]
            rfl
          refine pure_ (i := 9) (N := some 158) (v := ?_) (a' := ?_) #[true, true, true, true, true, true, true, true, true, true, false, false, false, false, false, false, false, false, false, false, false, false, false, false] rfl rfl (any_of HT_.out (by kernel_rfl)) (fun _ _ _ h => h) (Or.inl ⟨by rfl, ?_⟩) ?_ ?_
          rotate_left
          · intro w'
            go_simp
            with_reducible rfl
          rotate_left
          · simp only [Act.put, List.setIfInBounds_toArray, List.set_cons_zero, List.set_cons_succ, i64_w, i32_w]
            rfl
          refine pure_ (i := 10) (N := some 159) (v := ?_) (a' := ?_) #[true, true, true, true, true, true, true, true, true, true, true, false, false, false, false, false, false, false, false, false, false, false, false, false] rfl rfl (any_of HT_.out (by kernel_rfl)) (fun _ _ _ h => h) (Or.inl ⟨by rfl, ?_⟩) ?_ ?_
          rotate_left
          · intro w'
            go_simp
            with_reducible rfl
          rotate_left
          · simp only [Act.put, List.setIfInBounds_toArray, List.set_cons_zero, List.set_cons_succ, i64_w, i32_w]
            rfl
          refine pure_ (i := 11) (N := some 160) (v := ?_) (a' := ?_) #[true, true, true, true, true, true, true, true, true, true, true, true, false, false, false, false, false, false, false, false, false, false, false, false] rfl rfl (any_of HT_.out (by kernel_rfl)) (fun _ _ _ h => h) (Or.inl ⟨by rfl, ?_⟩) ?_ ?_
          rotate_left
          · intro w'
            go_simp
            with_reducible rfl
          rotate_left
          · simp only [Act.put, List.setIfInBounds_toArray, List.set_cons_zero, List.set_cons_succ, i64_w, i32_w]
            rfl
          refine pure_ (i := 12) (N := some 161) (v := ?_) (a' := ?_) #[true, true, true, true, true, true, true, true, true, true, true, true, true, false, false, false, false, false, false, false, false, false, false, false] rfl rfl (any_of HT_.out (by kernel_rfl)) (fun _ _ _ h => h) (Or.inl ⟨by rfl, ?_⟩) ?_ ?_
          rotate_left
          · intro w'
            go_simp
            with_reducible rfl
          rotate_left
          · simp only [Act.put, List.setIfInBounds_toArray, List.set_cons_zero, List.set_cons_succ, i64_w, i32_w]
            rfl
          refine pure_ (i := 13) (N := some 162) (v := ?_) (a' := ?_) #[true, true, true, true, true, true, true, true, true, true, true, true, true, true, false, false, false, false, false, false, false, false, false, false] rfl rfl (any_of HT_.out (by kernel_rfl)) (fun _ _ _ h => h) (Or.inl ⟨by rfl, ?_⟩) ?_ ?_
          rotate_left
          · intro w'
            go_simp
            with_reducible rfl
          rotate_left
          · simp only [Act.put, List.setIfInBounds_toArray, List.set_cons_zero, List.set_cons_succ, i64_w, i32_w]
            rfl
          refine pure_ (i := 15) (N := some 164) (v := ?_) (a' := ?_) #[true, true, true, true, true, true, true, true, true, true, true, true, true, true, false, true, false, false, false, false, false, false, false, false] rfl rfl (any_of HT_.out (by kernel_rfl)) (fun _ _ _ h => h) (Or.inl ⟨by rfl, ?_⟩) ?_ ?_
          rotate_left
          · intro w'
            go_simp
            with_reducible rfl
          rotate_left
          · simp only [Act.put, List.setIfInBounds_toArray, List.set_cons_zero, List.set_cons_succ, i64_w, i32_w]
            rfl
          refine pure_ (i := 16) (N := some 165) (v := ?_) (a' := ?_) #[true, true, true, true, true, true, true, true, true, true, true, true, true, true, false, true, true, false, false, false, false, false, false, false] rfl rfl (any_of HT_.out (by kernel_rfl)) (fun _ _ _ h => h) (Or.inl ⟨by rfl, ?_⟩) ?_ ?_
          rotate_left
          · intro w'
            go_simp
            with_reducible rfl
          rotate_left
          · simp only [Act.put, List.setIfInBounds_toArray, List.set_cons_zero, List.set_cons_succ, i64_w, i32_w]
            rfl
          refine pure_ (i := 17) (N := some 166) (v := ?_) (a' := ?_) #[true, true, true, true, true, true, true, true, true, true, true, true, true, true, false, true, true, true, false, false, false, false, false, false] rfl rfl (any_of HT_.out (by kernel_rfl)) (fun _ _ _ h => h) (Or.inl ⟨by rfl, ?_⟩) ?_ ?_
          rotate_left
          · intro w'
            go_simp
            with_reducible rfl
          rotate_left
          · simp only [Act.put, List.setIfInBounds_toArray, List.set_cons_zero, List.set_cons_succ, i64_w, i32_w]
            rfl
          refine pure_ (i := 18) (N := some 167) (v := ?_) (a' := ?_) #[true, true, true, true, true, true, true, true, true, true, true, true, true, true, false, true, true, true, true, false, false, false, false, false] rfl rfl (any_of HT_.out (by kernel_rfl)) (fun _ _ _ h => h) (Or.inl ⟨by rfl, ?_⟩) ?_ ?_
          rotate_left
          · intro w'
            go_simp
            with_reducible rfl
          rotate_left
          · simp only [Act.put, List.setIfInBounds_toArray, List.set_cons_zero, List.set_cons_succ, i64_w, i32_w]
            rfl
          refine pure_ (i := 19) (N := some 168) (v := ?_) (a' := ?_) #[true, true, true, true, true, true, true, true, true, true, true, true, true, true, false, true, true, true, true, true, false, false, false, false] rfl rfl (any_of HT_.out (by kernel_rfl)) (fun _ _ _ h => h) (Or.inl ⟨by rfl, ?_⟩) ?_ ?_
          rotate_left
          · intro w'
            go_simp
            with_reducible rfl
          rotate_left
          · simp only [Act.put, List.setIfInBounds_toArray, List.set_cons_zero, List.set_cons_succ, i64_w, i32_w]
            rfl
          refine take_ (i := 14) (N := some 163) (v := ?_) (a' := ?_) #[true, true, true, true, true, true, true, true, true, true, true, true, true, true, true, true, true, true, true, true, false, false, false, false] rfl rfl (take_ofW HT_.out HW_.out (by kernel_rfl)) (fun _ _ _ h => h) (Or.inl ⟨by rfl, ?_⟩) hHeld ?_ ?_
          rotate_left
          · rintro w' ⟨s0, s1, s2⟩
            go_simp
            with_reducible rfl
          rotate_left
          · simp only [Act.put, List.setIfInBounds_toArray, List.set_cons_zero, List.set_cons_succ, i64_w, i32_w]
            rfl
          refine take_ (i := 20) (N := some 169) (v := ?_) (a' := ?_) #[true, true, true, true, true, true, true, true, true, true, true, true, true, true, true, true, true, true, true, true, true, false, false, false] rfl rfl (take_ofW HT_.out HW_.out (by kernel_rfl)) (fun _ _ _ h => h) (Or.inl ⟨by rfl, ?_⟩) hHeld ?_ ?_
          rotate_left
          · rintro w' ⟨s0, s1, s2⟩
            go_simp
            with_reducible rfl
          rotate_left
          · simp only [Act.put, List.setIfInBounds_toArray, List.set_cons_zero, List.set_cons_succ, i64_w, i32_w]
            rfl
          refine one_ (i := 21) (N := some 170) #[true, true, true, true, true, true, true, true, true, true, true, true, true, true, true, true, true, true, true, true, true, true, false, false] rfl rfl (one_of HT_.out (by kernel_rfl)) (by decide) (fun K hK => ?_)
          refine goes_ Try.func22 (by kernel_rfl) rfl #[.slice A2 n1 c2, .slice A3 n1 c3] (by rfl) rfl rfl (by simp only [List.map_toArray, List.map_cons, List.map_nil]; rfl) ?_
          with_reducible refine (sameAll_T L A2 A3 n1 c2 c3 _ HN1.out.symm (fun y hy => few_ops HFEWL.out y hy) (Nat.le_trans hn64 (by decide)) (Kd.C_below HRD.out.2.1 (below_then HBD.out.1 HBD.out.2 HB3.out)) HLC.out.2.1 (Kd.C_below HRD.out.2.2 (below_then HBD.out.1 HBD.out.2 HB3.out)) HLC.out.2.2).mono ?_
          rintro e w4 ⟨rfl, hb4⟩
          have HB4 := Aside0.mk hb4
          clear hb4
          refine ⟨_, rfl, ?_⟩
          refine hK.out _ _ ⟨pw_cell_below HB4.out (pw_cell_below HB3.out e1), pw_cell_below HB4.out (pw_cell_below HB3.out e2), pw_cell_below HB4.out (pw_cell_below HB3.out e3)⟩ (fun hHeld => ?_)
          clear hK K
          refine norm_ (a' := ?_) ?_ ?_
          rotate_left
          · show Act.put _ (some 170) _ = _
            simp only [Act.put, List.setIfInBounds_toArray, List.set_cons_zero, List.set_cons_succ, i64_w, i32_w]
            rfl
          refine pure_ (i := 22) (N := some 171) (v := ?_) (a' := ?_) #[true, true, true, true, true, true, true, true, true, true, true, true, true, true, true, true, true, true, true, true, true, true, true, false] rfl rfl (any_of HT_.out (by kernel_rfl)) (fun _ _ _ h => h) (Or.inl ⟨by rfl, ?_⟩) ?_ ?_
          rotate_left
          · intro w'
            go_simp
            with_reducible rfl
          rotate_left
          · simp only [Act.put, List.setIfInBounds_toArray, List.set_cons_zero, List.set_cons_succ, i64_w, i32_w]
            rfl
          refine pure_ (i := 23) (N := some 172) (v := ?_) (a' := ?_) #[true, true, true, true, true, true, true, true, true, true, true, true, true, true, true, true, true, true, true, true, true, true, true, true] rfl rfl (any_of HT_.out (by kernel_rfl)) (fun _ _ _ h => h) (Or.inl ⟨by rfl, ?_⟩) ?_ ?_
          rotate_left
          · intro w'
            go_simp
            with_reducible rfl
          rotate_left
          · simp only [Act.put, List.setIfInBounds_toArray, List.set_cons_zero, List.set_cons_succ, i64_w, i32_w]
            rfl
          refine done_ (done_of HT_.out (by kernel_rfl)) ?_
          have hB34 : Below wr.heap.size wr w4 := below_then (below_then (below_drew (Below.refl _ _)) (Nat.le_refl _) HB3.out) (by exact HB3.out.size) HB4.out
          have HBW4 := Aside0.mk (HBW.out.trans (hB34.mono HBW.out.size))
          have HBK4 := Aside0.mk (HBK.out.step (W' := w4) (fun q hq => by rcases hq with ⟨cs, hq⟩ | ⟨cs, hq⟩ | ⟨cs, hq⟩ <;> exact hB34.block q (blk_lt hq)))
          have f1 : w4.cell? ⟨gT, i, none⟩ = some (.slice A1 n1 c1) := pw_cell_below HBW4.out HE1.out
          have HZ4 := Aside0.mk hB34.size
          clear hB34 e1 e2 e3 hrem1 hrem2 hh0 hh1 hh2
          go_wp2_with fail
          refine (takes_B HBK4.out (own_step HRAW.out.1 (fun q hq => HBW4.out.block q ((HRAW.out.1.lt q hq).2))) HRAW.out.2.1 (fun j hj => HRAW.out.2.2.1 j hj) HRAW.out.2.2.2.1 (Nat.le_trans HW.out.size HBW4.out.size) hn64 (by have := HVO.out.len; omega) (by rw [List.length_take]; omega)).mono ?_
          rintro e w5 ⟨⟨e5, rfl⟩, ro5, re5, hbk5, hf5, hro5, hre5⟩
          have HBW5 := Aside0.mk (show Below wm.heap.size wm w5 from HBW4.out.trans (hf5.below (B := wm.heap.size) (fun q hq _ => by
            rcases hq with rfl | hq | hq
            · rw [HGB.out.1]; exact Nat.le_refl _
            · exact HRO.out q (.inl hq)
            · exact HRO.out q (.inr hq)) HBW4.out.size))
          have HBK5 := Aside0.mk (show Book w5 w1.heap.size gb ro5 (.slice none 0 0) re5 (.slice none 0 0) (vo ++ os) [] (vs.take (i + 1)) [] by
            rw [List.take_add_one, HU1.out]
            exact hbk5)
          have HVO5 := Aside0.mk (HVO.out.step HRAW.out.2.2.2.2.1 HRAW.out.2.2.2.2.2 (by rw [HRAW.out.2.1]; exact hn64))
          have HRO5 := Aside0.mk (show ∀ q, ro5.ownBlock = some q ∨ re5.ownBlock = some q → wm.heap.size ≤ q from fun q hq => by
            rcases hq with hq | hq
            · rcases hro5 q hq with h | h
              · exact HRO.out q (.inl h)
              · exact Nat.le_trans HBW4.out.size h
            · rcases hre5 q hq with h | h
              · exact HRO.out q (.inr h)
              · exact Nat.le_trans HBW4.out.size h)
          clear hbk5 hf5 hro5 hre5 f1
          go_wp2
          go_roundw
          case rel => exact ⟨i + 1, ro5, re5, _, by omega, by go_num, HBK5, HVO5, HBW5, HRO5⟩
          case measure => simp [intOf]; omega
        · have hd3 : decide (i < NQ) = false := decide_eq_false hin
          have hd4 : decide ((i : Int) < (NQ : Int)) = false := decide_eq_false (by omega)
          have HBKF := Aside0.mk (show Book wr w1.heap.size gb ro (.slice none 0 0) re (.slice none 0 0) vo [] vs [] by
            have h9 := HBK.out
            rw [List.take_of_length_le (by rw [HVL.out.1, ← HNQ.out.1]; omega)] at h9
            exact h9)
          go_wp2_with fail
          refine (apart_B HBKF.out (fun j v hj => (HVO.out.raw v (List.mem_of_getElem? hj)).1.step (fun q hq => HBW.out.block q ((HVO.out.raw v (List.mem_of_getElem? hj)).1.lt q hq).2)) (fun j v hj => (HDV.out.2 j v hj).1.step (fun q hq => HBW.out.block q ((HDV.out.2 j v hj).1.lt q hq).2)) HVO.out.dist HDV.out.1 (by have := HVO.out.len; omega) (by rw [HVL.out.1, ← HNQ.out.1]; omega) (Nat.le_trans HW.out.size HBW.out.size)).mono ?_
          rintro e w5 ⟨rfl, ⟨rm5, rx5, mo5, me5, hg5⟩, hf5⟩
          have hch : ∀ q, q < wm.heap.size → ¬ OT q → w5.heap[q]? = wm.heap[q]? := fun q hq hno => (hf5.block q (Nat.lt_of_lt_of_le hq HBW.out.size) (fun h => by
            rcases h with h | ⟨j, v, hj, hb⟩ | ⟨j, v, hj, hb⟩
            · rw [h, HGB.out.1] at hq
              exact Nat.lt_irrefl _ hq
            · exact hno ((HVO.out.raw v (List.mem_of_getElem? hj)).2 q hb).1
            · exact hno ((HDV.out.2 j v hj).2 q hb).1)).trans (HBW.out.block q hq)
          have HR5 := Aside0.mk (RingIs_step HTRI.out.r (fun k hk hlt => hch k hlt (fun h => HTRI.out.tr k h hk)))
          have HS5 := Aside0.mk (Kd.S_step HTRI.out.w (fun k hk hlt => hch k hlt (fun h => HTRI.out.tw k h hk)))
          have HG5 := Aside0.mk hg5
          have HB5 := Aside0.mk (show Below w1.heap.size w1 w5 from (HW.out.trans (HBW.out.mono HW.out.size)).trans (hf5.below (B := w1.heap.size) (fun q hq _ => by
            rcases hq with h | ⟨j, v, hj, hb⟩ | ⟨j, v, hj, hb⟩
            · rw [h, HGB.out.1]
              exact HGB.out.2
            · exact ((HVO.out.raw v (List.mem_of_getElem? hj)).1.lt q hb).1
            · exact ((HDV.out.2 j v hj).1.lt q hb).1) (Nat.le_trans HW.out.size HBW.out.size)))
          obtain ⟨w8l, f8, how8, hwl8, _, hw8⟩ := open_told HS5.out
          obtain ⟨u8, hu8, hS8⟩ := hw8 0 s.l HQ0.out
          obtain ⟨A8, c8, rfl⟩ := Kd.S_slice hS8
          rw [← HNQ.out.1] at how8
          obtain ⟨gW, cW', curW, hrW, _, _, _, _⟩ := own_some how8 (by have := HNQ.out; omega)
          injection hrW with hAW _ hcW
          obtain rfl := hcW
          have hAWe : AW = some ⟨gW, 0, none⟩ := hAW
          rw [hAWe] at how8
          have ew := own_cell how8 hu8
          rw [← HFL.out.2] at ew hS8
          have HEW := Aside0.mk ew
          obtain ⟨q81, q82, q83⟩ := Kd.S_reads' hS8
          have HQ8 := Aside0.mk (And.intro q82 q83)
          obtain rfl := hAWe
          clear hg5 hf5 hch how8 hwl8 hw8 hu8 hS8 ew q81 q82 q83
          go_wp2_with fail
          refine (all_R HR5.out).mono ?_
          rintro e w6 ⟨A6, n6, c6, rfl, hn6, hl6, hS6, hb6⟩
          have hn6' : n6 = ln := by rw [hn6]; exact HFL.out.2.symm
          have ew6 : w6.cell? ⟨gW, 0, none⟩ = some (.slice A8 ln c8) := pw_cell_below hb6 HEW.out
          have HS6 := Aside0.mk hS6
          have HB6 := Aside0.mk hb6
          have HL6 := Aside0.mk hl6
          subst hn6'
          have HNQ0 := Aside0.mk (show 0 < NQ by have := HNQ.out; omega)
          have hnq0 : 0 < NQ := HNQ0.out
          clear hn6 hl6 hS6 hb6
          go_wp2_with fail
          refine (sameAll_T s.l A6 A8 n6 c6 c8 _ HFL.out.2.symm HSOK.out.2.2.2.2.2 (Nat.le_trans hln64 (by decide)) (by obtain ⟨q1, q2, q3⟩ := Kd.S_reads' HS6.out; rw [← HFL.out.2] at q3; exact q3) HL6.out (by have h9 := Kd.C_below HQ8.out.2 HB6.out; rw [← HFL.out.2] at h9; exact h9) HQ8.out.1).mono ?_
          rintro e w7 ⟨rfl, hb7⟩
          have HR7 := Aside0.mk (RingIs_below HR5.out (below_step HB6.out hb7))
          have HG7 := Aside0.mk (HG5.out.below (below_step HB6.out hb7))
          have HB7 := Aside0.mk (HB5.out.trans ((below_step HB6.out hb7).mono HB5.out.size))
          clear hb7 ew6
          go_wp2_with fail
          refine (last_R HR7.out).mono ?_
          rintro e w8 ⟨rfl, ⟨⟨m8, rfl⟩⟩⟩
          obtain ⟨LA, hLA⟩ : ∃ LA, LA = s.la := ⟨_, rfl⟩
          have hLA2 : LA ≤ 2147483647 := by rw [hLA]; exact HSOK.out.2.2.2.2.1
          rw [← hLA]
          have HLA := Aside0.mk hLA
          have HR8 := Aside0.mk (RingIs_below HR7.out (pw_below_drewN (Below.refl w7.heap.size w7) m8))
          have HG8 := Aside0.mk (HG7.out.below (pw_below_drewN (Below.refl w7.heap.size w7) m8))
          have HB8 := Aside0.mk (pw_below_drewN HB7.out m8)
          obtain ⟨w8, hw8⟩ : ∃ w8, w8 = w7.drewN m8 := ⟨_, rfl⟩
          rw [← hw8] at HR8 HG8 HB8 ⊢
          clear hw8 hLA
          go_wp2_with fail
          have hbo : (w8.alloc (.cells (cells5 o4).toArray 55)).heap[w8.heap.size]? = some (.cells (cells5 o4).toArray 55) := heap_alloc_new w8 _
          have hBo : Below w8.heap.size w8 (w8.alloc (.cells (cells5 o4).toArray 55)) := below_alloc (Below.refl _ _) _
          have hRo : RingIs (w8.alloc (.cells (cells5 o4).toArray 55)) w1.heap.size (fun _ => True) (some b) s := RingIs_mono (RingIs_below HR8.out hBo) (fun _ _ => trivial)
          have hbb : b < w8.heap.size := by
            obtain ⟨_, E, hA, _⟩ := HR8.out
            obtain ⟨C, hC, _⟩ := RingAt_blk hA
            exact blk_lt hC
          have hlive : Live (w8.alloc (.cells (cells5 o4).toArray 55)) (some b) (some ⟨w8.heap.size, 0, none⟩) 1 [o4] := fun W' hf => one_reads (hf.blk hbo (fun hq => by have : b = w8.heap.size := Option.some.inj hq; omega))
          refine (append_R (p := some b) hRo ⟨(LA : Int) + 1, s.lv, 0, 0, 0, [o4]⟩ (some ⟨w8.heap.size, 0, none⟩) 1 1 rfl hlive (by show 1 ≤ 2513169434843; decide) (fun _ _ => trivial)).mono ?_
          rintro e w9 ⟨rfl, hr9, hf9⟩
          have HR9 := Aside0.mk hr9
          have HG9 := Aside0.mk ((HG8.out.below hBo).own1 hRo hf9)
          have HB9 := Aside0.mk (show Below w1.heap.size w1 w9 from (HB8.out.trans (hBo.mono HB8.out.size)).trans (hf9.below (B := w1.heap.size) (fun q hq _ => by have : b = q := Option.some.inj hq; rw [← this]; exact (RingIs_base hRo).1) (Nat.le_trans HB8.out.size hBo.size)))
          clear hbo hBo hRo hbb hlive hr9 hf9
          go_wp2_with fail
          refine (cut_R (p := some b) (LA : Int) HR9.out).mono ?_
          rintro e w10 ⟨rfl, hr10, hf10⟩
          have HG10 := Aside0.mk (HG9.out.own1 HR9.out hf10)
          have HB10 := Aside0.mk (show Below w1.heap.size w1 w10 from HB9.out.trans (hf10.below (B := w1.heap.size) (fun q hq _ => by have : b = q := Option.some.inj hq; rw [← this]; exact (RingIs_base HR9.out).1) HB9.out.size))
          clear hr10 hf10
          go_wp2_with fail
          refine (marks_G HG10.out).mono ?_
          rintro e w11 ⟨rfl, hb11⟩
          have HB11 := Aside0.mk (show Below w.heap.size w w11 from HB.out.trans ((HB10.out.trans (hb11.mono HB10.out.size)).mono HB.out.size))
          clear hb11
          go_wp2
          go_ret
          exact ⟨rfl, HB11.out⟩
end Go.Proofs.Ytcbejpmmlcdhnaa.PW.Gt
namespace Go.Proofs.Ytcbejpmmlcdhnaa.PW
open Go.RowKit Go.Proofs.YtcbejpmmlcdhnaaW.PrintWords Go.Proofs.YtcbejpmmlcdhnaaW.PrintLast Go.Proofs.YtcbejpmmlcdhnaaW.PrintMore
set_option linter.unusedVariables false
set_option linter.unusedSimpArgs false

set_option maxHeartbeats 16000000 in
set_option maxRecDepth 100000 in
theorem ringIsNew_out (a0 a1 : Int) (v : Value) (w : World) (hbad : a0 < 1 ∨ 64 < a0 ∨ a1 < 0 ∨ 100 < a1) :
    Calls Try.prog 9 #[.int .i64 a0, .int .i64 a1, v] w fun e w' => e = .returned (.bool true) ∧ Below w.heap.size w w' := by
  have hcase : a0 < 1 ∨ (1 ≤ a0 ∧ 64 < a0) ∨ (1 ≤ a0 ∧ a0 ≤ 64 ∧ a1 < 0) ∨ (1 ≤ a0 ∧ a0 ≤ 64 ∧ 0 ≤ a1 ∧ 100 < a1) := by omega
  clear hbad
  rcases hcase with h | ⟨h, h2⟩ | ⟨h, h2, h3⟩ | ⟨h, h2, h3, h4⟩
  all_goals
    go_enter Try.func9, Try.ntmps9
    go_wp2_with fail
    refine (begins_R w).mono ?_
    rintro e w1 ⟨rfl, hb⟩
    have HB := Aside0.mk hb
    clear hb
    go_wp2
    go_ret
    exact ⟨rfl, HB.out⟩
theorem ringIsNew_walk (a0 a1 : Int) (A : Option Addr) (q c : Nat) (ms : List Int) (w : World) (hq : ms.length = q) (hC : Kd.C (Kd.int .i64) w A q ms) (hqc : q ≤ c) :
    Calls Try.prog 9 #[.int .i64 a0, .int .i64 a1, .slice A q c] w fun e w' => e = .returned (.bool true) ∧ Below w.heap.size w w' := by
  by_cases h : a0 < 1 ∨ 64 < a0 ∨ a1 < 0 ∨ 100 < a1
  · exact ringIsNew_out a0 a1 _ w h
  · obtain ⟨r, rfl⟩ : ∃ r : Nat, a0 = r := ⟨a0.toNat, by omega⟩
    obtain ⟨n, rfl⟩ : ∃ n : Nat, a1 = n := ⟨a1.toNat, by omega⟩
    by_cases h24 : 24 < q
    · exact Gt.ringIsNew_gt r n A q c ms w (by omega) (by omega) (by omega) hq hC hqc h24
    · exact ringIsNew_le r n A q c ms w (by omega) (by omega) (by omega) hq hC hqc (by omega)
end Go.Proofs.Ytcbejpmmlcdhnaa.PW
namespace Go.Proofs.Ytcbejpmmlcdhnaa.PW
open Go.ChangeShapes Go.WideShapes Go.ChangeAt Go.RowKit Go.Proofs.YtcbejpmmlcdhnaaW.PrintWords Go.Proofs.YtcbejpmmlcdhnaaW.PrintLast Go.Proofs.YtcbejpmmlcdhnaaW.PrintMore
set_option linter.unusedVariables false
theorem open_nums {H : Type} {enc : TypeId × Value → H} {W : World} {a : Option Addr} {len cap : Nat} {d : DataW H} {p : List MemPlace} (h0 : DataW.Trod enc Try.prog W 0 (fun _ => true) true 70 (.slice a len cap) d p) :
    ∃ l0 : List Int, l0.length = len ∧ Kd.C (Kd.int .i64) W a len l0 ∧ len ≤ cap := by
  obtain ⟨fuel, hf⟩ := h0
  rcases open_ints Try.underlying70 Try.underlying3 (by kernel_rfl) hf with ⟨hcs, hx⟩ | ⟨x, l, c, zs, hcs, _, hl, hm, hz, hx, hcell, hwz⟩
  · simp [Value.cells] at hcs
    obtain ⟨rfl, rfl, rfl⟩ := hcs
    exact ⟨[], rfl, ⟨rfl, by omega, fun h => absurd h (by omega)⟩, Nat.le_refl _⟩
  · simp [Value.cells] at hcs
    obtain ⟨rfl, rfl, rfl⟩ := hcs
    simp only [Prod.mk.injEq] at hx
    obtain ⟨rfl, rfl⟩ := hx
    have hz' : zs.length = cap := by simpa using hz
    obtain ⟨l, h1, h2, _, _, h5⟩ := ReadsInt.ofRowC (.inr ⟨x, rfl, hl, hm, hz', hcell, hwz⟩)
    refine ⟨l, h1.symm, ?_, hl⟩
    rw [h1]; exact Kd.C_of_reads (enc := Value.int .i64) (d := (0 : Int)) (h1 := fun _ => rfl) h2
end Go.Proofs.Ytcbejpmmlcdhnaa.PW
