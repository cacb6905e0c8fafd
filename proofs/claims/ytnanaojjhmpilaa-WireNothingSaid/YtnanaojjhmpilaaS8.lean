/- Streams: follows. -/
import Derived.Test.YtnanaojjhmpilaaL4
import Derived.Test.YtnanaojjhmpilaaM6
import Derived.Test.YtnanaojjhmpilaaPWx12
import Derived.Test.YtnanaojjhmpilaaPWx2
import Derived.Outline
namespace Go.Proofs.Ytnanaojjhmpilaa.PW
open Go.RowKit Go.Proofs.YtnanaojjhmpilaaW.PrintWords Go.Proofs.YtnanaojjhmpilaaW.PrintLast Go.Proofs.YtnanaojjhmpilaaW.PrintMore
set_option linter.unusedVariables false
set_option linter.unusedSimpArgs false

theorem skipped_C (b sk : Nat) (vo vf : Value) (w : World) (hb : w.heap[b]? = some (.cells #[vo, vf, .int .i64 (sk : Int)] 53 (0, 0))) :
    Calls Try.prog 44 #[.pointer (some ⟨b, 0, none⟩)] w fun e w' => e = .returned (.int .i64 (sk : Int)) ∧ w = w' := by
  have hc := blk_cell hb 2
  simp only [List.getElem?_toArray, List.getElem?_cons_zero, List.getElem?_cons_succ] at hc
  clear hb
  go_enter Try.func44, Try.ntmps44
  go_wp2
  go_ret
  exact ⟨rfl, rfl⟩
/-- The i-th body of a row, and those behind it. -/
theorem tail_pop {W : World} {base : Nat} {okr : Nat → Prop} {ad : Addr} {m c i : Nat} {fs : List (List Int)} (h : SQ (Kd.slice 5 (Kd.int .u8)) 22 W base okr (.slice (some (ad.add i)) (m - i) (c - i)) (fs.drop i)) (hi : i < m) (hl : fs.length = m) (hc : m ≤ c) :
    ∃ okx Ax cx hd, fs[i]? = some hd ∧ W.cell? (ad.add i) = some (.slice Ax hd.length cx) ∧ hd.length ≤ cx ∧ Kd.R (Kd.int .u8) 5 W base okx (.slice Ax hd.length cx) hd ∧ (∀ k, okx k → okr k ∧ k ≠ ad.block) ∧ okr ad.block ∧
      (i + 1 < m → SQ (Kd.slice 5 (Kd.int .u8)) 22 W base (fun k => okr k ∧ ¬ okx k) (.slice (some (ad.add (i + 1))) (m - (i + 1)) (c - (i + 1))) (fs.drop (i + 1))) := by
  have hlt : i < fs.length := by omega
  rw [List.drop_eq_getElem_cons hlt] at h
  obtain ⟨okx, ad', cs, hA, hcs, hM, hcell, hox, hq⟩ := SQ_pop h
  cases hA
  obtain ⟨v, rfl, hr⟩ : ∃ v, cs = [v] ∧ Kd.R (Kd.int .u8) 5 W base okx v fs[i] := hM
  obtain ⟨Ax, cx, rfl, hlx, _⟩ := Kd.R_reads hr
  have hc0 := hcell 0 _ (by simp; rfl)
  rw [Addr.add_zero'] at hc0
  have hblk : (ad.add i).block = ad.block := by unfold Addr.add; split <;> rfl
  refine ⟨okx, Ax, cx, fs[i], List.getElem?_eq_getElem hlt, hc0, hlx, hr, fun k hk => ⟨(hox k hk).1, fun e => (hox k hk).2 ?_⟩, ?_, fun h1 => ?_⟩
  · rw [e, ← hblk]; rfl
  · have := SQ_ok h (ad.add i).block rfl
    rwa [hblk] at this
  · have hne : ¬ (c - i = 1) := by omega
    rw [if_neg hne] at hq
    have e1 : (some (ad.add i)).map (·.add (1 * (Kd.slice 5 (Kd.int .u8)).sz)) = some (ad.add (i + 1)) := by
      show some ((ad.add i).add (1 * 1)) = _
      rw [Go.Addr.add_add]
    rw [e1] at hq
    simpa [Nat.sub_sub] using hq
theorem add_blk (ad : Addr) (i : Nat) : (ad.add i).block = ad.block := by unfold Addr.add; split <;> rfl
theorem want_at {X pre fs1 fs2 : List (List Int)} {got i : Nat} {hd : List Int} (hX : X = pre ++ (fs1 ++ fs2)) (hg : pre.length = got) (hi : fs1[i]? = some hd) : rd_L1 X ((got + i : Nat) : Int) = hd := by
  unfold rd_L1
  have hlt := (List.getElem?_eq_some_iff.1 hi).1
  rw [Int.toNat_natCast, List.getD_eq_getElem?_getD, hX, List.getElem?_append_right (by omega), show got + i - pre.length = i by omega, List.getElem?_append_left hlt, hi]
  rfl
/-- What follows leaves. -/
def FlPost (base b : Nat) (ok : Nat → Prop) (op : List Int) (fs : List (List Int)) (sk got m : Nat) (w : World) (e : Ending) (w' : World) : Prop :=
  e = .returned (.tuple #[.int .i64 ((got + m : Nat) : Int), .bool true]) ∧ (∃ okS, Strm w' base okS b op (fs.drop m) sk ∧ ∀ k, okS k → ok k) ∧ Frm w w' ok

set_option maxHeartbeats 16000000 in
set_option maxRecDepth 100000 in
theorem follows_C (wl : World) (A : Option Addr) (n c : Nat) (ls : List (List Int)) (F : List Int) (b : Nat) (ok : Nat → Prop) (op : List Int) (fs pre : List (List Int)) (sk got : Nat) (most : Int) (w : World)
    (hC : Kd.C (Kd.slice 5 (Kd.int .u8)) wl A n ls) (hn : ls.length = n) (hc : n ≤ c) (hF : ls.flatten = F) (hFo : bytesOk F = true) (hFl : F.length ≤ 1000000) (hn2 : n ≤ 1000000)
    (hB : Below wl.heap.size wl w) (hS : Strm w wl.heap.size ok b op fs sk) (hpre : (scan F).1 = pre ++ fs) (hgot : pre.length = got) (hsk : (scan F).2.1 = sk) :
    Calls Try.prog 40 #[.pointer (some ⟨b, 0, none⟩), .slice A n c, .int .i64 (got : Int), .int .i64 most] w (FlPost wl.heap.size b ok op fs sk got (min most.toNat fs.length) w) := by
  obtain ⟨X, hX⟩ : ∃ X, X = (scan F).1 := ⟨_, rfl⟩
  have hsz := scan_size F.length F (Nat.le_refl _)
  rw [← hX] at hpre hsz
  have hXl : X.length = got + fs.length := by rw [hpre, List.length_append, hgot]
  obtain ⟨N, hN⟩ : ∃ N, N = fs.length := ⟨_, rfl⟩
  rw [← hN] at hXl
  have hXm : X.length ≤ 1000000 := by omega
  have hXS : ∀ v W B ok, Kd.S (Kd.slice 5 (Kd.int .u8)) 22 W B ok v (scan F).1 → Kd.S (Kd.slice 5 (Kd.int .u8)) 22 W B ok v X := fun v W B ok h => by rw [hX]; exact h
  have HC := Aside0.mk hC
  have HN := Aside0.mk hn
  have HCC := Aside0.mk hc
  have HF := Aside0.mk hF
  have HFO := Aside0.mk hFo
  have HFL := Aside0.mk hFl
  have HB := Aside0.mk hB
  have HS := Aside0.mk (Strm_bound hS)
  have HSK := Aside0.mk hsk
  have HXS := Aside0.mk hXS
  have HXL := Aside0.mk hXl
  have HFS := Aside0.mk hN
  have HP := Aside0.mk hpre
  have HG := Aside0.mk hgot
  have hgm : got ≤ 1000000 := by omega
  have hNm : N ≤ 1000000 := by omega
  have HBD := Aside0.mk (show ∀ p ∈ X, p.length ≤ 1000000 from fun p hp => by have := len_mem hp; unfold tot at this; omega)
  have HT := Aside0.mk (show tot ls ≤ 1000000000000 by unfold tot; rw [hF]; omega)
  rw [← hN]
  obtain ⟨M, hM⟩ : ∃ M, M = min most.toNat N := ⟨_, rfl⟩
  rw [← hM]
  have HMM := Aside0.mk hM
  clear hC hn hc hM hF hFo hFl hB hS hsk hXS hpre hgot hX hsz hXl hN
  go_enter Try.func40, Try.ntmps40
  go_wp2_with fail
  refine (joined_N A c n ls F _ HN.out (Kd.C_below HC.out HB.out) HCC.out HT.out (by omega) HF.out).mono ?_
  rintro e1 w1 ⟨v1, rfl, ho, hb⟩
  obtain ⟨A1, c1, rfl, hl1, hC1⟩ := Kd.R_reads ho
  have HC1 := Aside0.mk hC1
  have HB1 := Aside0.mk hb
  have HS1 := Aside0.mk (Strm_below HS.out hb)
  clear ho hb hC1
  go_wp2_with fail
  refine (says_M A1 c1 F.length F _ rfl HC1.out hl1 HFO.out HFL.out).mono ?_
  rintro e2 w2 ⟨v2, rfl, ho, hb⟩
  rw [HSK.out]
  have hoX : Kd.S (Kd.slice 5 (Kd.int .u8)) 22 w2 wl.heap.size (fun k => w.heap.size ≤ k ∧ k < w2.heap.size) v2 X := Kd.S_lower (Kd.S_mono (Kd.S_bound (HXS.out _ _ _ _ ho)) (fun k hk => ⟨Nat.le_trans HB1.out.size hk.2.1, hk.2.2.1⟩)) (Nat.le_trans HB.out.size HB1.out.size)
  obtain ⟨A2, c2, rfl, hl2, _⟩ := Kd.S_reads hoX
  have HW2 := Aside0.mk hoX
  have HB2 := Aside0.mk (below_step HB1.out hb)
  have HS2 := Aside0.mk (Strm_below HS1.out hb)
  clear ho hb hoX HC1 HS1 HB1
  go_wp2_with fail
  refine (taken_C b wl.heap.size _ op fs sk most _ HS2.out (Nat.le_trans HB.out.size HB2.out.size) (by rw [← HFS.out]; exact hNm)).mono ?_
  rintro e3 w3 ⟨v3, okS, okr, fs1, fs2, rfl, hfs, hl3, hq, hs, hS1, hS2, hf⟩
  rw [← HFS.out] at hl3
  obtain ⟨m, hm⟩ : ∃ m, fs1.length = m := ⟨_, rfl⟩
  obtain ⟨A3, c3, rfl, hlc3⟩ := SQ_slice hq
  rw [hm] at hl3 hlc3 hq ⊢
  have hnm : N = m + fs2.length := by rw [HFS.out, hfs, List.length_append, hm]
  have hmN : m ≤ N := by omega
  have hfd : fs.drop m = fs2 := by rw [hfs, ← hm]; simp
  obtain rfl : m = M := by rw [hl3, HMM.out]
  have HM := Aside0.mk hm
  have HFD := Aside0.mk hfd
  have hsub : (X.length : Int) - (got : Int) = (N : Int) := by have := HXL.out; omega
  have HQ3 := Aside0.mk hq
  have HS3 := Aside0.mk hs
  have HD1 := Aside0.mk hS1
  have HD2 := Aside0.mk hS2
  have HF3 := Aside0.mk hf
  have HFS3 := Aside0.mk hfs
  have HL3 := Aside0.mk hl3
  obtain ⟨vo3, A3', c3', hb3, _⟩ := Strm_blk hs
  have HBK := Aside0.mk hb3
  clear hq hs hS1 hS2 hf hfs hb3 hm hfd hnm HMM
  go_wp2_with fail
  refine (skipped_C b sk vo3 (.slice A3' fs2.length c3') _ HBK.out).mono ?_
  rintro e4 w4 ⟨rfl, rfl⟩
  have hbw : b < w.heap.size := by obtain ⟨_, h, _⟩ := HS.out; exact h.2.2
  have HOB := Aside0.mk (show ok b by obtain ⟨_, h, _⟩ := HS.out; exact h.1)
  have HW3 := Aside0.mk (show Kd.S (Kd.slice 5 (Kd.int .u8)) 22 w3 wl.heap.size (fun k => w.heap.size ≤ k ∧ k < w2.heap.size) (.slice A2 X.length c2) X from
    Kd.S_step HW2.out (fun k hk hlt => HF3.out.block k hlt (fun e => by omega)))
  have HFW := Aside0.mk (show Frm w w3 ok from (Frm.of_below HB2.out ok).then_ HF3.out (fun k e _ => e ▸ HOB.out))
  have HA3 := Aside0.mk (show 0 < m → ∃ ad, A3 = some ad from fun h0 => by
    have hq := HQ3.out
    cases hf1 : fs1 with
    | nil => have := HM.out; rw [hf1] at this; simp at this; omega
    | cons x xs =>
      rw [hf1] at hq
      obtain ⟨_, ad, _, hA, _⟩ := SQ_pop hq
      exact ⟨ad, hA⟩)
  have HLC := Aside0.mk hlc3
  have HQ3' := Aside0.mk (show SQ (Kd.slice 5 (Kd.int .u8)) 22 w3 wl.heap.size okr (.slice (A3.map (·.add 0)) (m - 0) (c3 - 0)) (fs1.drop 0) from by
    have : A3.map (·.add 0) = A3 := by cases A3 <;> simp [Addr.add_zero']
    rw [this]; exact HQ3.out)
  clear hlc3
  by_cases q1 : most < 0
  · have q2 : ¬ ((N : Int) ≤ most) := by omega
    have hm0 : m = 0 := by omega
    clear hl3
    subst hm0
    go_wp2
    go_loopw [15] (fun v15 wr => v15 = .int .i64 0 ∧ Aside0 (wr = w3)) (fun _ _ => 0)
    case atStart => exact ⟨rfl, ⟨rfl⟩⟩
    case round =>
      obtain ⟨rfl, HE⟩ := hrel
      go_wp2
      go_ret2
      rw [HE.out]
      exact ⟨by simp, ⟨okS, by rw [HFD.out]; exact HS3.out, fun k hk => (HD1.out k hk).1.1⟩, HFW.out⟩
  · by_cases q2 : (N : Int) ≤ most
    · have hmn : m = N := by omega
      subst hmn
      clear hl3
      have d1 : decide (most < (m : Int)) = false := decide_eq_false (by omega)
      have d2 : decide ((m : Int) < 0) = false := decide_eq_false (by omega)
      go_wp2
      go_loopw [15] (fun v15 wr => ∃ (i : Nat) (okq : Nat → Prop), i ≤ m ∧ v15 = .int .i64 (i : Int) ∧ Aside0 (∀ k, okq k → okr k) ∧ Aside0 (i < m → SQ (Kd.slice 5 (Kd.int .u8)) 22 wr wl.heap.size okq (.slice (A3.map (·.add i)) (m - i) (c3 - i)) (fs1.drop i)) ∧
        Aside0 (Strm wr wl.heap.size okS b op fs2 sk) ∧ Aside0 (Kd.S (Kd.slice 5 (Kd.int .u8)) 22 wr wl.heap.size (fun k => w.heap.size ≤ k ∧ k < w2.heap.size) (.slice A2 X.length c2) X) ∧ Aside0 (Frm w wr ok)) (fun v15 _ => m - (intOf v15).toNat)
      case atStart => exact ⟨0, okr, Nat.zero_le _, rfl, ⟨fun k hk => hk⟩, ⟨fun _ => HQ3'.out⟩, HS3, HW3, HFW⟩
      case round =>
        clear HQ3' HQ3 HS3 HW3 HFW HBK
        obtain ⟨i, okq, hi, rfl, HOQ, HQ, HST, HWT, HFR⟩ := hrel
        by_cases hlt : i < m
        · obtain ⟨ad, rfl⟩ := HA3.out (by omega)
          have hq := HQ.out hlt
          simp only [Option.map_some] at hq
          obtain ⟨okx, Ax, cx, hd, hget, hcell, hlx, hrow, hox, hob, htail⟩ := tail_pop hq hlt HM.out HLC.out
          have hgl : got + i < X.length := by have := HXL.out; omega
          obtain ⟨ad2, A0, c0, rfl, hy, hly, hCy⟩ := at_L1 (Kd.S_reads' HWT.out).2.2 ((got + i : Nat) : Int) (by omega) (by omega)
          rw [Int.toNat_natCast] at hy
          rw [want_at (by rw [HP.out, HFS3.out]) HG.out hget] at hy hly hCy
          have hdl : hd.length ≤ 1000000 := HBD.out hd (by rw [HP.out, HFS3.out]; exact List.mem_append_right _ (List.mem_append_left _ (List.mem_of_getElem? hget)))
          have hw1 : IntKind.i64.wrap ((got : Int) + (i : Int)) = (got : Int) + i := IntWalk.i64_in _ (by omega)
          have hw0 : (0 : Int) ≤ (got : Int) + i := by omega
          have hw2 : ((got : Int) + (i : Int)).toNat = got + i := by omega
          have hw3 : (got : Int) + (i : Int) < (X.length : Int) := by omega
          have I1 := Aside0.mk hrow
          have I2 := Aside0.mk hox
          have I3 := Aside0.mk hob
          have I4 := Aside0.mk htail
          have I5 := Aside0.mk hCy
          have I6 := Aside0.mk (Kd.R_reads' hrow).2.2
          clear hq hrow hox hob htail hCy hget
          go_wp2_with fail
          go_quiet (first | (go_at_call 20; exact Drawn0.quiet (heraldlaw2_same.callsB true 10000000 Ax cx hd.length hd A0 c0 hd.length hd _ (decide_eq_true rfl) rfl rfl (by repeat (first | exact I6.out | apply Kd.C_drewN | apply Kd.C_drew)) hlx (by repeat (first | exact I5.out | apply Kd.C_drewN | apply Kd.C_drew)) hly (by omega) (by omega))))
          obtain ⟨W3, hW3⟩ : ∃ W3 : World, W3 = wr.drewN nq := ⟨_, rfl⟩
          rw [← hW3]
          have J1 := Aside0.mk (show Kd.R (Kd.int .u8) 5 W3 wl.heap.size okx (.slice Ax hd.length cx) hd from hW3 ▸ Kd.R_drewN I1.out nq)
          have J2 := Aside0.mk (show W3.cell? (ad.add i) = some (.slice Ax hd.length cx) from by rw [hW3]; exact hcell)
          have J3 := Aside0.mk (show i + 1 < m → SQ (Kd.slice 5 (Kd.int .u8)) 22 W3 wl.heap.size (fun k => okq k ∧ ¬ okx k) (.slice (some (ad.add (i + 1))) (m - (i + 1)) (c3 - (i + 1))) (fs1.drop (i + 1)) from fun h => by rw [hW3]; exact SQ_step (I4.out h) (fun _ _ _ => rfl))
          have J4 := Aside0.mk (show Strm W3 wl.heap.size okS b op fs2 sk from by rw [hW3]; exact Strm_step HST.out (fun _ _ _ => rfl))
          have J5 := Aside0.mk (show Kd.S (Kd.slice 5 (Kd.int .u8)) 22 W3 wl.heap.size (fun k => w.heap.size ≤ k ∧ k < w2.heap.size) (.slice (some ad2) X.length c2) X from hW3 ▸ Kd.S_drewN HWT.out nq)
          have J6 := Aside0.mk (show Frm w W3 ok from by rw [hW3]; exact ⟨HFR.out.os, HFR.out.tape, HFR.out.output, HFR.out.size, HFR.out.block⟩)
          clear hW3 I1 I4 I5 I6 HQ HST HWT HFR hcell hy hly hw1 hw0 hw2 hw3
          go_wp2
          go_loopw [16] (fun v16 wi => ∃ (k : Nat) (cur : List Int), k ≤ hd.length ∧ v16 = .int .i64 (k : Int) ∧ Aside0 (cur.length = hd.length) ∧ Aside0 (Kd.R (Kd.int .u8) 5 wi wl.heap.size okx (.slice Ax hd.length cx) cur) ∧ Aside0 (wi.cell? (ad.add i) = some (.slice Ax hd.length cx)) ∧
            Aside0 (i + 1 < m → SQ (Kd.slice 5 (Kd.int .u8)) 22 wi wl.heap.size (fun k => okq k ∧ ¬ okx k) (.slice (some (ad.add (i + 1))) (m - (i + 1)) (c3 - (i + 1))) (fs1.drop (i + 1))) ∧
            Aside0 (Strm wi wl.heap.size okS b op fs2 sk) ∧ Aside0 (Kd.S (Kd.slice 5 (Kd.int .u8)) 22 wi wl.heap.size (fun k => w.heap.size ≤ k ∧ k < w2.heap.size) (.slice (some ad2) X.length c2) X) ∧ Aside0 (Frm w wi ok)) (fun v16 _ => hd.length - (intOf v16).toNat)
          case atStart => exact ⟨0, hd, Nat.zero_le _, rfl, ⟨rfl⟩, J1, J2, J3, J4, J5, J6⟩
          case round =>
            clear J1 J2 J3 J4 J5 J6
            obtain ⟨k, cur, hk, rfl, L1, L2, L3, L4, L5, L6, L7⟩ := hrel
            have hcell := L3.out
            by_cases hkl : k < hd.length
            · obtain ⟨g, rfl, hgb, hcg, hfg, hst⟩ := R8_stored (Kd.R_mono L2.out (fun _ _ => trivial)) k hkl
              have hxg := L2.out.1 g rfl
              have hqg := (I2.out g hxg).1
              have hgne := (I2.out g hxg).2
              have hrg := HOQ.out g hqg
              have M1 := Aside0.mk hst
              have M2 := Aside0.mk hxg
              have M3 := Aside0.mk hrg
              have M4 := Aside0.mk hgne
              have M5 := Aside0.mk (show ok g ∨ w.heap.size ≤ g from (HD2.out g hrg).elim (fun h => .inl h.1) (fun h => .inr (Nat.le_trans HB2.out.size h)))
              have M6 := Aside0.mk (show ∀ k, w.heap.size ≤ k ∧ k < w2.heap.size → k ≠ g from fun k hk e => by
                subst e
                rcases HD2.out k hrg with h | h
                · have := h.2.2; omega
                · omega)
              clear hst hxg hqg hgne hrg
              go_wp2
              go_roundw
              case rel =>
                refine ⟨k + 1, cur.set k 238, by omega, by go_num, ⟨by rw [List.length_set]; exact L1.out⟩, ⟨R8_ok' (M1.out 238) (fun k' hk' => L2.out.1 k' hk')⟩, ⟨?_⟩, ⟨fun h => SQ_step (L4.out h) (fun k' hk' _ => Below.heap_setCell wr _ _ k' (fun e => hk'.2 (by have e' : k' = g := e; rw [e']; exact M2.out)))⟩,
                  ⟨Strm_step L5.out (fun k' hk' _ => Below.heap_setCell wr _ _ k' (fun e => (HD1.out k' hk').2 (by have e' : k' = g := e; rw [e']; exact M3.out)))⟩, ⟨Kd.S_step L6.out (fun k' hk' _ => Below.heap_setCell wr _ _ k' (M6.out k' hk'))⟩, ⟨L7.out.set_ M5.out _⟩⟩
                rw [World.cell?_of_block (Below.heap_setCell wr _ _ (ad.add i).block (fun e => M4.out (by have e' : (ad.add i).block = g := e; rw [add_blk] at e'; exact e'.symm)))]
                exact L3.out
              case measure => simp [intOf]; omega
            · have hkk : k = hd.length := by omega
              subst hkk
              go_wp2
              go_roundw
              case rel =>
                exact ⟨i + 1, fun k => okq k ∧ ¬ okx k, by omega, by go_num, ⟨fun k hk => HOQ.out k hk.1⟩, ⟨fun h => L4.out h⟩, L5, L6, L7⟩
              case measure => simp [intOf]; omega
        · have him : i = m := by omega
          subst him
          go_wp2
          go_ret2
          exact ⟨by simp, ⟨okS, by rw [HFD.out]; exact HST.out, fun k hk => (HD1.out k hk).1.1⟩, HFR.out⟩
    · have hmm : (m : Int) = most := by omega
      subst hmm
      clear hl3
      have d1 : decide ((m : Int) < (N : Int)) = true := decide_eq_true (by omega)
      have d2 : decide ((m : Int) < 0) = false := decide_eq_false (by omega)
      go_wp2
      go_loopw [15] (fun v15 wr => ∃ (i : Nat) (okq : Nat → Prop), i ≤ m ∧ v15 = .int .i64 (i : Int) ∧ Aside0 (∀ k, okq k → okr k) ∧ Aside0 (i < m → SQ (Kd.slice 5 (Kd.int .u8)) 22 wr wl.heap.size okq (.slice (A3.map (·.add i)) (m - i) (c3 - i)) (fs1.drop i)) ∧
        Aside0 (Strm wr wl.heap.size okS b op fs2 sk) ∧ Aside0 (Kd.S (Kd.slice 5 (Kd.int .u8)) 22 wr wl.heap.size (fun k => w.heap.size ≤ k ∧ k < w2.heap.size) (.slice A2 X.length c2) X) ∧ Aside0 (Frm w wr ok)) (fun v15 _ => m - (intOf v15).toNat)
      case atStart => exact ⟨0, okr, Nat.zero_le _, rfl, ⟨fun k hk => hk⟩, ⟨fun _ => HQ3'.out⟩, HS3, HW3, HFW⟩
      case round =>
        clear HQ3' HQ3 HS3 HW3 HFW HBK
        obtain ⟨i, okq, hi, rfl, HOQ, HQ, HST, HWT, HFR⟩ := hrel
        by_cases hlt : i < m
        · obtain ⟨ad, rfl⟩ := HA3.out (by omega)
          have hq := HQ.out hlt
          simp only [Option.map_some] at hq
          obtain ⟨okx, Ax, cx, hd, hget, hcell, hlx, hrow, hox, hob, htail⟩ := tail_pop hq hlt HM.out HLC.out
          have hgl : got + i < X.length := by have := HXL.out; omega
          obtain ⟨ad2, A0, c0, rfl, hy, hly, hCy⟩ := at_L1 (Kd.S_reads' HWT.out).2.2 ((got + i : Nat) : Int) (by omega) (by omega)
          rw [Int.toNat_natCast] at hy
          rw [want_at (by rw [HP.out, HFS3.out]) HG.out hget] at hy hly hCy
          have hdl : hd.length ≤ 1000000 := HBD.out hd (by rw [HP.out, HFS3.out]; exact List.mem_append_right _ (List.mem_append_left _ (List.mem_of_getElem? hget)))
          have hw1 : IntKind.i64.wrap ((got : Int) + (i : Int)) = (got : Int) + i := IntWalk.i64_in _ (by omega)
          have hw0 : (0 : Int) ≤ (got : Int) + i := by omega
          have hw2 : ((got : Int) + (i : Int)).toNat = got + i := by omega
          have hw3 : (got : Int) + (i : Int) < (X.length : Int) := by omega
          have I1 := Aside0.mk hrow
          have I2 := Aside0.mk hox
          have I3 := Aside0.mk hob
          have I4 := Aside0.mk htail
          have I5 := Aside0.mk hCy
          have I6 := Aside0.mk (Kd.R_reads' hrow).2.2
          clear hq hrow hox hob htail hCy hget
          go_wp2_with fail
          go_quiet (first | (go_at_call 20; exact Drawn0.quiet (heraldlaw2_same.callsB true 10000000 Ax cx hd.length hd A0 c0 hd.length hd _ (decide_eq_true rfl) rfl rfl (by repeat (first | exact I6.out | apply Kd.C_drewN | apply Kd.C_drew)) hlx (by repeat (first | exact I5.out | apply Kd.C_drewN | apply Kd.C_drew)) hly (by omega) (by omega))))
          obtain ⟨W3, hW3⟩ : ∃ W3 : World, W3 = wr.drewN nq := ⟨_, rfl⟩
          rw [← hW3]
          have J1 := Aside0.mk (show Kd.R (Kd.int .u8) 5 W3 wl.heap.size okx (.slice Ax hd.length cx) hd from hW3 ▸ Kd.R_drewN I1.out nq)
          have J2 := Aside0.mk (show W3.cell? (ad.add i) = some (.slice Ax hd.length cx) from by rw [hW3]; exact hcell)
          have J3 := Aside0.mk (show i + 1 < m → SQ (Kd.slice 5 (Kd.int .u8)) 22 W3 wl.heap.size (fun k => okq k ∧ ¬ okx k) (.slice (some (ad.add (i + 1))) (m - (i + 1)) (c3 - (i + 1))) (fs1.drop (i + 1)) from fun h => by rw [hW3]; exact SQ_step (I4.out h) (fun _ _ _ => rfl))
          have J4 := Aside0.mk (show Strm W3 wl.heap.size okS b op fs2 sk from by rw [hW3]; exact Strm_step HST.out (fun _ _ _ => rfl))
          have J5 := Aside0.mk (show Kd.S (Kd.slice 5 (Kd.int .u8)) 22 W3 wl.heap.size (fun k => w.heap.size ≤ k ∧ k < w2.heap.size) (.slice (some ad2) X.length c2) X from hW3 ▸ Kd.S_drewN HWT.out nq)
          have J6 := Aside0.mk (show Frm w W3 ok from by rw [hW3]; exact ⟨HFR.out.os, HFR.out.tape, HFR.out.output, HFR.out.size, HFR.out.block⟩)
          clear hW3 I1 I4 I5 I6 HQ HST HWT HFR hcell hy hly hw1 hw0 hw2 hw3
          go_wp2
          go_loopw [16] (fun v16 wi => ∃ (k : Nat) (cur : List Int), k ≤ hd.length ∧ v16 = .int .i64 (k : Int) ∧ Aside0 (cur.length = hd.length) ∧ Aside0 (Kd.R (Kd.int .u8) 5 wi wl.heap.size okx (.slice Ax hd.length cx) cur) ∧ Aside0 (wi.cell? (ad.add i) = some (.slice Ax hd.length cx)) ∧
            Aside0 (i + 1 < m → SQ (Kd.slice 5 (Kd.int .u8)) 22 wi wl.heap.size (fun k => okq k ∧ ¬ okx k) (.slice (some (ad.add (i + 1))) (m - (i + 1)) (c3 - (i + 1))) (fs1.drop (i + 1))) ∧
            Aside0 (Strm wi wl.heap.size okS b op fs2 sk) ∧ Aside0 (Kd.S (Kd.slice 5 (Kd.int .u8)) 22 wi wl.heap.size (fun k => w.heap.size ≤ k ∧ k < w2.heap.size) (.slice (some ad2) X.length c2) X) ∧ Aside0 (Frm w wi ok)) (fun v16 _ => hd.length - (intOf v16).toNat)
          case atStart => exact ⟨0, hd, Nat.zero_le _, rfl, ⟨rfl⟩, J1, J2, J3, J4, J5, J6⟩
          case round =>
            clear J1 J2 J3 J4 J5 J6
            obtain ⟨k, cur, hk, rfl, L1, L2, L3, L4, L5, L6, L7⟩ := hrel
            have hcell := L3.out
            by_cases hkl : k < hd.length
            · obtain ⟨g, rfl, hgb, hcg, hfg, hst⟩ := R8_stored (Kd.R_mono L2.out (fun _ _ => trivial)) k hkl
              have hxg := L2.out.1 g rfl
              have hqg := (I2.out g hxg).1
              have hgne := (I2.out g hxg).2
              have hrg := HOQ.out g hqg
              have M1 := Aside0.mk hst
              have M2 := Aside0.mk hxg
              have M3 := Aside0.mk hrg
              have M4 := Aside0.mk hgne
              have M5 := Aside0.mk (show ok g ∨ w.heap.size ≤ g from (HD2.out g hrg).elim (fun h => .inl h.1) (fun h => .inr (Nat.le_trans HB2.out.size h)))
              have M6 := Aside0.mk (show ∀ k, w.heap.size ≤ k ∧ k < w2.heap.size → k ≠ g from fun k hk e => by
                subst e
                rcases HD2.out k hrg with h | h
                · have := h.2.2; omega
                · omega)
              clear hst hxg hqg hgne hrg
              go_wp2
              go_roundw
              case rel =>
                refine ⟨k + 1, cur.set k 238, by omega, by go_num, ⟨by rw [List.length_set]; exact L1.out⟩, ⟨R8_ok' (M1.out 238) (fun k' hk' => L2.out.1 k' hk')⟩, ⟨?_⟩, ⟨fun h => SQ_step (L4.out h) (fun k' hk' _ => Below.heap_setCell wr _ _ k' (fun e => hk'.2 (by have e' : k' = g := e; rw [e']; exact M2.out)))⟩,
                  ⟨Strm_step L5.out (fun k' hk' _ => Below.heap_setCell wr _ _ k' (fun e => (HD1.out k' hk').2 (by have e' : k' = g := e; rw [e']; exact M3.out)))⟩, ⟨Kd.S_step L6.out (fun k' hk' _ => Below.heap_setCell wr _ _ k' (M6.out k' hk'))⟩, ⟨L7.out.set_ M5.out _⟩⟩
                rw [World.cell?_of_block (Below.heap_setCell wr _ _ (ad.add i).block (fun e => M4.out (by have e' : (ad.add i).block = g := e; rw [add_blk] at e'; exact e'.symm)))]
                exact L3.out
              case measure => simp [intOf]; omega
            · have hkk : k = hd.length := by omega
              subst hkk
              go_wp2
              go_roundw
              case rel =>
                exact ⟨i + 1, fun k => okq k ∧ ¬ okx k, by omega, by go_num, ⟨fun k hk => HOQ.out k hk.1⟩, ⟨fun h => L4.out h⟩, L5, L6, L7⟩
              case measure => simp [intOf]; omega
        · have him : i = m := by omega
          subst him
          go_wp2
          go_ret2
          exact ⟨by simp, ⟨okS, by rw [HFD.out]; exact HST.out, fun k hk => (HD1.out k hk).1.1⟩, HFR.out⟩
end Go.Proofs.Ytnanaojjhmpilaa.PW
