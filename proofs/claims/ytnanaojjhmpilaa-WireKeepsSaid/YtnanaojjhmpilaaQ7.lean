/- WireKeeps: the law's walk. -/
import Derived.Test.YtnanaojjhmpilaaX2
import Derived.Test.YtnanaojjhmpilaaPWx12
import Derived.Test.YtnanaojjhmpilaaPWx2
import Derived.Test.YtnanaojjhmpilaaPWx9
namespace Go.Proofs.Ytnanaojjhmpilaa.PW
open Go.RowKit Go.Proofs.YtnanaojjhmpilaaW.PrintWords Go.Proofs.YtnanaojjhmpilaaW.PrintLast Go.Proofs.YtnanaojjhmpilaaW.PrintMore
set_option linter.unusedVariables false
set_option linter.unusedSimpArgs false
def rg16.T29 : Bool × List (List Nat × List Nat) := (true, [([], []), ([], []), ([1], [1]), ([], []), ([3, 2], [3]), ([], []), ([5, 4], [5]), ([], []), ([7, 6], [7]), ([], []), ([9, 8], [9]), ([], []), ([11, 10], [11]), ([], []), ([13], [13]), ([14], [14]), ([15, 12], [15]), ([], []), ([17], [17]), ([18], [18]), ([19, 16], [19]), ([], []), ([21], [21]), ([22], [22]), ([23, 20], [23]), ([2, 4, 6, 8, 10, 12, 16, 20, 24], [2, 4, 6, 8, 10, 12, 16, 20, 24]), ([0, 25, 24], [0, 25]), ([26, 26, 0, 1, 2, 3, 4, 5, 6, 7, 8, 9, 10, 11, 12, 13, 14, 15, 16, 17, 18, 19, 20, 21, 22, 23, 24, 25, 26], [0, 26])])
def rg16.B29 : List Nat := [0, 0, 2, 0, 14, 0, 62, 0, 254, 0, 1022, 0, 4094, 0, 8192, 24576, 65534, 0, 131072, 393216, 1048574, 0, 2097152, 6291456, 16777214, 33554430, 67108863, 134217727]
theorem rg16.tab29 : rtab .any (opsOf Try.f16 29) = rg16.T29 := by kernel_rfl
theorem rg16.bits29 : waitsOk rg16.T29.2 rg16.B29 = true := by kernel_rfl
def rg16.T33 : Bool × List (List Nat × List Nat) := (true, [([], []), ([], []), ([0, 1], [0, 1]), ([2], [2]), ([3], [3]), ([], []), ([], []), ([5, 6], [5, 6]), ([7], [7]), ([8], [8]), ([4, 9], [4, 9]), ([10], [10]), ([11, 10], [11]), ([12], [12]), ([12], [12]), ([13, 14, 12], [12, 13, 14]), ([15, 12], [12, 15]), ([16, 12], [12, 16]), ([12], [12]), ([12], [12]), ([19, 12], [12, 19]), ([18, 20, 12], [12, 18, 20]), ([21, 12], [12, 21]), ([22, 12], [12, 22]), ([17, 23, 12, 12], [12, 17, 23]), ([24, 12], [12, 24]), ([12, 25], [12, 25])])
def rg16.B33 : List Nat := [0, 0, 3, 7, 15, 0, 0, 96, 224, 480, 1023, 2047, 4095, 8191, 8191, 32767, 65535, 131071, 8191, 8191, 532479, 1843199, 3940351, 8134655, 16777215, 33554431, 67108863]
theorem rg16.tab33 : rtab .any (opsOf Try.f16 33) = rg16.T33 := by kernel_rfl
theorem rg16.bits33 : waitsOk rg16.T33.2 rg16.B33 = true := by kernel_rfl

set_option maxHeartbeats 64000000 in
set_option maxRecDepth 100000 in
theorem wireKeeps_walk (v : Int) (s : ByteArray) (A2 : Option Addr) (c2 n2 : Nat) (body : List Int) (A3 : Option Addr) (c3 n3 : Nat) (other : List Int) (rounds : Int) (w : World)
    (hn2 : body.length = n2) (hr2 : C8 w A2 n2 body) (hc2 : n2 ≤ c2) (hok2 : bytesOk body = true) (hm2 : n2 ≤ 140737488351232)
    (hn3 : other.length = n3) (hr3 : C8 w A3 n3 other) (hc3 : n3 ≤ c3) (hok3 : bytesOk other = true) (hm3 : n3 ≤ 140737488351232) (hs : s.size ≤ 140737488355328) :
    Calls Try.prog 16 #[.int .i64 v, .string s, .slice A2 n2 c2, .slice A3 n3 c3, .int .i64 rounds] w fun e w' => e = .returned (.bool true) ∧ Below w.heap.size w w' := by
  have N2 := Aside0.mk hn2
  have R2 := Aside0.mk hr2
  have C2 := Aside0.mk hc2
  have O2 := Aside0.mk hok2
  have N3 := Aside0.mk hn3
  have R3 := Aside0.mk hr3
  have C3 := Aside0.mk hc3
  have O3 := Aside0.mk hok3
  obtain ⟨ns, hns⟩ : ∃ ns, ns = s.size := ⟨_, rfl⟩
  by_cases hbig : s.size ≤ 20000 ∧ n2 ≤ 20000 ∧ n3 ≤ 20000
  case neg =>
    clear hn2 hr2 hc2 hok2 hn3 hr3 hc3 hok3
    go_enter Try.func16, Try.ntmps16
    go_wp2_with fail
    refine (heraldlaw2_awake.calls true _ rfl).mono ?_
    rintro e0 w0 ⟨rfl, hb0⟩
    have HB0 := Aside0.mk hb0
    clear hb0
    by_cases h1 : s.size ≤ 20000
    · have d1 : decide ((20000 : Int) < (s.size : Int)) = false := decide_eq_false (by omega)
      by_cases h2 : n2 ≤ 20000
      · have d2 : decide ((20000 : Int) < (n2 : Int)) = false := decide_eq_false (by omega)
        have d3 : decide ((20000 : Int) < (n3 : Int)) = true := decide_eq_true (by omega)
        go_wp2
        go_ret
        exact ⟨rfl, HB0.out⟩
      · have d2 : decide ((20000 : Int) < (n2 : Int)) = true := decide_eq_true (by omega)
        go_wp2
        go_ret
        exact ⟨rfl, HB0.out⟩
    · have d1 : decide ((20000 : Int) < (s.size : Int)) = true := decide_eq_true (by omega)
      go_wp2
      go_ret
      exact ⟨rfl, HB0.out⟩
  case pos =>
  obtain ⟨h1, h2, h3⟩ := hbig
  have d1 : decide ((20000 : Int) < (s.size : Int)) = false := decide_eq_false (by omega)
  have d2 : decide ((20000 : Int) < (n2 : Int)) = false := decide_eq_false (by omega)
  have d3 : decide ((20000 : Int) < (n3 : Int)) = false := decide_eq_false (by omega)
  clear hn2 hr2 hc2 hok2 hn3 hr3 hc3 hok3 hns
  go_enter Try.func16, Try.ntmps16
  go_wp2_with fail
  refine (heraldlaw2_awake.calls true _ rfl).mono ?_
  rintro e0 w0 ⟨rfl, hb0⟩
  have HB0 := Aside0.mk hb0
  clear hb0
  go_wp2
  have hbb : (w0.alloc (.cells #[.slice none 0 0, .slice none 0 0, .int .i64 0] 53)).heap[w0.heap.size]? = some (.cells #[.slice none 0 0, .slice none 0 0, .int .i64 0] 53 (0, 0)) := heap_alloc_new w0 _
  have HS0 := Aside0.mk (StrmAt_new hbb HB0.out.size)
  have HBs := Aside0.mk (below_alloc HB0.out (.cells #[.slice none 0 0, .slice none 0 0, .int .i64 0] 53))
  have HBZ := Aside0.mk (show w0.heap.size < (w0.alloc (.cells #[.slice none 0 0, .slice none 0 0, .int .i64 0] 53)).heap.size ∧ w.heap.size ≤ w0.heap.size from ⟨by simp, HB0.out.size⟩)
  obtain ⟨b, hb⟩ : ∃ b, b = w0.heap.size := ⟨_, rfl⟩
  obtain ⟨ws, hws⟩ : ∃ ws, ws = w0.alloc (.cells #[.slice none 0 0, .slice none 0 0, .int .i64 0] 53) := ⟨_, rfl⟩
  obtain ⟨La, hLa⟩ : ∃ La, (numEnc v).1 = La := ⟨_, rfl⟩
  obtain ⟨Lb, hLb⟩ : ∃ Lb, (textEnc s).1 = Lb := ⟨_, rfl⟩
  obtain ⟨Ea, hEa⟩ : ∃ Ea, (numEnc v).2 = Ea := ⟨_, rfl⟩
  obtain ⟨Eb, hEb⟩ : ∃ Eb, (textEnc s).2 = Eb := ⟨_, rfl⟩
  obtain ⟨Fc, hFc⟩ : ∃ Fc, frameOf body = Fc := ⟨_, rfl⟩
  obtain ⟨Fx, hFx⟩ : ∃ Fx, frameOf other = Fx := ⟨_, rfl⟩
  have HLa := Aside0.mk hLa
  have HLb := Aside0.mk hLb
  have HEa := Aside0.mk hEa
  have HEb := Aside0.mk hEb
  have HFc := Aside0.mk hFc
  have HFx := Aside0.mk hFx
  have HNF := Aside0.mk (show Fc.length = n2 + 14 ∧ Fx.length = n3 + 14 from ⟨by rw [← hFc, frameOf_length, N2.out], by rw [← hFx, frameOf_length, N3.out]⟩)
  have HAL := Aside0.mk (show La.length ≤ 40000 ∧ Lb.length ≤ 40000 from ⟨by rw [← hLa]; exact numEnc_len v, by rw [← hLb]; exact textEnc_len s h1⟩)
  rw [← hb, ← hws] at HS0 HBZ ⊢
  rw [← hws] at HBs
  clear hb hws hbb HB0 hLa hLb hEa hEb hFc hFx d1 d2 d3
  go_loopw [11, 13, 14, 15, 16, 17, 18, 19, 20, 21, 22, 23, 24, 25, 26, 27, 28, 29] (fun v11 v13 _ _ _ _ _ _ _ _ _ _ _ _ _ _ _ _ wr => ∃ (r N : Nat) (ls us X : List Value) (okS : Nat → Prop), r ≤ 40 ∧ N = 9 * r ∧ v13 = .int .i64 (r : Int) ∧ Aside0 (Book8 wr w.heap.size v11 N (keepC La Lb Fc Fx body other) ls us X) ∧ Aside0 (StrmAt wr w.heap.size okS b [] [] []) ∧ Aside0 (∀ k, okS k → (w.heap.size ≤ k ∧ k < wr.heap.size) ∧ ¬ blocks ls k ∧ ¬ blocks us k ∧ v11.ownBlock ≠ some k) ∧ Aside0 (Below w.heap.size w wr)) (fun _ v13 _ _ _ _ _ _ _ _ _ _ _ _ _ _ _ _ _ => 41 - (intOf v13).toNat)
  case atStart => exact ⟨0, 0, [], [], [], _, by omega, rfl, rfl, ⟨Book8.nil _ _ _⟩, HS0, ⟨fun k hk => ⟨⟨by rw [hk]; exact HBZ.out.2, by rw [hk]; exact HBZ.out.1⟩, fun ⟨j, u, hj, _⟩ => by simp at hj, fun ⟨j, u, hj, _⟩ => by simp at hj, by simp [Value.ownBlock]⟩⟩, HBs⟩
  case round =>
    clear HS0 HBs
    obtain ⟨r, N, ls, us, X, okS, hr40, hN, rfl, HBK, HST, HOK, HBW⟩ := hrel
    have hgo : ((decide ((r : Int) < 2) = true ∧ r < 40) ∨ (decide ((r : Int) < 2) = false ∧ decide ((r : Int) < rounds) = true ∧ decide ((r : Int) < 40) = true ∧ r < 40)) ∨ ((decide ((r : Int) < 2) = false ∧ decide ((r : Int) < rounds) = true ∧ decide ((r : Int) < 40) = false ∧ ¬ r < 2) ∨ (decide ((r : Int) < 2) = false ∧ decide ((r : Int) < rounds) = false ∧ decide (r < 41) = true ∧ ¬ r < 2)) := by
      by_cases hA : r < 2
      · exact .inl (.inl ⟨decide_eq_true (by omega), by omega⟩)
      · have e1 : decide ((r : Int) < 2) = false := decide_eq_false (by omega)
        by_cases hC : (r : Int) < rounds
        · by_cases hD : r < 40
          · exact .inl (.inr ⟨e1, decide_eq_true hC, decide_eq_true (by omega), hD⟩)
          · exact .inr (.inl ⟨e1, decide_eq_true hC, decide_eq_false (by omega), hA⟩)
        · exact .inr (.inr ⟨e1, decide_eq_false hC, decide_eq_true (by omega), hA⟩)
    rcases hgo with hG | hE
    · rcases hG with ⟨e1, hr4⟩ | ⟨e1, e2, e3, hr4⟩
      all_goals
       obtain ⟨wz, hwz⟩ : ∃ wz, wz = wr := ⟨_, rfl⟩
       subst hwz
       go_wp2_with fail
       refine (number_R v _).mono ?_
       rintro x1 w1 ⟨B1, m1, k1, rfl, hl, hc, ho, hb⟩
       rw [HLa.out] at hl ho
       rw [HEa.out]
       have HV1 := Aside0.mk (Own8.one ho)
       have HL1 := Aside0.mk hl
       have HC1 := Aside0.mk hc
       have HR1 := Aside0.mk hb
       clear hl hc ho hb
       go_wp2_with fail
       refine (text_R s _).mono ?_
       rintro x2 w2 ⟨B2, m2, k2, rfl, hl, hc, ho, hb⟩
       rw [HLb.out] at hl ho
       rw [HEb.out]
       have HV2 := Aside0.mk (show Own8 w2 wz.heap.size [.slice B1 m1 k1, .slice B2 m2 k2] [La, Lb] from HV1.out.push HR1.out.size hb ho)
       have HL2 := Aside0.mk hl
       have HC2 := Aside0.mk hc
       have HR2 := Aside0.mk (below_step HR1.out hb)
       clear hl hc ho hb HV1 HR1
       go_wp2_with fail
       refine (frame_uno w2 A2 c2 n2 body Fc (Kd.C_below R2.out (below_step HBW.out HR2.out)) N2.out C2.out h2 HFc.out).mono ?_
       rintro x3 w3 ⟨B3, m3, k3, rfl, hl, hc, ho, hb⟩
       have HV3 := Aside0.mk (show Own8 w3 wz.heap.size [.slice B1 m1 k1, .slice B2 m2 k2, .slice B3 m3 k3] [La, Lb, Fc] from HV2.out.push HR2.out.size hb ho)
       have HL3 := Aside0.mk hl
       have HC3 := Aside0.mk hc
       have HM3 := Aside0.mk (show m3 ≤ 20014 by rw [← hl, HNF.out.1]; omega)
       have HR3 := Aside0.mk (below_step HR2.out hb)
       clear hl hc ho hb HV2 HR2
       go_wp2_with fail
       refine (frame_uno w3 A3 c3 n3 other Fx (Kd.C_below R3.out (below_step HBW.out HR3.out)) N3.out C3.out h3 HFx.out).mono ?_
       rintro x4 w4 ⟨B4, m4, k4, rfl, hl, hc, ho, hb⟩
       have HV4 := Aside0.mk (show Own8 w4 wz.heap.size [.slice B1 m1 k1, .slice B2 m2 k2, .slice B3 m3 k3, .slice B4 m4 k4] [La, Lb, Fc, Fx] from HV3.out.push HR3.out.size hb ho)
       have HL4 := Aside0.mk hl
       have HC4 := Aside0.mk hc
       have HM4 := Aside0.mk (show m4 ≤ 20014 by rw [← hl, HNF.out.2]; omega)
       have HR4 := Aside0.mk (below_step HR3.out hb)
       clear hl hc ho hb HV3 HR3
       go_wp2_with fail
       refine (unframe_R B3 k3 m3 body Fc w4 HFc.out HL3.out (R8_C (HV4.out.get 2 rfl rfl)) HC3.out O2.out (by rw [N2.out]; exact h2)).mono ?_
       rintro x5 w5 ⟨B5, k5, rfl, hc, ho, hb⟩
       rw [N2.out] at hc ho ⊢
       have HV5 := Aside0.mk (show Own8 w5 wz.heap.size [.slice B1 m1 k1, .slice B2 m2 k2, .slice B3 m3 k3, .slice B4 m4 k4, .slice B5 n2 k5] [La, Lb, Fc, Fx, body] from HV4.out.push HR4.out.size hb ho)
       have HC5 := Aside0.mk hc
       have HR5 := Aside0.mk (below_step HR4.out hb)
       clear hc ho hb HV4 HR4
       go_wp2_with fail
       refine (unframe_R B3 k3 m3 body Fc w5 HFc.out HL3.out (R8_C (HV5.out.get 2 rfl rfl)) HC3.out O2.out (by rw [N2.out]; exact h2)).mono ?_
       rintro x6 w6 ⟨B6, k6, rfl, hc, ho, hb⟩
       rw [N2.out] at hc ho ⊢
       have HV6 := Aside0.mk (show Own8 w6 wz.heap.size [.slice B1 m1 k1, .slice B2 m2 k2, .slice B3 m3 k3, .slice B4 m4 k4, .slice B5 n2 k5, .slice B6 n2 k6] [La, Lb, Fc, Fx, body, body] from HV5.out.push HR5.out.size hb ho)
       have HC6 := Aside0.mk hc
       have HR6 := Aside0.mk (below_step HR5.out hb)
       clear hc ho hb HV5 HR5
       go_wp2_with (with_reducible refine stop_append rfl ?_)
       refine app8 (v := .slice none 0 0) w6 w6.heap.size rfl _ _ rfl rfl rfl (Kd.R_nil _ _ _ _ _) (R8_C (HV6.out.get 2 rfl rfl)) (Below.refl _ _) (Nat.le_refl _) (by have := HM3.out; simp only [List.length_nil]; omega) ?_
       intro v7 w7 ho hb hg hat
       have HO7 := Aside0.mk ho
       have HB7 := Aside0.mk hb
       clear ho hb hg hat
       go_wp2_with (with_reducible refine stop_append rfl ?_)
       refine app8 (v := v7) w6 w6.heap.size rfl _ _ rfl rfl rfl HO7.out (R8_C ((HV6.out.below HB7.out).get 3 rfl rfl)) HB7.out HB7.out.size (by have := HM3.out; have := HM4.out; rw [List.nil_append, HL3.out]; omega) ?_
       intro v8 w8 ho hb hg hat
       have HO8 := Aside0.mk ho
       have HB8 := Aside0.mk hb
       clear ho hb hg hat HO7 HB7
       go_wp2_with (with_reducible refine stop_append rfl ?_)
       refine app8 (v := v8) w6 w6.heap.size rfl _ _ rfl rfl rfl HO8.out (R8_C ((HV6.out.below HB8.out).get 2 rfl rfl)) HB8.out HB8.out.size (by have := HM3.out; have := HM4.out; rw [List.nil_append, List.length_append, HL3.out, HL4.out]; omega) ?_
       intro v9 w9 ho hb hg hat
       obtain ⟨L9, hL9⟩ : ∃ L9, [] ++ Fc ++ Fx ++ Fc = L9 := ⟨_, rfl⟩
       rw [hL9] at ho
       obtain ⟨B9, m9, k9, rfl, hl, hc⟩ := R8_form ho
       have HF9 := Aside0.mk (show Fc ++ Fx ++ Fc = L9 by rw [← hL9, List.nil_append])
       have HL9 := Aside0.mk hl
       have HC9 := Aside0.mk hc
       have HO9 := Aside0.mk (R8_C ho)
       have HM9 := Aside0.mk (show m9 ≤ 60042 by have h31 := HM3.out; have h41 := HM4.out; rw [← hl, ← hL9, List.length_append, List.length_append, List.nil_append, HL3.out, HL4.out]; omega)
       have HV9 := Aside0.mk (HV6.out.below hb)
       have HR9 := Aside0.mk (below_step HR6.out hb)
       have HZ6 := Aside0.mk hb.size
       clear hl hc ho hb hg hat HO8 HB8 hL9 HR6
       go_wp2_with fail
       refine (roomy_M B9 k9 m9 L9 w9 HL9.out HO9.out HC9.out (by have := HM9.out; omega)).mono ?_
       rintro x10 w10 ⟨B10, k10, rfl, hrm, hb⟩
       have HV10 := Aside0.mk (HV9.out.below hb)
       have HR10 := Aside0.mk (below_step HR9.out hb)
       have HRM := Aside0.mk hrm
       have HLE := Aside0.mk hrm.le
       have HZ9 := Aside0.mk (show w9.heap.size ≤ w10.heap.size ∧ wz.heap.size ≤ w9.heap.size from ⟨hb.size, HR9.out.size⟩)
       have HS10 := Aside0.mk (StrmAt_below HST.out HR10.out)
       have HOKL := Aside0.mk (show bytesOk L9 = true by rw [← HF9.out, ← HFc.out, ← HFx.out]; exact bytesOk_append (bytesOk_append (frameOf_ok _ O2.out) (frameOf_ok _ O3.out)) (frameOf_ok _ O2.out))
       clear hrm hb HV9 HR9 HO9
       go_wp2_with fail
       refine (feedAt b w.heap.size okS B10 k10 m9 L9 [] [] [] w10 HL9.out HRM.out.reads (by have := HLE.out; omega) rfl HOKL.out HS10.out (Nat.le_trans HBW.out.size HR10.out.size) (by have := HM9.out; simp only [List.length_nil]; omega)).mono ?_
       rintro x11 w11 ⟨⟨v11', rfl⟩, ⟨fs, hs⟩, hf⟩
       have HSC := Aside0.mk (show scan L9 = ([body, other, body], 0, []) by rw [← HF9.out, ← HFc.out, ← HFx.out]; exact scan_three O2.out O3.out (by rw [N2.out]; exact h2) (by rw [N3.out]; exact h3))
       have hfs : fs = [body, other, body] := by
         have h := hs.2
         rw [List.nil_append, HSC.out] at h
         simpa using h.symm
       subst hfs
       rw [List.nil_append] at hs
       have HS11 := Aside0.mk hs
       have HF11 := Aside0.mk (show Frm wz w11 (fun q => okS q ∨ wz.heap.size ≤ q) from ((Frm.of_below HR10.out _).then_ hf (fun k hk _ => .inl hk)))
       have HV11 := Aside0.mk (HV10.out.frm hf (fun q hq hq2 => by have := (HOK.out q hq).1.2; have := (HV10.out.lt q hq2).1; omega))
       have HRM11 := Aside0.mk (show R8 w11 w9.heap.size (.slice B10 (m9 + 2) k10) (L9 ++ [167, 94]) from R8_keep HRM.out.2 (fun q hq => hf.block q (R8_lt HRM.out.2 q hq).2 (fun hs => by have := (HOK.out q hs).1.2; have := (R8_lt HRM.out.2 q hq).1; have := HZ9.out.2; omega)))
       have HBB := Aside0.mk (show ∀ q, (Value.slice B10 (m9 + 2) k10).ownBlock = some q → w9.heap.size ≤ q ∧ q < w10.heap.size from R8_lt HRM.out.2)
       have HZ10 := Aside0.mk hf.size
       clear hs hf HR10 HV10 HS10 HRM
       go_wp2
       have HY0 := Aside0.mk (show ∃ Y, R8 w11 w9.heap.size (.slice B10 (m9 + 2) k10) Y from ⟨_, HRM11.out⟩)
       clear HRM11
       obtain ⟨wf, hwf⟩ : ∃ wf, wf = w11 := ⟨_, rfl⟩
       have HFF0 := Aside0.mk (show Frm wf w11 (fun q => (Value.slice B10 (m9 + 2) k10).ownBlock = some q) by rw [hwf]; exact Frm.refl _ _)
       rw [← hwf] at HS11 HF11 HV11 HZ10
       clear hwf
       go_loopw [27] (fun v27 wt => ∃ i : Nat, i ≤ m9 ∧ v27 = .int .i64 (i : Int) ∧ Aside0 (∃ Y, R8 wt w9.heap.size (.slice B10 (m9 + 2) k10) Y) ∧ Aside0 (Frm wf wt (fun q => (Value.slice B10 (m9 + 2) k10).ownBlock = some q))) (fun v27 _ => m9 + 1 - (intOf v27).toNat)
       case atStart => exact ⟨0, Nat.zero_le _, rfl, HY0, HFF0⟩
       case round =>
         clear HY0 HFF0
         obtain ⟨i, hi, rfl, HY, HFF⟩ := hrel
         by_cases hlt : i < m9
         · have hd1 : decide ((i : Int) < (m9 : Int)) = true := decide_eq_true (by omega)
           obtain ⟨Y, hY⟩ := HY.out
           obtain ⟨g, hA, hgb, hcell, hfrz, hst⟩ := R8_stored hY i (by omega)
           subst hA
           have HST2 := Aside0.mk hst
           have hbnd : m9 ≤ 60042 := HM9.out
           have HLEF := Aside0.mk HLE.out
           clear hst hY
           go_wp2
           go_roundw
           case rel => exact ⟨i + 1, by omega, by go_num, ⟨_, HST2.out 17⟩, ⟨HFF.out.set_ (p := ⟨g, i, none⟩) (.inl rfl) _⟩⟩
           case measure => simp [intOf]; omega
         · obtain ⟨w12, hwt⟩ : ∃ w12, w12 = wr := ⟨_, rfl⟩
           subst hwt
           have hd1 : decide ((i : Int) < (m9 : Int)) = false := decide_eq_false (by omega)
           have hFr := HFF.out
           clear HY HFF
           have HS12 := Aside0.mk (StrmAt_frm HS11.out hFr (fun k hk hq => by
             have h1 := HBB.out k hq
             have := HZ9.out
             rcases hk with hk | hk
             · have := (HOK.out k hk).1.2; omega
             · omega))
           have HV12 := Aside0.mk (HV11.out.frm hFr (fun q hq hq2 => by have := (HBB.out q hq).1; have := (HV6.out.lt q hq2).2; have := HZ6.out; omega))
           have HF12 := Aside0.mk (HF11.out.then_ hFr (fun q hq hlt => .inr (by have := (HBB.out q hq).1; have := HZ9.out; omega)))
           have HZ12 := Aside0.mk (Nat.le_trans HZ10.out hFr.size)
           clear hFr HS11 HV11 HF11 HZ10
           go_wp2_with fail
           refine (takenAt b w.heap.size _ L9 [] [body, other, body] 9 _ HS12.out (Nat.le_trans HBW.out.size HF12.out.size) (by have := HM9.out; rw [HL9.out]; omega)).mono ?_
           rintro x13 w13 ⟨v13, okS2, okr, fs1, fs2, rfl, hfs, hfl, hsq, hs, hok1, hok2, hf⟩
           obtain ⟨rfl, rfl⟩ : fs1 = [body, other, body] ∧ fs2 = [] := by
             have hl3 : fs1.length = 3 := by rw [hfl]; rfl
             have h := List.append_inj (s₁ := [body, other, body]) (t₁ := []) (s₂ := fs1) (t₂ := fs2) (by rw [List.append_nil]; exact hfs) (by rw [hl3]; rfl)
             exact ⟨h.1.symm, h.2.symm⟩
           obtain ⟨ad, cq, D0, d0, D1, d1, D2, d2, rfl, hcq, q0, q1, q2, r0, r1, r2, hdist, hblk⟩ := SQ_three hsq
           obtain ⟨gq, jq, hgq⟩ := SQ_addr hsq
           obtain rfl : ad = ⟨gq, jq, none⟩ := Option.some.inj hgq
           replace q1 : w13.cell? ⟨gq, jq + 1, none⟩ = some (.slice D1 other.length d1) := by rw [← addj]; exact q1
           replace q2 : w13.cell? ⟨gq, jq + 2, none⟩ = some (.slice D2 body.length d2) := by have h := q2; rw [addj, addj] at h; exact h
           clear hgq
           rw [N2.out] at q0 q2 r0 r2 hdist hblk
           rw [N3.out] at q1 r1 hdist hblk
           have HVQ := Aside0.mk (Own8.three r0 r1 r2 hdist)
           have HCQ := Aside0.mk (show n2 ≤ d0 ∧ n3 ≤ d1 ∧ n2 ≤ d2 from ⟨(Kd.R_reads' r0).2.1, (Kd.R_reads' r1).2.1, (Kd.R_reads' r2).2.1⟩)
           have HBQ := Aside0.mk hblk
           have HS13 := Aside0.mk (show StrmAt w13 w.heap.size (fun k => okS2 k ∧ w.heap.size ≤ k ∧ k < w13.heap.size) b [] [] [] by
             have h := (StrmAt_bound hs).1
             rw [HSC.out] at h
             unfold StrmAt
             rw [scan_nil]
             exact ⟨h, rfl⟩)
           obtain ⟨vo, Af, cf, hblk13, hcf⟩ := Strm_blk (show Strm w13 w.heap.size okS2 b [] [] 0 by have h := hs.1; rw [HSC.out] at h; exact h)
           have HSB := Aside0.mk hblk13
           have HOK1 := Aside0.mk hok1
           have HOK2 := Aside0.mk hok2
           have HOKb := Aside0.mk (show okS b ∨ w10.heap.size ≤ b from HS12.out.1.2.1)
           have HV13 := Aside0.mk (HV12.out.frm hf (fun q hq hq2 => by
             have h1 := HV6.out.lt q hq2
             have h2 := HZ6.out
             have h3 := HZ9.out
             subst hq
             rcases HOKb.out with h | h
             · have := (HOK.out q h).1.2; omega
             · omega))
           have HF13 := Aside0.mk (HF12.out.then_ hf (fun q hq _ => by
             subst hq
             have h3 := HZ9.out
             rcases HOKb.out with h | h
             · exact .inl h
             · exact .inr (by omega)))
           have HW13 := Aside0.mk (below_frm (N := w.heap.size) HBW.out HF13.out (fun k hk => hk.elim (fun h => (HOK.out k h).1.1) (fun h => Nat.le_trans HBW.out.size h)) (Nat.le_refl _))
           have HZ13 := Aside0.mk hf.size
           have Q0 := Aside0.mk q0
           have Q1 := Aside0.mk q1
           have Q2 := Aside0.mk q2
           have hcq2 := Aside0.mk hcq
           have HGQ := Aside0.mk (show u11.ownBlock ≠ some gq from (keeps_gq HBK.out HOK.out HZ9.out HZ12.out (hok2 gq (SQ_ok hsq gq rfl))))
           clear hfl hfs hsq hs hok1 hok2 hf r0 r1 r2 hdist hblk hblk13 HS12 HV12 HF12 q0 q1 q2 hcq hd1
           go_wp2_with fail
           refine (heraldlaw2_same.callsB true 30000 B5 k5 n2 body A2 c2 n2 body w13 (decide_eq_true rfl) N2.out N2.out (R8_C (HV13.out.get 4 rfl rfl)) HC5.out (Kd.C_below R2.out HW13.out) C2.out (by rw [N2.out]; omega) (by rw [N2.out]; omega)).mono ?_
           rintro x14 w14 ⟨rfl, hd⟩
           have HD14 := Aside0.mk (hd.below)
           have q0 : w14.cell? ⟨gq, jq, none⟩ = some (.slice D0 n2 d0) := pw_cell_below HD14.out Q0.out
           have q1 : w14.cell? ⟨gq, jq + 1, none⟩ = some (.slice D1 n3 d1) := pw_cell_below HD14.out Q1.out
           have q2 : w14.cell? ⟨gq, jq + 2, none⟩ = some (.slice D2 n2 d2) := pw_cell_below HD14.out Q2.out
           clear hd
           go_wp2_with fail
           refine (heraldlaw2_same.callsB true 30000 B6 k6 n2 body A2 c2 n2 body w14 (decide_eq_true rfl) N2.out N2.out (R8_C ((HV13.out.below HD14.out).get 5 rfl rfl)) HC6.out (Kd.C_below R2.out (below_step HW13.out HD14.out)) C2.out (by rw [N2.out]; omega) (by rw [N2.out]; omega)).mono ?_
           rintro x15 w15 ⟨rfl, hd⟩
           have HD15 := Aside0.mk (below_step HD14.out hd.below)
           clear q0 q1 q2
           have q0 : w15.cell? ⟨gq, jq, none⟩ = some (.slice D0 n2 d0) := pw_cell_below HD15.out Q0.out
           have q1 : w15.cell? ⟨gq, jq + 1, none⟩ = some (.slice D1 n3 d1) := pw_cell_below HD15.out Q1.out
           have q2 : w15.cell? ⟨gq, jq + 2, none⟩ = some (.slice D2 n2 d2) := pw_cell_below HD15.out Q2.out
           clear hd
           go_wp2_with fail
           refine (heraldlaw2_same.callsB true 30000 D0 d0 n2 body A2 c2 n2 body w15 (decide_eq_true rfl) N2.out N2.out (R8_C ((HVQ.out.below HD15.out).get 0 rfl rfl)) HCQ.out.1 (Kd.C_below R2.out (below_step HW13.out HD15.out)) C2.out (by rw [N2.out]; omega) (by rw [N2.out]; omega)).mono ?_
           rintro x16 w16 ⟨rfl, hd⟩
           have HD16 := Aside0.mk (below_step HD15.out hd.below)
           clear q0 q1 q2
           have q0 : w16.cell? ⟨gq, jq, none⟩ = some (.slice D0 n2 d0) := pw_cell_below HD16.out Q0.out
           have q1 : w16.cell? ⟨gq, jq + 1, none⟩ = some (.slice D1 n3 d1) := pw_cell_below HD16.out Q1.out
           have q2 : w16.cell? ⟨gq, jq + 2, none⟩ = some (.slice D2 n2 d2) := pw_cell_below HD16.out Q2.out
           clear hd
           go_wp2_with fail
           refine (heraldlaw2_same.callsB true 30000 D1 d1 n3 other A3 c3 n3 other w16 (decide_eq_true rfl) N3.out N3.out (R8_C ((HVQ.out.below HD16.out).get 1 rfl rfl)) HCQ.out.2.1 (Kd.C_below R3.out (below_step HW13.out HD16.out)) C3.out (by rw [N3.out]; omega) (by rw [N3.out]; omega)).mono ?_
           rintro x17 w17 ⟨rfl, hd⟩
           have HD17 := Aside0.mk (below_step HD16.out hd.below)
           clear q0 q1 q2
           have q0 : w17.cell? ⟨gq, jq, none⟩ = some (.slice D0 n2 d0) := pw_cell_below HD17.out Q0.out
           have q1 : w17.cell? ⟨gq, jq + 1, none⟩ = some (.slice D1 n3 d1) := pw_cell_below HD17.out Q1.out
           have q2 : w17.cell? ⟨gq, jq + 2, none⟩ = some (.slice D2 n2 d2) := pw_cell_below HD17.out Q2.out
           clear hd
           go_wp2_with fail
           refine (heraldlaw2_same.callsB true 30000 D2 d2 n2 body A2 c2 n2 body w17 (decide_eq_true rfl) N2.out N2.out (R8_C ((HVQ.out.below HD17.out).get 2 rfl rfl)) HCQ.out.2.2 (Kd.C_below R2.out (below_step HW13.out HD17.out)) C2.out (by rw [N2.out]; omega) (by rw [N2.out]; omega)).mono ?_
           rintro x18 w18 ⟨rfl, hd⟩
           have HD18 := Aside0.mk (below_step HD17.out hd.below)
           clear q0 q1 q2
           have q0 : w18.cell? ⟨gq, jq, none⟩ = some (.slice D0 n2 d0) := pw_cell_below HD18.out Q0.out
           have q1 : w18.cell? ⟨gq, jq + 1, none⟩ = some (.slice D1 n3 d1) := pw_cell_below HD18.out Q1.out
           have q2 : w18.cell? ⟨gq, jq + 2, none⟩ = some (.slice D2 n2 d2) := pw_cell_below HD18.out Q2.out
           clear hd
           go_wp2_with fail
           refine (skipped_C b 0 vo (.slice Af 0 cf) w18 ((HD18.out.block b (blk_lt HSB.out)).trans HSB.out)).mono ?_
           rintro x19 w19 ⟨rfl, rfl⟩
           go_wp2_with fail
           have HU0 := Aside0.mk (below_drew1 HD18.out)
           have Q0' := Q0.out
           clear q0 q1 q2
           have q0 : w18.drew.cell? ⟨gq, jq, none⟩ = some (.slice D0 n2 d0) := pw_cell_below HU0.out Q0.out
           have q1 : w18.drew.cell? ⟨gq, jq + 1, none⟩ = some (.slice D1 n3 d1) := pw_cell_below HU0.out Q1.out
           have q2 : w18.drew.cell? ⟨gq, jq + 2, none⟩ = some (.slice D2 n2 d2) := pw_cell_below HU0.out Q2.out
           clear Q0'
           refine start_ (n := 28) (S := fun w' => w'.cell? ⟨gq, jq, none⟩ = some (.slice D0 n2 d0) ∧ w'.cell? ⟨gq, jq + 1, none⟩ = some (.slice D1 n3 d1) ∧ w'.cell? ⟨gq, jq + 2, none⟩ = some (.slice D2 n2 d2)) (ds := []) #[false, false, false, false, false, false, false, false, false, false, false, false, false, false, false, false, false, false, false, false, false, false, false, false, false, false, false, false] (by kernel_rfl) rfl rfl ⟨q0, q1, q2⟩ (fun hHeld => ?_)
           refine with_tabW rg16.tab29 rg16.bits29 (fun HT_ HW_ => ?_)
           refine pure_ (i := 0) (N := some 181) (v := ?_) (a' := ?_) #[true, false, false, false, false, false, false, false, false, false, false, false, false, false, false, false, false, false, false, false, false, false, false, false, false, false, false, false] rfl rfl (any_of HT_.out (by kernel_rfl)) (fun _ _ _ h => h) (Or.inl ⟨by rfl, ?_⟩) ?_ ?_
           rotate_left
           · intro w'
             go_simp
             with_reducible rfl
           rotate_left
           · simp only [Act.put, List.setIfInBounds_toArray, List.set_cons_zero, List.set_cons_succ, i64_w, i32_w]
             rfl
           refine pure_ (i := 1) (N := some 182) (v := ?_) (a' := ?_) #[true, true, false, false, false, false, false, false, false, false, false, false, false, false, false, false, false, false, false, false, false, false, false, false, false, false, false, false] rfl rfl (any_of HT_.out (by kernel_rfl)) (fun _ _ _ h => h) (Or.inl ⟨by rfl, ?_⟩) ?_ ?_
           rotate_left
           · intro w'
             go_simp
             with_reducible rfl
           rotate_left
           · simp only [Act.put, List.setIfInBounds_toArray, List.set_cons_zero, List.set_cons_succ, i64_w, i32_w]
             rfl
           refine pure_ (i := 3) (N := some 184) (v := ?_) (a' := ?_) #[true, true, false, true, false, false, false, false, false, false, false, false, false, false, false, false, false, false, false, false, false, false, false, false, false, false, false, false] rfl rfl (any_of HT_.out (by kernel_rfl)) (fun _ _ _ h => h) (Or.inl ⟨by rfl, ?_⟩) ?_ ?_
           rotate_left
           · intro w'
             go_simp
             with_reducible rfl
           rotate_left
           · simp only [Act.put, List.setIfInBounds_toArray, List.set_cons_zero, List.set_cons_succ, i64_w, i32_w]
             rfl
           refine pure_ (i := 5) (N := some 186) (v := ?_) (a' := ?_) #[true, true, false, true, false, true, false, false, false, false, false, false, false, false, false, false, false, false, false, false, false, false, false, false, false, false, false, false] rfl rfl (any_of HT_.out (by kernel_rfl)) (fun _ _ _ h => h) (Or.inl ⟨by rfl, ?_⟩) ?_ ?_
           rotate_left
           · intro w'
             go_simp
             with_reducible rfl
           rotate_left
           · simp only [Act.put, List.setIfInBounds_toArray, List.set_cons_zero, List.set_cons_succ, i64_w, i32_w]
             rfl
           refine pure_ (i := 7) (N := some 188) (v := ?_) (a' := ?_) #[true, true, false, true, false, true, false, true, false, false, false, false, false, false, false, false, false, false, false, false, false, false, false, false, false, false, false, false] rfl rfl (any_of HT_.out (by kernel_rfl)) (fun _ _ _ h => h) (Or.inl ⟨by rfl, ?_⟩) ?_ ?_
           rotate_left
           · intro w'
             go_simp
             with_reducible rfl
           rotate_left
           · simp only [Act.put, List.setIfInBounds_toArray, List.set_cons_zero, List.set_cons_succ, i64_w, i32_w]
             rfl
           refine pure_ (i := 9) (N := some 190) (v := ?_) (a' := ?_) #[true, true, false, true, false, true, false, true, false, true, false, false, false, false, false, false, false, false, false, false, false, false, false, false, false, false, false, false] rfl rfl (any_of HT_.out (by kernel_rfl)) (fun _ _ _ h => h) (Or.inl ⟨by rfl, ?_⟩) ?_ ?_
           rotate_left
           · intro w'
             go_simp
             with_reducible rfl
           rotate_left
           · simp only [Act.put, List.setIfInBounds_toArray, List.set_cons_zero, List.set_cons_succ, i64_w, i32_w]
             rfl
           refine pure_ (i := 11) (N := some 192) (v := ?_) (a' := ?_) #[true, true, false, true, false, true, false, true, false, true, false, true, false, false, false, false, false, false, false, false, false, false, false, false, false, false, false, false] rfl rfl (any_of HT_.out (by kernel_rfl)) (fun _ _ _ h => h) (Or.inl ⟨by rfl, ?_⟩) ?_ ?_
           rotate_left
           · intro w'
             go_simp
             with_reducible rfl
           rotate_left
           · simp only [Act.put, List.setIfInBounds_toArray, List.set_cons_zero, List.set_cons_succ, i64_w, i32_w]
             rfl
           refine pure_ (i := 13) (N := some 194) (v := ?_) (a' := ?_) #[true, true, false, true, false, true, false, true, false, true, false, true, false, true, false, false, false, false, false, false, false, false, false, false, false, false, false, false] rfl rfl (any_of HT_.out (by kernel_rfl)) (fun _ _ _ h => h) (Or.inl ⟨by rfl, ?_⟩) ?_ ?_
           rotate_left
           · intro w'
             go_simp
             with_reducible rfl
           rotate_left
           · simp only [Act.put, List.setIfInBounds_toArray, List.set_cons_zero, List.set_cons_succ, i64_w, i32_w]
             rfl
           refine pure_ (i := 14) (N := some 195) (v := ?_) (a' := ?_) #[true, true, false, true, false, true, false, true, false, true, false, true, false, true, true, false, false, false, false, false, false, false, false, false, false, false, false, false] rfl rfl (any_of HT_.out (by kernel_rfl)) (fun _ _ _ h => h) (Or.inl ⟨by rfl, ?_⟩) ?_ ?_
           rotate_left
           · intro w'
             go_simp
             with_reducible rfl
           rotate_left
           · simp only [Act.put, List.setIfInBounds_toArray, List.set_cons_zero, List.set_cons_succ, i64_w, i32_w]
             rfl
           refine pure_ (i := 17) (N := some 198) (v := ?_) (a' := ?_) #[true, true, false, true, false, true, false, true, false, true, false, true, false, true, true, false, false, true, false, false, false, false, false, false, false, false, false, false] rfl rfl (any_of HT_.out (by kernel_rfl)) (fun _ _ _ h => h) (Or.inl ⟨by rfl, ?_⟩) ?_ ?_
           rotate_left
           · intro w'
             go_simp
             with_reducible rfl
           rotate_left
           · simp only [Act.put, List.setIfInBounds_toArray, List.set_cons_zero, List.set_cons_succ, i64_w, i32_w]
             rfl
           refine pure_ (i := 18) (N := some 199) (v := ?_) (a' := ?_) #[true, true, false, true, false, true, false, true, false, true, false, true, false, true, true, false, false, true, true, false, false, false, false, false, false, false, false, false] rfl rfl (any_of HT_.out (by kernel_rfl)) (fun _ _ _ h => h) (Or.inl ⟨by rfl, ?_⟩) ?_ ?_
           rotate_left
           · intro w'
             go_simp
             with_reducible rfl
           rotate_left
           · simp only [Act.put, List.setIfInBounds_toArray, List.set_cons_zero, List.set_cons_succ, i64_w, i32_w]
             rfl
           refine pure_ (i := 21) (N := some 202) (v := ?_) (a' := ?_) #[true, true, false, true, false, true, false, true, false, true, false, true, false, true, true, false, false, true, true, false, false, true, false, false, false, false, false, false] rfl rfl (any_of HT_.out (by kernel_rfl)) (fun _ _ _ h => h) (Or.inl ⟨by rfl, ?_⟩) ?_ ?_
           rotate_left
           · intro w'
             go_simp
             with_reducible rfl
           rotate_left
           · simp only [Act.put, List.setIfInBounds_toArray, List.set_cons_zero, List.set_cons_succ, i64_w, i32_w]
             rfl
           refine pure_ (i := 22) (N := some 203) (v := ?_) (a' := ?_) #[true, true, false, true, false, true, false, true, false, true, false, true, false, true, true, false, false, true, true, false, false, true, true, false, false, false, false, false] rfl rfl (any_of HT_.out (by kernel_rfl)) (fun _ _ _ h => h) (Or.inl ⟨by rfl, ?_⟩) ?_ ?_
           rotate_left
           · intro w'
             go_simp
             with_reducible rfl
           rotate_left
           · simp only [Act.put, List.setIfInBounds_toArray, List.set_cons_zero, List.set_cons_succ, i64_w, i32_w]
             rfl
           refine take_ (i := 15) (N := some 196) (v := ?_) (a' := ?_) #[true, true, false, true, false, true, false, true, false, true, false, true, false, true, true, true, false, true, true, false, false, true, true, false, false, false, false, false] rfl rfl (take_ofW HT_.out HW_.out (by kernel_rfl)) (fun _ _ _ h => h) (Or.inl ⟨by rfl, ?_⟩) hHeld ?_ ?_
           rotate_left
           · rintro w' ⟨s0, s1, s2⟩
             go_simp
             with_reducible rfl
           rotate_left
           · simp only [Act.put, List.setIfInBounds_toArray, List.set_cons_zero, List.set_cons_succ, i64_w, i32_w]
             rfl
           refine take_ (i := 19) (N := some 200) (v := ?_) (a' := ?_) #[true, true, false, true, false, true, false, true, false, true, false, true, false, true, true, true, false, true, true, true, false, true, true, false, false, false, false, false] rfl rfl (take_ofW HT_.out HW_.out (by kernel_rfl)) (fun _ _ _ h => h) (Or.inl ⟨by rfl, ?_⟩) hHeld ?_ ?_
           rotate_left
           · rintro w' ⟨s0, s1, s2⟩
             go_simp
             with_reducible rfl
           rotate_left
           · simp only [Act.put, List.setIfInBounds_toArray, List.set_cons_zero, List.set_cons_succ, i64_w, i32_w]
             rfl
           refine take_ (i := 23) (N := some 204) (v := ?_) (a' := ?_) #[true, true, false, true, false, true, false, true, false, true, false, true, false, true, true, true, false, true, true, true, false, true, true, true, false, false, false, false] rfl rfl (take_ofW HT_.out HW_.out (by kernel_rfl)) (fun _ _ _ h => h) (Or.inl ⟨by rfl, ?_⟩) hHeld ?_ ?_
           rotate_left
           · rintro w' ⟨s0, s1, s2⟩
             go_simp
             with_reducible rfl
           rotate_left
           · simp only [Act.put, List.setIfInBounds_toArray, List.set_cons_zero, List.set_cons_succ, i64_w, i32_w]
             rfl
           refine one_ (i := 2) (N := some 183) #[true, true, true, true, false, true, false, true, false, true, false, true, false, true, true, true, false, true, true, true, false, true, true, true, false, false, false, false] rfl rfl (one_of HT_.out (by kernel_rfl)) (by decide) (fun K hK => ?_)
           refine goes_ Try.func48 (by kernel_rfl) rfl #[.slice B1 m1 k1] (by rfl) rfl rfl (by simp only [List.map_toArray, List.map_cons, List.map_nil]; rfl) ?_
           with_reducible refine (keep_C B1 m1 k1 La _ HL1.out (R8_C ((HV13.out.below HU0.out).get 0 rfl rfl)) HC1.out (by have h := HAL.out.1; rw [HL1.out] at h; omega)).mono ?_
           rintro e u1 ⟨E1, y1, rfl, ho, hb⟩
           refine ⟨_, rfl, ?_⟩
           have HU1 := Aside0.mk (below_step HU0.out hb)
           have HK1 := Aside0.mk (show Own8 u1 w13.heap.size [.slice E1 m1 y1] [La] from (Own8.one ho).lower HU0.out.size)
           clear ho hb
           refine hK.out _ _ ⟨pw_cell_below HU1.out Q0.out, pw_cell_below HU1.out Q1.out, pw_cell_below HU1.out Q2.out⟩ (fun hHeld => ?_)
           clear hK K
           refine norm_ (a' := ?_) ?_ ?_
           rotate_left
           · show Act.put _ (some 183) _ = _
             simp only [Act.put, List.setIfInBounds_toArray, List.set_cons_zero, List.set_cons_succ, i64_w, i32_w]
             rfl
           refine one_ (i := 4) (N := some 185) #[true, true, true, true, true, true, false, true, false, true, false, true, false, true, true, true, false, true, true, true, false, true, true, true, false, false, false, false] rfl rfl (one_of HT_.out (by kernel_rfl)) (by decide) (fun K hK => ?_)
           refine goes_ Try.func48 (by kernel_rfl) rfl #[.slice B2 m2 k2] (by rfl) rfl rfl (by simp only [List.map_toArray, List.map_cons, List.map_nil]; rfl) ?_
           with_reducible refine (keep_C B2 m2 k2 Lb _ HL2.out (R8_C ((HV13.out.below HU1.out).get 1 rfl rfl)) HC2.out (by have h := HAL.out.2; rw [HL2.out] at h; omega)).mono ?_
           rintro e u2 ⟨E2, y2, rfl, ho, hb⟩
           refine ⟨_, rfl, ?_⟩
           have HU2 := Aside0.mk (below_step HU1.out hb)
           have HK2 := Aside0.mk (show Own8 u2 w13.heap.size [.slice E1 m1 y1, .slice E2 m2 y2] [La, Lb] from HK1.out.push HU1.out.size hb ho)
           clear ho hb
           refine hK.out _ _ ⟨pw_cell_below HU2.out Q0.out, pw_cell_below HU2.out Q1.out, pw_cell_below HU2.out Q2.out⟩ (fun hHeld => ?_)
           clear hK K
           refine norm_ (a' := ?_) ?_ ?_
           rotate_left
           · show Act.put _ (some 185) _ = _
             simp only [Act.put, List.setIfInBounds_toArray, List.set_cons_zero, List.set_cons_succ, i64_w, i32_w]
             rfl
           refine one_ (i := 6) (N := some 187) #[true, true, true, true, true, true, true, true, false, true, false, true, false, true, true, true, false, true, true, true, false, true, true, true, false, false, false, false] rfl rfl (one_of HT_.out (by kernel_rfl)) (by decide) (fun K hK => ?_)
           refine goes_ Try.func48 (by kernel_rfl) rfl #[.slice B3 m3 k3] (by rfl) rfl rfl (by simp only [List.map_toArray, List.map_cons, List.map_nil]; rfl) ?_
           with_reducible refine (keep_C B3 m3 k3 Fc _ HL3.out (R8_C ((HV13.out.below HU2.out).get 2 rfl rfl)) HC3.out (by have h := HM3.out; omega)).mono ?_
           rintro e u3 ⟨E3, y3, rfl, ho, hb⟩
           refine ⟨_, rfl, ?_⟩
           have HU3 := Aside0.mk (below_step HU2.out hb)
           have HK3 := Aside0.mk (show Own8 u3 w13.heap.size [.slice E1 m1 y1, .slice E2 m2 y2, .slice E3 m3 y3] [La, Lb, Fc] from HK2.out.push HU2.out.size hb ho)
           clear ho hb
           refine hK.out _ _ ⟨pw_cell_below HU3.out Q0.out, pw_cell_below HU3.out Q1.out, pw_cell_below HU3.out Q2.out⟩ (fun hHeld => ?_)
           clear hK K
           refine norm_ (a' := ?_) ?_ ?_
           rotate_left
           · show Act.put _ (some 187) _ = _
             simp only [Act.put, List.setIfInBounds_toArray, List.set_cons_zero, List.set_cons_succ, i64_w, i32_w]
             rfl
           refine one_ (i := 8) (N := some 189) #[true, true, true, true, true, true, true, true, true, true, false, true, false, true, true, true, false, true, true, true, false, true, true, true, false, false, false, false] rfl rfl (one_of HT_.out (by kernel_rfl)) (by decide) (fun K hK => ?_)
           refine goes_ Try.func48 (by kernel_rfl) rfl #[.slice B4 m4 k4] (by rfl) rfl rfl (by simp only [List.map_toArray, List.map_cons, List.map_nil]; rfl) ?_
           with_reducible refine (keep_C B4 m4 k4 Fx _ HL4.out (R8_C ((HV13.out.below HU3.out).get 3 rfl rfl)) HC4.out (by have h := HM4.out; omega)).mono ?_
           rintro e u4 ⟨E4, y4, rfl, ho, hb⟩
           refine ⟨_, rfl, ?_⟩
           have HU4 := Aside0.mk (below_step HU3.out hb)
           have HK4 := Aside0.mk (show Own8 u4 w13.heap.size [.slice E1 m1 y1, .slice E2 m2 y2, .slice E3 m3 y3, .slice E4 m4 y4] [La, Lb, Fc, Fx] from HK3.out.push HU3.out.size hb ho)
           clear ho hb
           refine hK.out _ _ ⟨pw_cell_below HU4.out Q0.out, pw_cell_below HU4.out Q1.out, pw_cell_below HU4.out Q2.out⟩ (fun hHeld => ?_)
           clear hK K
           refine norm_ (a' := ?_) ?_ ?_
           rotate_left
           · show Act.put _ (some 189) _ = _
             simp only [Act.put, List.setIfInBounds_toArray, List.set_cons_zero, List.set_cons_succ, i64_w, i32_w]
             rfl
           refine one_ (i := 10) (N := some 191) #[true, true, true, true, true, true, true, true, true, true, true, true, false, true, true, true, false, true, true, true, false, true, true, true, false, false, false, false] rfl rfl (one_of HT_.out (by kernel_rfl)) (by decide) (fun K hK => ?_)
           refine goes_ Try.func48 (by kernel_rfl) rfl #[.slice B5 n2 k5] (by rfl) rfl rfl (by simp only [List.map_toArray, List.map_cons, List.map_nil]; rfl) ?_
           with_reducible refine (keep_C B5 n2 k5 body _ N2.out (R8_C ((HV13.out.below HU4.out).get 4 rfl rfl)) HC5.out (by omega)).mono ?_
           rintro e u5 ⟨E5, y5, rfl, ho, hb⟩
           refine ⟨_, rfl, ?_⟩
           have HU5 := Aside0.mk (below_step HU4.out hb)
           have HK5 := Aside0.mk (show Own8 u5 w13.heap.size [.slice E1 m1 y1, .slice E2 m2 y2, .slice E3 m3 y3, .slice E4 m4 y4, .slice E5 n2 y5] [La, Lb, Fc, Fx, body] from HK4.out.push HU4.out.size hb ho)
           clear ho hb
           refine hK.out _ _ ⟨pw_cell_below HU5.out Q0.out, pw_cell_below HU5.out Q1.out, pw_cell_below HU5.out Q2.out⟩ (fun hHeld => ?_)
           clear hK K
           refine norm_ (a' := ?_) ?_ ?_
           rotate_left
           · show Act.put _ (some 191) _ = _
             simp only [Act.put, List.setIfInBounds_toArray, List.set_cons_zero, List.set_cons_succ, i64_w, i32_w]
             rfl
           refine one_ (i := 12) (N := some 193) #[true, true, true, true, true, true, true, true, true, true, true, true, true, true, true, true, false, true, true, true, false, true, true, true, false, false, false, false] rfl rfl (one_of HT_.out (by kernel_rfl)) (by decide) (fun K hK => ?_)
           refine goes_ Try.func48 (by kernel_rfl) rfl #[.slice B6 n2 k6] (by rfl) rfl rfl (by simp only [List.map_toArray, List.map_cons, List.map_nil]; rfl) ?_
           with_reducible refine (keep_C B6 n2 k6 body _ N2.out (R8_C ((HV13.out.below HU5.out).get 5 rfl rfl)) HC6.out (by omega)).mono ?_
           rintro e u6 ⟨E6, y6, rfl, ho, hb⟩
           refine ⟨_, rfl, ?_⟩
           have HU6 := Aside0.mk (below_step HU5.out hb)
           have HK6 := Aside0.mk (show Own8 u6 w13.heap.size [.slice E1 m1 y1, .slice E2 m2 y2, .slice E3 m3 y3, .slice E4 m4 y4, .slice E5 n2 y5, .slice E6 n2 y6] [La, Lb, Fc, Fx, body, body] from HK5.out.push HU5.out.size hb ho)
           clear ho hb
           refine hK.out _ _ ⟨pw_cell_below HU6.out Q0.out, pw_cell_below HU6.out Q1.out, pw_cell_below HU6.out Q2.out⟩ (fun hHeld => ?_)
           clear hK K
           refine norm_ (a' := ?_) ?_ ?_
           rotate_left
           · show Act.put _ (some 193) _ = _
             simp only [Act.put, List.setIfInBounds_toArray, List.set_cons_zero, List.set_cons_succ, i64_w, i32_w]
             rfl
           refine one_ (i := 16) (N := some 197) #[true, true, true, true, true, true, true, true, true, true, true, true, true, true, true, true, true, true, true, true, false, true, true, true, false, false, false, false] rfl rfl (one_of HT_.out (by kernel_rfl)) (by decide) (fun K hK => ?_)
           refine goes_ Try.func48 (by kernel_rfl) rfl #[.slice D0 n2 d0] (by rfl) rfl rfl (by simp only [List.map_toArray, List.map_cons, List.map_nil]; rfl) ?_
           with_reducible refine (keep_C D0 n2 d0 body _ N2.out (R8_C ((HVQ.out.below HU6.out).get 0 rfl rfl)) HCQ.out.1 (by omega)).mono ?_
           rintro e u7 ⟨E7, y7, rfl, ho, hb⟩
           refine ⟨_, rfl, ?_⟩
           have HU7 := Aside0.mk (below_step HU6.out hb)
           have HK7 := Aside0.mk (show Own8 u7 w13.heap.size [.slice E1 m1 y1, .slice E2 m2 y2, .slice E3 m3 y3, .slice E4 m4 y4, .slice E5 n2 y5, .slice E6 n2 y6, .slice E7 n2 y7] [La, Lb, Fc, Fx, body, body, body] from HK6.out.push HU6.out.size hb ho)
           clear ho hb
           refine hK.out _ _ ⟨pw_cell_below HU7.out Q0.out, pw_cell_below HU7.out Q1.out, pw_cell_below HU7.out Q2.out⟩ (fun hHeld => ?_)
           clear hK K
           refine norm_ (a' := ?_) ?_ ?_
           rotate_left
           · show Act.put _ (some 197) _ = _
             simp only [Act.put, List.setIfInBounds_toArray, List.set_cons_zero, List.set_cons_succ, i64_w, i32_w]
             rfl
           refine one_ (i := 20) (N := some 201) #[true, true, true, true, true, true, true, true, true, true, true, true, true, true, true, true, true, true, true, true, true, true, true, true, false, false, false, false] rfl rfl (one_of HT_.out (by kernel_rfl)) (by decide) (fun K hK => ?_)
           refine goes_ Try.func48 (by kernel_rfl) rfl #[.slice D1 n3 d1] (by rfl) rfl rfl (by simp only [List.map_toArray, List.map_cons, List.map_nil]; rfl) ?_
           with_reducible refine (keep_C D1 n3 d1 other _ N3.out (R8_C ((HVQ.out.below HU7.out).get 1 rfl rfl)) HCQ.out.2.1 (by omega)).mono ?_
           rintro e u8 ⟨E8, y8, rfl, ho, hb⟩
           refine ⟨_, rfl, ?_⟩
           have HU8 := Aside0.mk (below_step HU7.out hb)
           have HK8 := Aside0.mk (show Own8 u8 w13.heap.size [.slice E1 m1 y1, .slice E2 m2 y2, .slice E3 m3 y3, .slice E4 m4 y4, .slice E5 n2 y5, .slice E6 n2 y6, .slice E7 n2 y7, .slice E8 n3 y8] [La, Lb, Fc, Fx, body, body, body, other] from HK7.out.push HU7.out.size hb ho)
           clear ho hb
           refine hK.out _ _ ⟨pw_cell_below HU8.out Q0.out, pw_cell_below HU8.out Q1.out, pw_cell_below HU8.out Q2.out⟩ (fun hHeld => ?_)
           clear hK K
           refine norm_ (a' := ?_) ?_ ?_
           rotate_left
           · show Act.put _ (some 201) _ = _
             simp only [Act.put, List.setIfInBounds_toArray, List.set_cons_zero, List.set_cons_succ, i64_w, i32_w]
             rfl
           refine one_ (i := 24) (N := some 205) #[true, true, true, true, true, true, true, true, true, true, true, true, true, true, true, true, true, true, true, true, true, true, true, true, true, false, false, false] rfl rfl (one_of HT_.out (by kernel_rfl)) (by decide) (fun K hK => ?_)
           refine goes_ Try.func48 (by kernel_rfl) rfl #[.slice D2 n2 d2] (by rfl) rfl rfl (by simp only [List.map_toArray, List.map_cons, List.map_nil]; rfl) ?_
           with_reducible refine (keep_C D2 n2 d2 body _ N2.out (R8_C ((HVQ.out.below HU8.out).get 2 rfl rfl)) HCQ.out.2.2 (by omega)).mono ?_
           rintro e u9 ⟨E9, y9, rfl, ho, hb⟩
           refine ⟨_, rfl, ?_⟩
           have HU9 := Aside0.mk (below_step HU8.out hb)
           have HK9 := Aside0.mk (show Own8 u9 w13.heap.size [.slice E1 m1 y1, .slice E2 m2 y2, .slice E3 m3 y3, .slice E4 m4 y4, .slice E5 n2 y5, .slice E6 n2 y6, .slice E7 n2 y7, .slice E8 n3 y8, .slice E9 n2 y9] [La, Lb, Fc, Fx, body, body, body, other, body] from HK8.out.push HU8.out.size hb ho)
           clear ho hb
           refine hK.out _ _ ⟨pw_cell_below HU9.out Q0.out, pw_cell_below HU9.out Q1.out, pw_cell_below HU9.out Q2.out⟩ (fun hHeld => ?_)
           clear hK K
           refine norm_ (a' := ?_) ?_ ?_
           rotate_left
           · show Act.put _ (some 205) _ = _
             simp only [Act.put, List.setIfInBounds_toArray, List.set_cons_zero, List.set_cons_succ, i64_w, i32_w]
             rfl
           refine one_ (i := 25) (N := some 206) #[true, true, true, true, true, true, true, true, true, true, true, true, true, true, true, true, true, true, true, true, true, true, true, true, true, true, false, false] rfl rfl (one_of HT_.out (by kernel_rfl)) (by decide) (fun K hK => ?_)
           refine value_ (w1 := ?_) (v := ?_) (by rfl) rfl ?_ ?_
           rotate_left 2
           · go_simp
             constructor
             · rfl
             · rfl
           refine hK.out _ _ ⟨pw_cell_below (below_alloc (Below.refl _ _) _) (pw_cell_below HU9.out Q0.out), pw_cell_below (below_alloc (Below.refl _ _) _) (pw_cell_below HU9.out Q1.out), pw_cell_below (below_alloc (Below.refl _ _) _) (pw_cell_below HU9.out Q2.out)⟩ (fun hHeld => ?_)
           clear hK K
           refine norm_ (a' := ?_) ?_ ?_
           rotate_left
           · show Act.put _ (some 206) _ = _
             simp only [Act.put, List.setIfInBounds_toArray, List.set_cons_zero, List.set_cons_succ, i64_w, i32_w]
             rfl
           refine one_ (i := 26) (N := some 207) #[true, true, true, true, true, true, true, true, true, true, true, true, true, true, true, true, true, true, true, true, true, true, true, true, true, true, true, false] rfl rfl (one_of HT_.out (by kernel_rfl)) (by decide) (fun K hK => ?_)
           refine book_append_step (W := u9) w.heap.size (by rfl) (.tmp 181) (.tmp 206) rfl u11 N X [.slice B1 m1 k1, .slice E1 m1 y1, .slice none 0 0, .slice B2 m2 k2, .slice E2 m2 y2, .slice none 0 0, .slice B3 m3 k3, .slice E3 m3 y3, .slice none 0 0, .slice B4 m4 k4, .slice E4 m4 y4, .slice none 0 0, .slice B5 n2 k5, .slice E5 n2 y5, .slice none 0 0, .slice B6 n2 k6, .slice E6 n2 y6, .slice none 0 0, .slice D0 n2 d0, .slice E7 n2 y7, .slice none 0 0, .slice D1 n3 d1, .slice E8 n3 y8, .slice none 0 0, .slice D2 n2 d2, .slice E9 n2 y9, .slice none 0 0] rfl rfl rfl (by simp [Value.oneCell']) (keeps_book HBK.out HOK.out HF13.out HU9.out).1 (Nat.le_trans HW13.out.size HU9.out.size) (by omega) ?_
           intro v29 w29 ho hg hat
           have g0 := hg.cell (pw_cell_below HU9.out Q0.out) (fun e => HGQ.out e.symm)
           have g1 := hg.cell (pw_cell_below HU9.out Q1.out) (fun e => HGQ.out e.symm)
           have g2 := hg.cell (pw_cell_below HU9.out Q2.out) (fun e => HGQ.out e.symm)
           have HRD := Aside0.mk (keeps_round (six := [.slice B1 m1 k1, .slice B2 m2 k2, .slice B3 m3 k3, .slice B4 m4 k4, .slice B5 n2 k5, .slice B6 n2 k6]) (lq := [.slice D0 n2 d0, .slice D1 n3 d1, .slice D2 n2 d2]) (NW := [.slice E1 m1 y1, .slice E2 m2 y2, .slice E3 m3 y3, .slice E4 m4 y4, .slice E5 n2 y5, .slice E6 n2 y6, .slice E7 n2 y7, .slice E8 n3 y8, .slice E9 n2 y9]) (a := La) (bb := Lb) (c := Fc) (x := Fx) (d := body) (o := other) hN HBK.out HOK.out (fun q hq => (HV6.out.lt q hq).2) (Nat.le_trans HZ6.out HZ9.out.1) HZ12.out (Nat.le_trans HZ9.out.2 HZ9.out.1) HV13.out HVQ.out HBQ.out HOK1.out HOK2.out HF13.out HW13.out HBW.out HS13.out HU9.out HK9.out ho hg hat)
           clear ho hg hat
           refine hK.out _ _ ⟨g0, g1, g2⟩ (fun hHeld => ?_)
           clear hK K
           refine norm_ (a' := ?_) ?_ ?_
           rotate_left
           · show Act.put _ (some 207) _ = _
             simp only [Act.put, List.setIfInBounds_toArray, List.set_cons_zero, List.set_cons_succ, i64_w, i32_w]
             rfl
           refine pure_ (i := 27) (N := some 11) (v := ?_) (a' := ?_) #[true, true, true, true, true, true, true, true, true, true, true, true, true, true, true, true, true, true, true, true, true, true, true, true, true, true, true, true] rfl rfl (any_of HT_.out (by kernel_rfl)) (fun _ _ _ h => h) (Or.inl ⟨by rfl, ?_⟩) ?_ ?_
           rotate_left
           · intro w'
             go_simp
             with_reducible rfl
           rotate_left
           · simp only [Act.put, List.setIfInBounds_toArray, List.set_cons_zero, List.set_cons_succ, i64_w, i32_w]
             rfl
           refine done_ (done_of HT_.out (by kernel_rfl)) ?_
           go_wp2
           go_roundw
           case rel => exact ⟨r + 1, N + 9, ls ++ ([.slice B1 m1 k1, .slice B2 m2 k2, .slice B3 m3 k3, .slice B4 m4 k4, .slice B5 n2 k5, .slice B6 n2 k6] ++ [.slice D0 n2 d0, .slice D1 n3 d1, .slice D2 n2 d2]), us ++ [.slice E1 m1 y1, .slice E2 m2 y2, .slice E3 m3 y3, .slice E4 m4 y4, .slice E5 n2 y5, .slice E6 n2 y6, .slice E7 n2 y7, .slice E8 n3 y8, .slice E9 n2 y9], _, _, by omega, by omega, by go_num, ⟨HRD.out.1⟩, ⟨HRD.out.2.1⟩, ⟨HRD.out.2.2.1⟩, ⟨HRD.out.2.2.2⟩⟩
           case measure => simp [intOf]; omega
    · rcases hE with ⟨e1, e2, e3, hA⟩ | ⟨e1, e2, e3, hA⟩
      all_goals
       obtain ⟨wz, hwz⟩ : ∃ wz, wz = wr := ⟨_, rfl⟩
       subst hwz
       have hN18 : 18 ≤ N := by omega
       have hN360 : N ≤ 360 := by omega
       obtain ⟨gb, cb, cur, rfl, hcb, hgb, hcur, hsz⟩ := own_some HBK.out.1 (by omega)
       have HGB := Aside0.mk hgb
       have HKL := Aside0.mk (fun j => keepC_len (a := La) (b := Lb) (c := Fc) (x := Fx) (d := body) (o := other) 40000 HAL.out.1 HAL.out.2 (by rw [HNF.out.1]; omega) (by rw [HNF.out.2]; omega) (by rw [N2.out]; omega) (by rw [N3.out]; omega) j)
       clear HST HOK hcur hsz hgb hN
       go_wp2
       have HB0 := Aside0.mk (Below.refl wz.heap.size wz)
       go_loopw [30] (fun v30 wt => ∃ k : Nat, k ≤ N ∧ v30 = .int .i64 (k : Int) ∧ Aside0 (Below wz.heap.size wz wt)) (fun v30 _ => N + 1 - (intOf v30).toNat)
       case atStart => exact ⟨0, Nat.zero_le _, rfl, HB0⟩
       case round =>
         clear HB0
         obtain ⟨k, hk, rfl, HWK⟩ := hrel
         obtain ⟨wk, hwk⟩ : ∃ wk, wk = wr := ⟨_, rfl⟩
         subst hwk
         by_cases hlt : k < N
         · have hd1 : decide ((k : Int) < (N : Int)) = true := decide_eq_true (by omega)
           obtain ⟨K9, hK9⟩ : ∃ K9, K9 = k % 9 := ⟨_, rfl⟩
           have hk9N : K9 < N := by omega
           have hrem1 : (k : Int) % 9 = (K9 : Int) := by rw [hK9]; rfl
           have hrem2 : Int.tmod (k : Int) 9 = (K9 : Int) := by rw [Int.tmod_eq_emod_of_nonneg (by omega)]; exact hrem1
           obtain ⟨Lk, hLk⟩ : ∃ Lk, keepC La Lb Fc Fx body other k = Lk := ⟨_, rfl⟩
           have hLk9 : keepC La Lb Fc Fx body other K9 = Lk := by rw [← hLk, hK9]; exact keepC_mod _ _ _ _ _ _ _
           obtain ⟨n, hn⟩ : ∃ n, Lk.length = n := ⟨_, rfl⟩
           have hn4 : n ≤ 40000 := by rw [← hn, ← hLk]; exact HKL.out k
           obtain ⟨B1, k1, f1, hc1, hC1⟩ := Book8.cell HBK.out hlt hLk hn
           obtain ⟨B2, k2, f2, hc2, hC2⟩ := (Book8.copies HBK.out).cell hlt hLk hn
           obtain ⟨B3, k3, f3, hc3, hC3⟩ := (Book8.copies HBK.out).cell hk9N hLk9 hn
           have HU0 := Aside0.mk (below_drew1 HWK.out)
           have e1' : wk.drew.cell? ⟨gb, k * 3, none⟩ = some (.slice B1 n k1) := pw_cell_below HU0.out f1
           have e2' : wk.drew.cell? ⟨gb, k * 3 + 1, none⟩ = some (.slice B2 n k2) := pw_cell_below HU0.out f2
           have e3' : wk.drew.cell? ⟨gb, K9 * 3 + 1, none⟩ = some (.slice B3 n k3) := pw_cell_below HU0.out f3
           have F1 := Aside0.mk f1
           have F2 := Aside0.mk f2
           have F3 := Aside0.mk f3
           have G1 := Aside0.mk (And.intro hc1 (And.intro hc2 hc3))
           have G2 := Aside0.mk (And.intro hC1 (And.intro hC2 hC3))
           have HNL := Aside0.mk hn
           clear f1 f2 f3 hc1 hc2 hc3 hC1 hC2 hC3 hn hLk hLk9 hK9
           go_wp2
           refine start_ (n := 27) (S := fun w' => w'.cell? ⟨gb, k * 3, none⟩ = some (.slice B1 n k1) ∧ w'.cell? ⟨gb, k * 3 + 1, none⟩ = some (.slice B2 n k2) ∧ w'.cell? ⟨gb, K9 * 3 + 1, none⟩ = some (.slice B3 n k3)) (ds := []) #[false, false, false, false, false, false, false, false, false, false, false, false, false, false, false, false, false, false, false, false, false, false, false, false, false, false, false] (by kernel_rfl) rfl rfl ⟨e1', e2', e3'⟩ (fun hHeld => ?_)
           refine with_tabW rg16.tab33 rg16.bits33 (fun HT_ HW_ => ?_)
           refine pure_ (i := 0) (N := some 214) (v := ?_) (a' := ?_) #[true, false, false, false, false, false, false, false, false, false, false, false, false, false, false, false, false, false, false, false, false, false, false, false, false, false, false] rfl rfl (any_of HT_.out (by kernel_rfl)) (fun _ _ _ h => h) (Or.inl ⟨by rfl, ?_⟩) ?_ ?_
           rotate_left
           · intro w'
             go_simp
             with_reducible rfl
           rotate_left
           · simp only [Act.put, List.setIfInBounds_toArray, List.set_cons_zero, List.set_cons_succ, i64_w, i32_w]
             rfl
           refine pure_ (i := 1) (N := some 215) (v := ?_) (a' := ?_) #[true, true, false, false, false, false, false, false, false, false, false, false, false, false, false, false, false, false, false, false, false, false, false, false, false, false, false] rfl rfl (any_of HT_.out (by kernel_rfl)) (fun _ _ _ h => h) (Or.inl ⟨by rfl, ?_⟩) ?_ ?_
           rotate_left
           · intro w'
             go_simp
             with_reducible rfl
           rotate_left
           · simp only [Act.put, List.setIfInBounds_toArray, List.set_cons_zero, List.set_cons_succ, i64_w, i32_w]
             rfl
           refine pure_ (i := 2) (N := some 216) (v := ?_) (a' := ?_) #[true, true, true, false, false, false, false, false, false, false, false, false, false, false, false, false, false, false, false, false, false, false, false, false, false, false, false] rfl rfl (any_of HT_.out (by kernel_rfl)) (fun _ _ _ h => h) (Or.inl ⟨by rfl, ?_⟩) ?_ ?_
           rotate_left
           · intro w'
             go_simp
             with_reducible rfl
           rotate_left
           · simp only [Act.put, List.setIfInBounds_toArray, List.set_cons_zero, List.set_cons_succ, i64_w, i32_w]
             rfl
           refine pure_ (i := 3) (N := some 217) (v := ?_) (a' := ?_) #[true, true, true, true, false, false, false, false, false, false, false, false, false, false, false, false, false, false, false, false, false, false, false, false, false, false, false] rfl rfl (any_of HT_.out (by kernel_rfl)) (fun _ _ _ h => h) (Or.inl ⟨by rfl, ?_⟩) ?_ ?_
           rotate_left
           · intro w'
             go_simp
             with_reducible rfl
           rotate_left
           · simp only [Act.put, List.setIfInBounds_toArray, List.set_cons_zero, List.set_cons_succ, i64_w, i32_w]
             rfl
           refine pure_ (i := 5) (N := some 219) (v := ?_) (a' := ?_) #[true, true, true, true, false, true, false, false, false, false, false, false, false, false, false, false, false, false, false, false, false, false, false, false, false, false, false] rfl rfl (any_of HT_.out (by kernel_rfl)) (fun _ _ _ h => h) (Or.inl ⟨by rfl, ?_⟩) ?_ ?_
           rotate_left
           · intro w'
             go_simp
             with_reducible rfl
           rotate_left
           · simp only [Act.put, List.setIfInBounds_toArray, List.set_cons_zero, List.set_cons_succ, i64_w, i32_w]
             rfl
           refine pure_ (i := 6) (N := some 220) (v := ?_) (a' := ?_) #[true, true, true, true, false, true, true, false, false, false, false, false, false, false, false, false, false, false, false, false, false, false, false, false, false, false, false] rfl rfl (any_of HT_.out (by kernel_rfl)) (fun _ _ _ h => h) (Or.inl ⟨by rfl, ?_⟩) ?_ ?_
           rotate_left
           · intro w'
             go_simp
             with_reducible rfl
           rotate_left
           · simp only [Act.put, List.setIfInBounds_toArray, List.set_cons_zero, List.set_cons_succ, i64_w, i32_w]
             rfl
           refine pure_ (i := 7) (N := some 221) (v := ?_) (a' := ?_) #[true, true, true, true, false, true, true, true, false, false, false, false, false, false, false, false, false, false, false, false, false, false, false, false, false, false, false] rfl rfl (any_of HT_.out (by kernel_rfl)) (fun _ _ _ h => h) (Or.inl ⟨by rfl, ?_⟩) ?_ ?_
           rotate_left
           · intro w'
             go_simp
             with_reducible rfl
           rotate_left
           · simp only [Act.put, List.setIfInBounds_toArray, List.set_cons_zero, List.set_cons_succ, i64_w, i32_w]
             rfl
           refine pure_ (i := 8) (N := some 222) (v := ?_) (a' := ?_) #[true, true, true, true, false, true, true, true, true, false, false, false, false, false, false, false, false, false, false, false, false, false, false, false, false, false, false] rfl rfl (any_of HT_.out (by kernel_rfl)) (fun _ _ _ h => h) (Or.inl ⟨by rfl, ?_⟩) ?_ ?_
           rotate_left
           · intro w'
             go_simp
             with_reducible rfl
           rotate_left
           · simp only [Act.put, List.setIfInBounds_toArray, List.set_cons_zero, List.set_cons_succ, i64_w, i32_w]
             rfl
           refine take_ (i := 4) (N := some 218) (v := ?_) (a' := ?_) #[true, true, true, true, true, true, true, true, true, false, false, false, false, false, false, false, false, false, false, false, false, false, false, false, false, false, false] rfl rfl (take_ofW HT_.out HW_.out (by kernel_rfl)) (fun _ _ _ h => h) (Or.inl ⟨by rfl, ?_⟩) hHeld ?_ ?_
           rotate_left
           · rintro w' ⟨s0, s1, s2⟩
             go_simp
             with_reducible rfl
           rotate_left
           · simp only [Act.put, List.setIfInBounds_toArray, List.set_cons_zero, List.set_cons_succ, i64_w, i32_w]
             rfl
           refine take_ (i := 9) (N := some 223) (v := ?_) (a' := ?_) #[true, true, true, true, true, true, true, true, true, true, false, false, false, false, false, false, false, false, false, false, false, false, false, false, false, false, false] rfl rfl (take_ofW HT_.out HW_.out (by kernel_rfl)) (fun _ _ _ h => h) (Or.inl ⟨by rfl, ?_⟩) hHeld ?_ ?_
           rotate_left
           · rintro w' ⟨s0, s1, s2⟩
             go_simp
             with_reducible rfl
           rotate_left
           · simp only [Act.put, List.setIfInBounds_toArray, List.set_cons_zero, List.set_cons_succ, i64_w, i32_w]
             rfl
           refine one_ (i := 10) (N := some 224) #[true, true, true, true, true, true, true, true, true, true, true, false, false, false, false, false, false, false, false, false, false, false, false, false, false, false, false] rfl rfl (one_of HT_.out (by kernel_rfl)) (by decide) (fun K hK => ?_)
           refine goes_ Try.func20 (by kernel_rfl) rfl #[.slice B1 n k1, .slice B2 n k2] (by rfl) rfl rfl (by simp only [List.map_toArray, List.map_cons, List.map_nil]; rfl) ?_
           with_reducible refine (heraldlaw2_same.callsB true 50000 B1 k1 n Lk B2 k2 n Lk _ (decide_eq_true rfl) HNL.out HNL.out (Kd.C_below G2.out.1 HU0.out) G1.out.1 (Kd.C_below G2.out.2.1 HU0.out) G1.out.2.1 (by rw [HNL.out]; omega) (by rw [HNL.out]; omega)).mono ?_
           rintro e u1 ⟨rfl, hd⟩
           have HU1 := Aside0.mk (below_step HU0.out hd.below)
           clear hd
           refine ⟨_, rfl, ?_⟩
           refine hK.out _ _ ⟨pw_cell_below HU1.out F1.out, pw_cell_below HU1.out F2.out, pw_cell_below HU1.out F3.out⟩ (fun hHeld => ?_)
           clear hK K
           refine norm_ (a' := ?_) ?_ ?_
           rotate_left
           · show Act.put _ (some 224) _ = _
             simp only [Act.put, List.setIfInBounds_toArray, List.set_cons_zero, List.set_cons_succ, i64_w, i32_w]
             rfl
           refine pure_ (i := 11) (N := some 225) (v := ?_) (a' := ?_) #[true, true, true, true, true, true, true, true, true, true, true, true, false, false, false, false, false, false, false, false, false, false, false, false, false, false, false] rfl rfl (any_of HT_.out (by kernel_rfl)) (fun _ _ _ h => h) (Or.inl ⟨by rfl, ?_⟩) ?_ ?_
           rotate_left
           · intro w'
             go_simp
             with_reducible rfl
           rotate_left
           · simp only [Act.put, List.setIfInBounds_toArray, List.set_cons_zero, List.set_cons_succ, i64_w, i32_w]
             rfl
           refine pure_ (i := 12) (N := some 226) (v := ?_) (a' := ?_) #[true, true, true, true, true, true, true, true, true, true, true, true, true, false, false, false, false, false, false, false, false, false, false, false, false, false, false] rfl rfl (any_of HT_.out (by kernel_rfl)) (fun _ _ _ h => h) (Or.inl ⟨by rfl, ?_⟩) ?_ ?_
           rotate_left
           · intro w'
             go_simp
             with_reducible rfl
           rotate_left
           · simp only [Act.put, List.setIfInBounds_toArray, List.set_cons_zero, List.set_cons_succ, i64_w, i32_w]
             rfl
           refine pure_ (i := 13) (N := some 227) (v := ?_) (a' := ?_) #[true, true, true, true, true, true, true, true, true, true, true, true, true, true, false, false, false, false, false, false, false, false, false, false, false, false, false] rfl rfl (any_of HT_.out (by kernel_rfl)) (fun _ _ _ h => h) (Or.inl ⟨by rfl, ?_⟩) ?_ ?_
           rotate_left
           · intro w'
             go_simp
             with_reducible rfl
           rotate_left
           · simp only [Act.put, List.setIfInBounds_toArray, List.set_cons_zero, List.set_cons_succ, i64_w, i32_w]
             rfl
           refine pure_ (i := 14) (N := some 228) (v := ?_) (a' := ?_) #[true, true, true, true, true, true, true, true, true, true, true, true, true, true, true, false, false, false, false, false, false, false, false, false, false, false, false] rfl rfl (any_of HT_.out (by kernel_rfl)) (fun _ _ _ h => h) (Or.inl ⟨by rfl, ?_⟩) ?_ ?_
           rotate_left
           · intro w'
             go_simp
             with_reducible rfl
           rotate_left
           · simp only [Act.put, List.setIfInBounds_toArray, List.set_cons_zero, List.set_cons_succ, i64_w, i32_w]
             rfl
           refine pure_ (i := 15) (N := some 229) (v := ?_) (a' := ?_) #[true, true, true, true, true, true, true, true, true, true, true, true, true, true, true, true, false, false, false, false, false, false, false, false, false, false, false] rfl rfl (any_of HT_.out (by kernel_rfl)) (fun _ _ _ h => h) (Or.inl ⟨by rfl, ?_⟩) ?_ ?_
           rotate_left
           · intro w'
             go_simp
             with_reducible rfl
           rotate_left
           · simp only [Act.put, List.setIfInBounds_toArray, List.set_cons_zero, List.set_cons_succ, i64_w, i32_w]
             rfl
           refine pure_ (i := 16) (N := some 230) (v := ?_) (a' := ?_) #[true, true, true, true, true, true, true, true, true, true, true, true, true, true, true, true, true, false, false, false, false, false, false, false, false, false, false] rfl rfl (any_of HT_.out (by kernel_rfl)) (fun _ _ _ h => h) (Or.inl ⟨by rfl, ?_⟩) ?_ ?_
           rotate_left
           · intro w'
             go_simp
             with_reducible rfl
           rotate_left
           · simp only [Act.put, List.setIfInBounds_toArray, List.set_cons_zero, List.set_cons_succ, i64_w, i32_w]
             rfl
           refine pure_ (i := 18) (N := some 232) (v := ?_) (a' := ?_) #[true, true, true, true, true, true, true, true, true, true, true, true, true, true, true, true, true, false, true, false, false, false, false, false, false, false, false] rfl rfl (any_of HT_.out (by kernel_rfl)) (fun _ _ _ h => h) (Or.inl ⟨by rfl, ?_⟩) ?_ ?_
           rotate_left
           · intro w'
             go_simp
             with_reducible rfl
           rotate_left
           · simp only [Act.put, List.setIfInBounds_toArray, List.set_cons_zero, List.set_cons_succ, i64_w, i32_w]
             rfl
           refine pure_ (i := 19) (N := some 233) (v := ?_) (a' := ?_) #[true, true, true, true, true, true, true, true, true, true, true, true, true, true, true, true, true, false, true, true, false, false, false, false, false, false, false] rfl rfl (any_of HT_.out (by kernel_rfl)) (fun _ _ _ h => h) (Or.inl ⟨by rfl, ?_⟩) ?_ ?_
           rotate_left
           · intro w'
             go_simp
             with_reducible rfl
           rotate_left
           · simp only [Act.put, List.setIfInBounds_toArray, List.set_cons_zero, List.set_cons_succ, i64_w, i32_w]
             rfl
           refine pure_ (i := 20) (N := some 234) (v := ?_) (a' := ?_) #[true, true, true, true, true, true, true, true, true, true, true, true, true, true, true, true, true, false, true, true, true, false, false, false, false, false, false] rfl rfl (any_of HT_.out (by kernel_rfl)) (fun _ _ _ h => h) (Or.inl ⟨by rfl, ?_⟩) ?_ ?_
           rotate_left
           · intro w'
             go_simp
             with_reducible rfl
           rotate_left
           · simp only [Act.put, List.setIfInBounds_toArray, List.set_cons_zero, List.set_cons_succ, i64_w, i32_w]
             rfl
           refine pure_ (i := 21) (N := some 235) (v := ?_) (a' := ?_) #[true, true, true, true, true, true, true, true, true, true, true, true, true, true, true, true, true, false, true, true, true, true, false, false, false, false, false] rfl rfl (any_of HT_.out (by kernel_rfl)) (fun _ _ _ h => h) (Or.inl ⟨by rfl, ?_⟩) ?_ ?_
           rotate_left
           · intro w'
             go_simp
             with_reducible rfl
           rotate_left
           · simp only [Act.put, List.setIfInBounds_toArray, List.set_cons_zero, List.set_cons_succ, i64_w, i32_w]
             rfl
           refine pure_ (i := 22) (N := some 236) (v := ?_) (a' := ?_) #[true, true, true, true, true, true, true, true, true, true, true, true, true, true, true, true, true, false, true, true, true, true, true, false, false, false, false] rfl rfl (any_of HT_.out (by kernel_rfl)) (fun _ _ _ h => h) (Or.inl ⟨by rfl, ?_⟩) ?_ ?_
           rotate_left
           · intro w'
             go_simp
             with_reducible rfl
           rotate_left
           · simp only [Act.put, List.setIfInBounds_toArray, List.set_cons_zero, List.set_cons_succ, i64_w, i32_w]
             rfl
           refine take_ (i := 17) (N := some 231) (v := ?_) (a' := ?_) #[true, true, true, true, true, true, true, true, true, true, true, true, true, true, true, true, true, true, true, true, true, true, true, false, false, false, false] rfl rfl (take_ofW HT_.out HW_.out (by kernel_rfl)) (fun _ _ _ h => h) (Or.inl ⟨by rfl, ?_⟩) hHeld ?_ ?_
           rotate_left
           · rintro w' ⟨s0, s1, s2⟩
             go_simp
             with_reducible rfl
           rotate_left
           · simp only [Act.put, List.setIfInBounds_toArray, List.set_cons_zero, List.set_cons_succ, i64_w, i32_w]
             rfl
           refine take_ (i := 23) (N := some 237) (v := ?_) (a' := ?_) #[true, true, true, true, true, true, true, true, true, true, true, true, true, true, true, true, true, true, true, true, true, true, true, true, false, false, false] rfl rfl (take_ofW HT_.out HW_.out (by kernel_rfl)) (fun _ _ _ h => h) (Or.inl ⟨by rfl, ?_⟩) hHeld ?_ ?_
           rotate_left
           · rintro w' ⟨s0, s1, s2⟩
             go_simp
             with_reducible rfl
           rotate_left
           · simp only [Act.put, List.setIfInBounds_toArray, List.set_cons_zero, List.set_cons_succ, i64_w, i32_w]
             rfl
           refine one_ (i := 24) (N := some 238) #[true, true, true, true, true, true, true, true, true, true, true, true, true, true, true, true, true, true, true, true, true, true, true, true, true, false, false] rfl rfl (one_of HT_.out (by kernel_rfl)) (by decide) (fun K hK => ?_)
           refine goes_ Try.func20 (by kernel_rfl) rfl #[.slice B2 n k2, .slice B3 n k3] (by rfl) rfl rfl (by simp only [List.map_toArray, List.map_cons, List.map_nil]; rfl) ?_
           with_reducible refine (heraldlaw2_same.callsB true 50000 B2 k2 n Lk B3 k3 n Lk _ (decide_eq_true rfl) HNL.out HNL.out (Kd.C_below G2.out.2.1 HU1.out) G1.out.2.1 (Kd.C_below G2.out.2.2 HU1.out) G1.out.2.2 (by rw [HNL.out]; omega) (by rw [HNL.out]; omega)).mono ?_
           rintro e u2 ⟨rfl, hd⟩
           have HU2 := Aside0.mk (below_step HU1.out hd.below)
           clear hd
           refine ⟨_, rfl, ?_⟩
           refine hK.out _ _ ⟨pw_cell_below HU2.out F1.out, pw_cell_below HU2.out F2.out, pw_cell_below HU2.out F3.out⟩ (fun hHeld => ?_)
           clear hK K
           refine norm_ (a' := ?_) ?_ ?_
           rotate_left
           · show Act.put _ (some 238) _ = _
             simp only [Act.put, List.setIfInBounds_toArray, List.set_cons_zero, List.set_cons_succ, i64_w, i32_w]
             rfl
           refine pure_ (i := 25) (N := some 239) (v := ?_) (a' := ?_) #[true, true, true, true, true, true, true, true, true, true, true, true, true, true, true, true, true, true, true, true, true, true, true, true, true, true, false] rfl rfl (any_of HT_.out (by kernel_rfl)) (fun _ _ _ h => h) (Or.inl ⟨by rfl, ?_⟩) ?_ ?_
           rotate_left
           · intro w'
             go_simp
             with_reducible rfl
           rotate_left
           · simp only [Act.put, List.setIfInBounds_toArray, List.set_cons_zero, List.set_cons_succ, i64_w, i32_w]
             rfl
           refine pure_ (i := 26) (N := some 240) (v := ?_) (a' := ?_) #[true, true, true, true, true, true, true, true, true, true, true, true, true, true, true, true, true, true, true, true, true, true, true, true, true, true, true] rfl rfl (any_of HT_.out (by kernel_rfl)) (fun _ _ _ h => h) (Or.inl ⟨by rfl, ?_⟩) ?_ ?_
           rotate_left
           · intro w'
             go_simp
             with_reducible rfl
           rotate_left
           · simp only [Act.put, List.setIfInBounds_toArray, List.set_cons_zero, List.set_cons_succ, i64_w, i32_w]
             rfl
           refine done_ (done_of HT_.out (by kernel_rfl)) ?_
           clear e1' e2' e3' hrem1 hrem2
           go_wp2
           go_roundw
           case rel => exact ⟨k + 1, by omega, by go_num, HU2⟩
           case measure => simp [intOf]; omega
         · have hd1 : decide ((k : Int) < (N : Int)) = false := decide_eq_false (by omega)
           have HBK2 := Aside0.mk (Book8.below HBK.out HWK.out)
           have HWk := Aside0.mk (below_step HBW.out HWK.out)
           have HNL := Aside0.mk (show ls.length = N from HBK.out.2.1)
           clear HWK
           go_wp2_with fail
           refine (stained0_C (W := wk) (base := w.heap.size) (ls := ls) HBK2.out.1 (fun j v hj => by rw [(HBK2.out.2.2.2.1 j).1]; exact hj) HNL.out (by omega) (fun j v hj => R8_raw (HBK2.out.2.2.2.2.1 j v hj) (HKL.out j)) HBK2.out.2.2.2.2.2.2.1 HWk.out.size).mono ?_
           rintro x30 w30 ⟨rfl, X1, hX1, hs1, hraw1, hf1⟩
           have H1 := Aside0.mk (And.intro hX1 (And.intro hs1 (And.intro hraw1 hf1)))
           clear hX1 hs1 hraw1 hf1
           go_wp2_with fail
           refine (stained1_C (W := w30) (base := w.heap.size) (ls := ls) H1.out.1 (fun j v hj => by rw [(H1.out.2.1.2 j).1, (HBK2.out.2.2.2.1 j).1]; exact hj) HNL.out (by omega) H1.out.2.2.1 HBK2.out.2.2.2.2.2.2.1 (Nat.le_trans HWk.out.size H1.out.2.2.2.size)).mono ?_
           rintro x31 w31 ⟨rfl, X2, hX2, hs2, hraw2, hf2⟩
           have hf3 := H1.out.2.2.2.then_ hf2 (fun q hq _ => hq)
           have HUS := Aside0.mk (Book8.stained HBK2.out hf3 hX2 (H1.out.2.1.trans hs2))
           have HW31 := Aside0.mk (below_frm (N := w.heap.size) HWk.out hf3 (fun q hq => hq.elim (fun h => by rw [h]; exact HGB.out) (fun h => (HBK2.out.lt q (.inl h)).1)) (Nat.le_refl _))
           clear hX2 hs2 hraw2 hf2 hf3
           go_wp2_with fail
           refine (number_R v _).mono ?_
           rintro x32 w32 ⟨B1, m1, k1, rfl, hl, hc, ho, hb⟩
           rw [HLa.out] at hl ho
           rw [HEa.out]
           have HV1 := Aside0.mk (Own8.one ho)
           have HL1 := Aside0.mk hl
           have HC1 := Aside0.mk hc
           have HR1 := Aside0.mk hb
           clear hl hc ho hb
           go_wp2_with fail
           refine (text_R s _).mono ?_
           rintro x33 w33 ⟨B2, m2, k2, rfl, hl, hc, ho, hb⟩
           rw [HLb.out] at hl ho
           rw [HEb.out]
           have HV2 := Aside0.mk (show Own8 w33 w31.heap.size [.slice B1 m1 k1, .slice B2 m2 k2] [La, Lb] from HV1.out.push HR1.out.size hb ho)
           have HL2 := Aside0.mk hl
           have HC2 := Aside0.mk hc
           have HR2 := Aside0.mk (below_step HR1.out hb)
           clear hl hc ho hb HV1 HR1
           go_wp2_with fail
           refine (frame_uno w33 A2 c2 n2 body Fc (Kd.C_below R2.out (below_step HW31.out HR2.out)) N2.out C2.out h2 HFc.out).mono ?_
           rintro x34 w34 ⟨B3, m3, k3, rfl, hl, hc, ho, hb⟩
           have HV3 := Aside0.mk (show Own8 w34 w31.heap.size [.slice B1 m1 k1, .slice B2 m2 k2, .slice B3 m3 k3] [La, Lb, Fc] from HV2.out.push HR2.out.size hb ho)
           have HL3 := Aside0.mk hl
           have HC3 := Aside0.mk hc
           have HM3 := Aside0.mk (show m3 ≤ 20014 by rw [← hl, HNF.out.1]; omega)
           have HR3 := Aside0.mk (below_step HR2.out hb)
           clear hl hc ho hb HV2 HR2
           go_wp2_with fail
           refine (unframe_R B3 k3 m3 body Fc w34 HFc.out HL3.out (R8_C (HV3.out.get 2 rfl rfl)) HC3.out O2.out (by rw [N2.out]; exact h2)).mono ?_
           rintro x35 w35 ⟨B4, k4, rfl, hc, ho, hb⟩
           rw [N2.out] at hc ho ⊢
           have HV4 := Aside0.mk (show Own8 w35 w31.heap.size [.slice B1 m1 k1, .slice B2 m2 k2, .slice B3 m3 k3, .slice B4 n2 k4] [La, Lb, Fc, body] from HV3.out.push HR3.out.size hb ho)
           have HC4 := Aside0.mk hc
           have HR4 := Aside0.mk (below_step HR3.out hb)
           clear hc ho hb HV3 HR3
           obtain ⟨G1, g1, f1, hg1, hG1⟩ := HUS.out.cell (k := 0) (L := La) (n := m1) (by omega) rfl HL1.out
           obtain ⟨G2, g2, f2, hg2, hG2⟩ := HUS.out.cell (k := 1) (L := Lb) (n := m2) (by omega) rfl HL2.out
           obtain ⟨G3, g3, f3, hg3, hG3⟩ := HUS.out.cell (k := 2) (L := Fc) (n := m3) (by omega) rfl HL3.out
           have F1 := Aside0.mk (show w31.cell? ⟨gb, 1, none⟩ = some (.slice G1 m1 g1) from f1)
           have F2 := Aside0.mk (show w31.cell? ⟨gb, 4, none⟩ = some (.slice G2 m2 g2) from f2)
           have F3 := Aside0.mk (show w31.cell? ⟨gb, 7, none⟩ = some (.slice G3 m3 g3) from f3)
           have HG := Aside0.mk (And.intro hg1 (And.intro hg2 hg3))
           have HGC := Aside0.mk (And.intro hG1 (And.intro hG2 hG3))
           have hd2 : decide (0 < N) = true := decide_eq_true (by omega)
           have hd3 : decide (1 < N) = true := decide_eq_true (by omega)
           have hd4 : decide (2 < N) = true := decide_eq_true (by omega)
           clear f1 f2 f3 hg1 hg2 hg3 hG1 hG2 hG3
           have q1 : w35.cell? ⟨gb, 1, none⟩ = some (.slice G1 m1 g1) := pw_cell_below HR4.out F1.out
           go_wp2_with fail
           refine (heraldlaw2_same.callsB true 50000 B1 k1 m1 La G1 g1 m1 La w35 (decide_eq_true rfl) HL1.out HL1.out (R8_C (HV4.out.get 0 rfl rfl)) HC1.out (Kd.C_below HGC.out.1 HR4.out) HG.out.1 (by have h := HAL.out.1; omega) (by have h := HAL.out.1; omega)).mono ?_
           rintro x36 w36 ⟨rfl, hd⟩
           have HR5 := Aside0.mk (below_step HR4.out hd.below)
           have HV5 := Aside0.mk (HV4.out.below hd.below)
           clear hd q1 HR4 HV4
           have q2 : w36.cell? ⟨gb, 4, none⟩ = some (.slice G2 m2 g2) := pw_cell_below HR5.out F2.out
           go_wp2_with fail
           refine (heraldlaw2_same.callsB true 50000 B2 k2 m2 Lb G2 g2 m2 Lb w36 (decide_eq_true rfl) HL2.out HL2.out (R8_C (HV5.out.get 1 rfl rfl)) HC2.out (Kd.C_below HGC.out.2.1 HR5.out) HG.out.2.1 (by have h := HAL.out.2; omega) (by have h := HAL.out.2; omega)).mono ?_
           rintro x37 w37 ⟨rfl, hd⟩
           have HR6 := Aside0.mk (below_step HR5.out hd.below)
           have HV6 := Aside0.mk (HV5.out.below hd.below)
           clear hd q2 HR5 HV5
           have q3 : w37.cell? ⟨gb, 7, none⟩ = some (.slice G3 m3 g3) := pw_cell_below HR6.out F3.out
           go_wp2_with fail
           refine (heraldlaw2_same.callsB true 50000 B3 k3 m3 Fc G3 g3 m3 Fc w37 (decide_eq_true rfl) HL3.out HL3.out (R8_C (HV6.out.get 2 rfl rfl)) HC3.out (Kd.C_below HGC.out.2.2 HR6.out) HG.out.2.2 (by have h := HM3.out; rw [HL3.out]; omega) (by have h := HM3.out; rw [HL3.out]; omega)).mono ?_
           rintro x38 w38 ⟨rfl, hd⟩
           have HR7 := Aside0.mk (below_step HR6.out hd.below)
           have HV7 := Aside0.mk (HV6.out.below hd.below)
           clear hd q3 HR6 HV6
           go_wp2_with fail
           refine (heraldlaw2_same.callsB true 50000 B4 k4 n2 body A2 c2 n2 body w38 (decide_eq_true rfl) N2.out N2.out (R8_C (HV7.out.get 3 rfl rfl)) HC4.out (Kd.C_below R2.out (below_step HW31.out HR7.out)) C2.out (by rw [N2.out]; omega) (by rw [N2.out]; omega)).mono ?_
           rintro x39 w39 ⟨rfl, hd⟩
           have HR8 := Aside0.mk (below_step HW31.out (below_step HR7.out hd.below))
           clear hd HR7 HV7
           go_wp2
           go_ret
           exact ⟨rfl, HR8.out⟩
end Go.Proofs.Ytnanaojjhmpilaa.PW
