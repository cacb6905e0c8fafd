/- The machine's side of functions, in one namespace: each function's call comes to what its Lean function tells. -/
import Derived.Test.YtnanaojjhmpilaaPWx0
import Derived.Test.YtnanaojjhmpilaaPWx1
import Derived.Test.YtnanaojjhmpilaaPWx6
namespace Go.Proofs.Ytnanaojjhmpilaa.PW
open Go.RowKit Go.Proofs.YtnanaojjhmpilaaW.PrintWords Go.Proofs.YtnanaojjhmpilaaW.PrintLast Go.Proofs.YtnanaojjhmpilaaW.PrintMore
attribute [local go_sem] max2_int min2_int max_two min_two max_three min_three max_four min_four   -- for this text's walks alone
set_option linter.unusedVariables false
set_option linter.unusedSimpArgs false

/-! ### heraldref2_headed: function 59 -/
def heraldref2_headed.f (l0 : List Int) : Option (Int × Bool) := if bytesOk l0 = true ∧ 10 ≤ l0.length ∧ l0.length ≤ 1000000000000 then some (wordAt l0 2, headB l0) else none
set_option maxHeartbeats 4000000 in
set_option maxRecDepth 100000 in
theorem heraldref2_headed.calls (A0 : Option Addr) (c0 : Nat) (l0 : List Int) (r1 : Int) (r2 : Bool) (w : World) (hr0 : Kd.C (Kd.int .u8) w A0 l0.length l0) (hc0 : l0.length ≤ c0) (h : heraldref2_headed.f l0 = some (r1, r2)) :
    Calls Try.prog 59 #[.slice A0 l0.length c0] w fun e w' => e = .returned (.tuple #[.int .i64 r1, .bool r2]) ∧ Drawn0 w w' := by
  unfold heraldref2_headed.f at h
  split at h
  case isFalse => cases h
  rename_i hok
  obtain ⟨hok, hl, hm⟩ := hok
  have hr := Option.some.inj h
  clear h
  have hwd := from4_eq l0 hok 2 (by omega) (by omega) hm
  have hwd6 := from4_eq l0 hok 6 (by omega) (by omega) hm
  rw [show (2 : Int).toNat = 2 from rfl] at hwd
  rw [show (6 : Int).toNat = 6 from rfl] at hwd6
  have hsum := ref_sum (l0.length + 9) (l0.take 6) (by rw [List.length_take]; omega) (bytesOk_take hok 6) (by rw [List.length_take]; omega)
  obtain ⟨kk, hkk⟩ : ∃ kk, kk = l0.length + 9 := ⟨_, rfl⟩
  rw [← hkk] at hsum
  clear hkk
  obtain ⟨n, hn⟩ : ∃ n, n = wordAt l0 2 := ⟨_, rfl⟩
  obtain ⟨m6, hm6⟩ : ∃ m, m = wordAt l0 6 := ⟨_, rfl⟩
  obtain ⟨sm, hsm⟩ : ∃ s, s = sumW (l0.take 6) := ⟨_, rfl⟩
  rw [← hsm] at hsum
  obtain ⟨b0, hb0⟩ : ∃ b, b = rd l0 0 := ⟨_, rfl⟩
  obtain ⟨b1, hb1⟩ : ∃ b, b = rd l0 1 := ⟨_, rfl⟩
  obtain ⟨ad, rfl, hx0⟩ := Kd.at_int hr0 0 (by omega) (by omega)
  obtain ⟨ad', e, hx1⟩ := Kd.at_int hr0 1 (by omega) (by omega)
  cases e
  simp only [show (1 : Int).toNat = 1 from rfl, Nat.reduceMul, Nat.reduceEqDiff, Go.Addr.add, ↓reduceIte] at hx1
  rw [show ((0 : Int)).toNat = 0 from rfl, Addr.add_zero'] at hx0
  unfold headB at hr
  rw [← hn, ← hm6, ← hsm, ← hb0, ← hb1] at hr
  rw [← hb0] at hx0
  rw [← hb1] at hx1
  rw [← hn] at hwd
  rw [← hm6] at hwd6
  clear hn hm6 hsm hb0 hb1
  have HR := Aside0.mk hr
  have HR0 := Aside0.mk hr0
  have HC0 := Aside0.mk hc0
  have HW2 := Aside0.mk hwd
  have HW6 := Aside0.mk hwd6
  have HS := Aside0.mk hsum
  have HOK := Aside0.mk hok
  clear hr hr0 hc0 hwd hwd6 hsum hok
  have c1 : (1 : Int) < (l0.length : Int) := by omega
  have c00 : (0 : Int) < (l0.length : Int) := by omega
  have g1 : (1 : Nat) < l0.length := by omega
  have g0 : (0 : Nat) < l0.length := by omega
  by_cases h0 : b0 = 197
  · have k0 : (b0 == 197) = true := beq_iff_eq.mpr h0
    have H0 := Aside0.mk h0
    clear h0
    by_cases h1 : b1 = 58
    · have k1 : (b1 == 58) = true := beq_iff_eq.mpr h1
      have H1 := Aside0.mk h1
      clear h1
      obtain ⟨hcutt, hCt⟩ := cutt8 (A := some ad) (n := l0.length) (c := c0) (xs := l0) 6 (by omega) HC0.out
      simp only [show ((6 : Nat) : Int) = 6 from rfl] at hcutt
      have HCt := Aside0.mk hCt
      clear hCt
      have HLT := Aside0.mk (show (l0.take 6).length ≤ c0 by have := HC0.out; rw [List.length_take]; omega)
      have HL6 := Aside0.mk (show 6 = (l0.take 6).length by rw [List.length_take]; omega)
      by_cases h2 : m6 = sm
      · have k2 : (m6 == sm) = true := beq_iff_eq.mpr h2
        have H2 := Aside0.mk h2
        clear h2
        have hfin : (n, decide (n ≤ 262144)) = (r1, r2) := by rw [← HR.out, H0.out, H1.out, H2.out]; simp
        have HF := Aside0.mk hfin
        clear hfin
        go_enter Try.func59, Try.ntmps59
        go_wp2_with (go_at_call 60; refine (heraldref2_from4.calls (some ad) c0 l0 2 n _ HR0.out HC0.out HW2.out).mono ?_; rintro e1 w1 ⟨rfl, ⟨nd, rfl⟩⟩)
        obtain ⟨W2, hW2⟩ : ∃ W2 : World, W2 = w.drewN nd := ⟨_, rfl⟩
        rw [← hW2]
        have HR2 := Aside0.mk (hW2 ▸ Kd.C_drewN HR0.out nd : C8 W2 (some ad) l0.length l0)
        have HD2 := Aside0.mk (show Drawn0 w W2 from ⟨⟨nd, hW2⟩⟩)
        have hy0 : W2.cell? ad = some (.int .u8 b0) := by rw [hW2]; exact hx0
        have hy1 : W2.cell? ⟨ad.block, ad.off + 1, none⟩ = some (.int .u8 b1) := by rw [hW2]; exact hx1
        clear hW2
        go_quiet (first | (go_at_call 60; exact Drawn0.quiet (heraldref2_from4.calls (some ad) c0 l0 6 m6 _ (by repeat (first | exact HR2.out | apply Kd.C_drewN | apply Kd.C_drew)) HC0.out HW6.out)) | (go_at_call 24; rw [show (Value.slice (some ad) 6 c0) = .slice (some ad) (l0.take 6).length c0 by rw [← HL6.out]]; exact Drawn0.quiet (heraldref2_Sum.calls kk (some ad) c0 (l0.take 6) sm _ (by rw [← HL6.out]; exact HCt.out _ (by repeat (first | exact HR2.out | apply Kd.C_drewN | apply Kd.C_drew))) HLT.out HS.out)))
        go_wp2
        go_ret2
        have hf := HF.out
        cases hf
        exact ⟨rfl, by repeat (first | exact HD2.out | apply Drawn0.step)⟩
      · have k2 : (m6 == sm) = false := beq_eq_false_iff_ne.mpr h2
        have hfin : (n, false) = (r1, r2) := by rw [← HR.out, H0.out, H1.out, decide_eq_false h2]; simp
        have HF := Aside0.mk hfin
        clear hfin h2
        go_enter Try.func59, Try.ntmps59
        go_wp2_with (go_at_call 60; refine (heraldref2_from4.calls (some ad) c0 l0 2 n _ HR0.out HC0.out HW2.out).mono ?_; rintro e1 w1 ⟨rfl, ⟨nd, rfl⟩⟩)
        obtain ⟨W2, hW2⟩ : ∃ W2 : World, W2 = w.drewN nd := ⟨_, rfl⟩
        rw [← hW2]
        have HR2 := Aside0.mk (hW2 ▸ Kd.C_drewN HR0.out nd : C8 W2 (some ad) l0.length l0)
        have HD2 := Aside0.mk (show Drawn0 w W2 from ⟨⟨nd, hW2⟩⟩)
        have hy0 : W2.cell? ad = some (.int .u8 b0) := by rw [hW2]; exact hx0
        have hy1 : W2.cell? ⟨ad.block, ad.off + 1, none⟩ = some (.int .u8 b1) := by rw [hW2]; exact hx1
        clear hW2
        go_quiet (first | (go_at_call 60; exact Drawn0.quiet (heraldref2_from4.calls (some ad) c0 l0 6 m6 _ (by repeat (first | exact HR2.out | apply Kd.C_drewN | apply Kd.C_drew)) HC0.out HW6.out)) | (go_at_call 24; rw [show (Value.slice (some ad) 6 c0) = .slice (some ad) (l0.take 6).length c0 by rw [← HL6.out]]; exact Drawn0.quiet (heraldref2_Sum.calls kk (some ad) c0 (l0.take 6) sm _ (by rw [← HL6.out]; exact HCt.out _ (by repeat (first | exact HR2.out | apply Kd.C_drewN | apply Kd.C_drew))) HLT.out HS.out)))
        go_wp2
        go_ret2
        have hf := HF.out
        cases hf
        exact ⟨rfl, by repeat (first | exact HD2.out | apply Drawn0.step)⟩
    · have k1 : (b1 == 58) = false := beq_eq_false_iff_ne.mpr h1
      have hfin : (n, false) = (r1, r2) := by rw [← HR.out, H0.out, decide_eq_false h1]; simp
      have HF := Aside0.mk hfin
      clear hfin h1
      go_enter Try.func59, Try.ntmps59
      go_wp2_with (go_at_call 60; refine (heraldref2_from4.calls (some ad) c0 l0 2 n _ HR0.out HC0.out HW2.out).mono ?_; rintro e1 w1 ⟨rfl, ⟨nd, rfl⟩⟩)
      obtain ⟨W2, hW2⟩ : ∃ W2 : World, W2 = w.drewN nd := ⟨_, rfl⟩
      rw [← hW2]
      have HR2 := Aside0.mk (hW2 ▸ Kd.C_drewN HR0.out nd : C8 W2 (some ad) l0.length l0)
      have HD2 := Aside0.mk (show Drawn0 w W2 from ⟨⟨nd, hW2⟩⟩)
      have hy0 : W2.cell? ad = some (.int .u8 b0) := by rw [hW2]; exact hx0
      have hy1 : W2.cell? ⟨ad.block, ad.off + 1, none⟩ = some (.int .u8 b1) := by rw [hW2]; exact hx1
      clear hW2
      go_quiet (fail)
      go_wp2
      go_ret2
      have hf := HF.out
      cases hf
      exact ⟨rfl, by repeat (first | exact HD2.out | apply Drawn0.step)⟩
  · have k0 : (b0 == 197) = false := beq_eq_false_iff_ne.mpr h0
    have hfin : (n, false) = (r1, r2) := by rw [← HR.out, decide_eq_false h0]; simp
    have HF := Aside0.mk hfin
    clear hfin h0
    go_enter Try.func59, Try.ntmps59
    go_wp2_with (go_at_call 60; refine (heraldref2_from4.calls (some ad) c0 l0 2 n _ HR0.out HC0.out HW2.out).mono ?_; rintro e1 w1 ⟨rfl, ⟨nd, rfl⟩⟩)
    obtain ⟨W2, hW2⟩ : ∃ W2 : World, W2 = w.drewN nd := ⟨_, rfl⟩
    rw [← hW2]
    have HR2 := Aside0.mk (hW2 ▸ Kd.C_drewN HR0.out nd : C8 W2 (some ad) l0.length l0)
    have HD2 := Aside0.mk (show Drawn0 w W2 from ⟨⟨nd, hW2⟩⟩)
    have hy0 : W2.cell? ad = some (.int .u8 b0) := by rw [hW2]; exact hx0
    have hy1 : W2.cell? ⟨ad.block, ad.off + 1, none⟩ = some (.int .u8 b1) := by rw [hW2]; exact hx1
    clear hW2
    go_quiet (fail)
    go_wp2
    go_ret2
    have hf := HF.out
    cases hf
    exact ⟨rfl, by repeat (first | exact HD2.out | apply Drawn0.step)⟩

/-! ### heraldref2_Unframe: function 38 -/
def heraldref2_Unframe.f (l0 : List Int) : Option (List Int × Int) := if bytesOk l0 = true ∧ l0.length ≤ 1000000000000 then some (unframe l0) else none
set_option maxHeartbeats 4000000 in
set_option maxRecDepth 100000 in
theorem heraldref2_Unframe.calls (A0 : Option Addr) (c0 : Nat) (l0 : List Int) (r1 : List Int) (r2 : Int) (w : World) (hr0 : Kd.C (Kd.int .u8) w A0 l0.length l0) (hc0 : l0.length ≤ c0) (h : heraldref2_Unframe.f l0 = some (r1, r2)) :
    Calls Try.prog 38 #[.slice A0 l0.length c0] w fun e w' => ∃ v0_ : Value, e = .returned (.tuple #[v0_, .int .i64 r2]) ∧ Kd.R (Kd.int .u8) 5 w' w.heap.size (fun _ => True) v0_ r1 ∧ Below w.heap.size w w' := by
  unfold heraldref2_Unframe.f at h
  split at h
  case isFalse => cases h
  rename_i hok
  obtain ⟨hok, hm⟩ := hok
  have hr := Option.some.inj h
  clear h
  have HR0 := Aside0.mk hr0
  have HC0 := Aside0.mk hc0
  clear hr0 hc0
  unfold unframe at hr
  by_cases h1 : l0.length < 10
  · rw [if_pos h1] at hr
    cases hr
    go_enter Try.func38, Try.ntmps38
    go_wp2
    go_ret2
    exact ⟨_, rfl, Kd.R_nil _ _ _ _ _, Below.refl _ _⟩
  rw [if_neg h1] at hr
  have hwr := wordAt_range l0 hok 2 (by omega)
  have hhd : heraldref2_headed.f l0 = some (wordAt l0 2, headB l0) := by unfold heraldref2_headed.f; rw [if_pos ⟨hok, by omega, hm⟩]
  have hhn : headB l0 = true → wordAt l0 2 ≤ 262144 := by
    intro h; unfold headB at h; simp only [Bool.and_eq_true, decide_eq_true_eq] at h; omega
  have hends : endsB l0 = decide (wordAt l0 (l0.length - 4) = sumW (l0.take (l0.length - 4))) := rfl
  obtain ⟨n, hn⟩ : ∃ n, n = wordAt l0 2 := ⟨_, rfl⟩
  obtain ⟨hb, hhb⟩ : ∃ b, b = headB l0 := ⟨_, rfl⟩
  rw [← hn] at hr hwr hhd hhn
  rw [← hhb] at hr hhd hhn
  obtain ⟨hw0, hw1⟩ := hwr
  have HD := Aside0.mk hhd
  have HOK := Aside0.mk hok
  have HE := Aside0.mk hends
  clear hhd hn hhb hok hends
  cases hb with
  | false =>
    rw [if_pos rfl] at hr
    cases hr
    go_enter Try.func38, Try.ntmps38
    go_wp2_with (go_at_call 59; refine (heraldref2_headed.calls A0 c0 l0 n false _ HR0.out HC0.out HD.out).mono ?_; rintro e1 w1 ⟨rfl, ⟨nd, rfl⟩⟩)
    go_ret2
    exact ⟨_, rfl, Kd.R_nil _ _ _ _ _, by repeat (first | exact Below.refl _ _ | apply below_drew | apply pw_below_drewN)⟩
  | true =>
    rw [if_neg (by decide)] at hr
    have hn2 := hhn rfl
    clear hhn
    have wn : wrap64 (n + 14) = n + 14 := by unfold wrap64; omega
    by_cases h2 : (l0.length : Int) < n + 14
    · rw [if_pos h2] at hr
      cases hr
      go_enter Try.func38, Try.ntmps38
      go_wp2_with (go_at_call 59; refine (heraldref2_headed.calls A0 c0 l0 n true _ HR0.out HC0.out HD.out).mono ?_; rintro e1 w1 ⟨rfl, ⟨nd, rfl⟩⟩)
      go_ret2
      exact ⟨_, rfl, Kd.R_nil _ _ _ _ _, by repeat (first | exact Below.refl _ _ | apply below_drew | apply pw_below_drewN)⟩
    · rw [if_neg h2] at hr
      by_cases h3 : (l0.length : Int) > n + 14
      · rw [if_pos (.inl h3)] at hr
        cases hr
        have h3b : decide (n + 14 < (l0.length : Int)) = true := decide_eq_true h3
        go_enter Try.func38, Try.ntmps38
        go_wp2_with (go_at_call 59; refine (heraldref2_headed.calls A0 c0 l0 n true _ HR0.out HC0.out HD.out).mono ?_; rintro e1 w1 ⟨rfl, ⟨nd, rfl⟩⟩)
        obtain ⟨W2, hW2⟩ : ∃ W2 : World, W2 = w.drewN nd := ⟨_, rfl⟩
        rw [← hW2]
        have HB2 := Aside0.mk (show Below w.heap.size w W2 from hW2 ▸ pw_below_drewN (Below.refl _ _) nd)
        clear hW2
        go_quiet (fail)
        go_wp2
        go_ret2
        exact ⟨_, rfl, Kd.R_nil _ _ _ _ _, by repeat (first | exact HB2.out | apply below_drew | apply pw_below_drewN)⟩
      · have hln : (l0.length : Int) = n + 14 := by omega
        obtain ⟨k, hk⟩ : ∃ k : Nat, k = l0.length - 4 := ⟨_, rfl⟩
        have hkn : 10 + n = (k : Int) := by omega
        have hwd := from4_eq l0 HOK.out (k : Int) (by omega) (by omega) hm
        rw [Int.toNat_natCast] at hwd
        have hsum := ref_sum (l0.length + 9) (l0.take k) (by rw [List.length_take]; omega) (bytesOk_take HOK.out k) (by rw [List.length_take]; omega)
        obtain ⟨kk, hkk⟩ : ∃ kk, kk = l0.length + 9 := ⟨_, rfl⟩
        rw [← hkk] at hsum
        have he := HE.out
        rw [← hk] at he
        obtain ⟨m, hm0⟩ : ∃ m, m = wordAt l0 k := ⟨_, rfl⟩
        obtain ⟨sm, hsm⟩ : ∃ s, s = sumW (l0.take k) := ⟨_, rfl⟩
        rw [← hm0] at hwd he
        rw [← hsm] at hsum he
        have HW := Aside0.mk hwd
        have HS := Aside0.mk hsum
        have HKN := Aside0.mk hkn
        have h3b : decide (n + 14 < (l0.length : Int)) = false := decide_eq_false h3
        obtain ⟨hcutt, hCt⟩ := cutt8 (A := A0) (n := l0.length) (c := c0) (xs := l0) k (by omega) HC0.out
        rw [← hkn] at hcutt
        have HCt := Aside0.mk hCt
        have HLT := Aside0.mk (show (l0.take k).length ≤ c0 by have := HC0.out; rw [List.length_take]; omega)
        have HLK := Aside0.mk (show k = (l0.take k).length by rw [List.length_take]; omega)
        have w10 : wrap64 (10 + n) = 10 + n := by unfold wrap64; omega
        have h2b : ¬ ((l0.length : Int) < n + 14) := h2
        clear hkk hwd hsum hm0 hsm hCt
        by_cases h4 : m = sm
        · have k4 : (m != sm) = false := bne_eq_false_iff_eq.mpr h4
          have k5 : (m == sm) = true := beq_iff_eq.mpr h4
          rw [if_neg (by rw [he, decide_eq_true h4]; simp; omega)] at hr
          have hr' := Aside0.mk hr
          have hln2 := Aside0.mk hln
          have hk2 := Aside0.mk hk
          clear he h4 hr hk hkn hln
          go_enter Try.func38, Try.ntmps38
          go_wp2_with (go_at_call 59; refine (heraldref2_headed.calls A0 c0 l0 n true _ HR0.out HC0.out HD.out).mono ?_; rintro e1 w1 ⟨rfl, ⟨nd, rfl⟩⟩)
          obtain ⟨W2, hW2⟩ : ∃ W2 : World, W2 = w.drewN nd := ⟨_, rfl⟩
          rw [← hW2]
          have HB2 := Aside0.mk (show Below w.heap.size w W2 from hW2 ▸ pw_below_drewN (Below.refl _ _) nd)
          have HR2 := Aside0.mk (Kd.C_below HR0.out HB2.out)
          clear hW2
          go_quiet (first | (go_at_call 60; rw [HKN.out]; exact Drawn0.quiet (heraldref2_from4.calls A0 c0 l0 k m _ (by repeat (first | exact HR2.out | apply Kd.C_drewN | apply Kd.C_drew)) HC0.out HW.out)) | (go_at_call 24; rw [show (Value.slice A0 k c0) = .slice A0 (l0.take k).length c0 by rw [← HLK.out]]; exact Drawn0.quiet (heraldref2_Sum.calls kk A0 c0 (l0.take k) sm _ (by rw [← HLK.out]; exact HCt.out _ (by repeat (first | exact HR2.out | apply Kd.C_drewN | apply Kd.C_drew))) HLT.out HS.out)))
          obtain ⟨W3, hW3⟩ : ∃ W3 : World, W3 = W2.drewN nq := ⟨_, rfl⟩
          rw [← hW3]
          have HB3 := Aside0.mk (show Below w.heap.size w W3 from hW3 ▸ pw_below_drewN HB2.out nq)
          have HR3 := Aside0.mk (Kd.C_below HR0.out HB3.out)
          clear hW3
          go_wp2_with (with_reducible refine stop_slice rfl ?_)
          refine mid8 rfl _ _ _ rfl rfl rfl rfl (by omega) (by omega) (by have := hln2.out; omega) HC0.out HR3.out ?_
          intro A1 hr2
          have HC1 := Aside0.mk hr2
          clear hr2
          go_wp2_with (with_reducible refine stop_append rfl ?_)
          refine app8 w w.heap.size rfl _ _ rfl rfl rfl (Kd.R_nil _ _ _ _ _) HC1.out HB3.out HB3.out.size (by have := hln2.out; simp; omega) ?_
          intro v1 w1 ho hb hg hat
          have HO := Aside0.mk ho
          have HB4 := Aside0.mk hb
          clear ho hb hg hat
          go_wp2
          go_ret2
          have hf := hr'.out
          cases hf
          refine ⟨_, rfl, ?_, HB4.out⟩
          have e : ([] : List Int) ++ (l0.take (10 + n).toNat).drop (10 : Int).toNat = (l0.drop 10).take (l0.length - 14) := by
            rw [List.nil_append, List.drop_take]
            congr 1
            have := hln2.out; have := hk2.out; omega
          rw [← e]
          exact HO.out
        · have k4 : (m != sm) = true := bne_iff_ne.mpr h4
          have k5 : (m == sm) = false := beq_eq_false_iff_ne.mpr h4
          rw [if_pos (.inr (by rw [he, decide_eq_false h4]))] at hr
          cases hr
          clear he h4 hk hkn hln
          go_enter Try.func38, Try.ntmps38
          go_wp2_with (go_at_call 59; refine (heraldref2_headed.calls A0 c0 l0 n true _ HR0.out HC0.out HD.out).mono ?_; rintro e1 w1 ⟨rfl, ⟨nd, rfl⟩⟩)
          obtain ⟨W2, hW2⟩ : ∃ W2 : World, W2 = w.drewN nd := ⟨_, rfl⟩
          rw [← hW2]
          have HB2 := Aside0.mk (show Below w.heap.size w W2 from hW2 ▸ pw_below_drewN (Below.refl _ _) nd)
          have HR2 := Aside0.mk (Kd.C_below HR0.out HB2.out)
          clear hW2
          go_quiet (first | (go_at_call 60; rw [HKN.out]; exact Drawn0.quiet (heraldref2_from4.calls A0 c0 l0 k m _ (by repeat (first | exact HR2.out | apply Kd.C_drewN | apply Kd.C_drew)) HC0.out HW.out)) | (go_at_call 24; rw [show (Value.slice A0 k c0) = .slice A0 (l0.take k).length c0 by rw [← HLK.out]]; exact Drawn0.quiet (heraldref2_Sum.calls kk A0 c0 (l0.take k) sm _ (by rw [← HLK.out]; exact HCt.out _ (by repeat (first | exact HR2.out | apply Kd.C_drewN | apply Kd.C_drew))) HLT.out HS.out)))
          go_wp2
          go_ret2
          exact ⟨_, rfl, Kd.R_nil _ _ _ _ _, by repeat (first | exact HB2.out | apply below_drew | apply pw_below_drewN)⟩

-- NOT PRINTED: function 8 (heraldlaw2_WireUnframes)

end Go.Proofs.Ytnanaojjhmpilaa.PW
