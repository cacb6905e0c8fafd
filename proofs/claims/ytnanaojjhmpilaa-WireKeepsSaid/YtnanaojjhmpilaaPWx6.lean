/- The machine's side of functions, in one namespace: each function's call comes to what its Lean function tells. -/
import Derived.Test.YtnanaojjhmpilaaPWx0
import Derived.Test.YtnanaojjhmpilaaPWx1
import Derived.Test.YtnanaojjhmpilaaPWx5
namespace Go.Proofs.Ytnanaojjhmpilaa.PW
open Go.RowKit Go.Proofs.YtnanaojjhmpilaaW.PrintWords Go.Proofs.YtnanaojjhmpilaaW.PrintLast Go.Proofs.YtnanaojjhmpilaaW.PrintMore
attribute [local go_sem] max2_int min2_int max_two min_two max_three min_three max_four min_four   -- for this text's walks alone
set_option linter.unusedVariables false
set_option linter.unusedSimpArgs false

/-! ### wire_head: function 56 -/
def wire_head.f (l0 : List Int) : Option (Int × Bool) := if bytesOk l0 = true ∧ 10 ≤ l0.length ∧ l0.length ≤ 140737488355328 then some (wordAt l0 2, headB l0) else none
set_option maxHeartbeats 4000000 in
set_option maxRecDepth 100000 in
theorem wire_head.calls (A0 : Option Addr) (c0 : Nat) (l0 : List Int) (r1 : Int) (r2 : Bool) (w : World) (hr0 : Kd.C (Kd.int .u8) w A0 l0.length l0) (hc0 : l0.length ≤ c0) (h : wire_head.f l0 = some (r1, r2)) :
    Calls Try.prog 56 #[.slice A0 l0.length c0] w fun e w' => e = .returned (.tuple #[.int .i64 r1, .bool r2]) ∧ Below w.heap.size w w' := by
  unfold wire_head.f at h
  split at h
  case isFalse => cases h
  rename_i hok
  obtain ⟨hok, hl, hm⟩ := hok
  have hr := Option.some.inj h
  clear h
  have hwr := wordAt_range l0 hok 2 (by omega)
  have hwd := word_eq (l0.drop 2) (bytesOk_drop hok 2) (by rw [List.length_drop]; omega)
  rw [wordAt_drop] at hwd
  have hwd6 := word_eq (l0.drop 6) (bytesOk_drop hok 6) (by rw [List.length_drop]; omega)
  rw [wordAt_drop] at hwd6
  obtain ⟨n, hn⟩ : ∃ n, n = wordAt l0 2 := ⟨_, rfl⟩
  obtain ⟨m6, hm6⟩ : ∃ m, m = wordAt l0 6 := ⟨_, rfl⟩
  obtain ⟨sm, hsm⟩ : ∃ s, s = sumW (l0.take 6) := ⟨_, rfl⟩
  have hsum : wire_sum.f (l0.take 6) = some sm := by rw [hsm]; rfl
  obtain ⟨b0, hb0⟩ : ∃ b, b = rd l0 0 := ⟨_, rfl⟩
  obtain ⟨b1, hb1⟩ : ∃ b, b = rd l0 1 := ⟨_, rfl⟩
  obtain ⟨ad, rfl, hx0⟩ := Kd.at_int hr0 0 (by omega) (by omega)
  obtain ⟨ad', e, hx1⟩ := Kd.at_int hr0 1 (by omega) (by omega)
  cases e
  simp only [show (1 : Int).toNat = 1 from rfl, Nat.reduceMul, Nat.reduceEqDiff, Go.Addr.add, ↓reduceIte] at hx1
  rw [show ((0 : Int)).toNat = 0 from rfl, Addr.add_zero'] at hx0
  unfold headB at hr
  rw [← hn, ← hm6, ← hsm, ← hb0, ← hb1] at hr
  rw [← hb0] at hx0
  rw [← hb1] at hx1
  rw [← hn] at hwd hwr
  rw [← hm6] at hwd6
  clear hn hm6 hsm hb0 hb1
  have HR := Aside0.mk hr
  have HR0 := Aside0.mk hr0
  have HC0 := Aside0.mk hc0
  have HW2 := Aside0.mk hwd
  have HW6 := Aside0.mk hwd6
  have HS := Aside0.mk hsum
  have HOK := Aside0.mk hok
  obtain ⟨hw0, hw1⟩ := hwr
  clear hr hr0 hc0 hwd hwd6 hsum hok
  have c1 : (1 : Int) < (l0.length : Int) := by omega
  have c00 : (0 : Int) < (l0.length : Int) := by omega
  have g1 : (1 : Nat) < l0.length := by omega
  have g0 : (0 : Nat) < l0.length := by omega
  have wn : wrap64 n = n := by unfold wrap64; omega
  have HWN := Aside0.mk wn
  clear wn
  by_cases h0 : b0 = 197
  · have k0 : (b0 == 197) = true := beq_iff_eq.mpr h0
    have H0 := Aside0.mk h0
    clear h0
    by_cases h1 : b1 = 58
    · have k1 : (b1 == 58) = true := beq_iff_eq.mpr h1
      have H1 := Aside0.mk h1
      clear h1
      by_cases h2 : n ≤ 262144
      · have k2 : decide (n ≤ 262144) = true := decide_eq_true h2
        have hfin : (n, decide (m6 = sm)) = (r1, r2) := by rw [← HR.out, H0.out, H1.out, k2]; simp
        have HF := Aside0.mk hfin
        clear hfin
        go_enter Try.func56, Try.ntmps56
        go_wp2_with (with_reducible refine stop_slice rfl ?_)
        refine from8 rfl _ _ rfl rfl rfl (by omega) (by omega) HC0.out HR0.out ?_
        intro A2 hr2
        have HR2 := Aside0.mk (show C8 w A2 (l0.length - 2) (l0.drop 2) from hr2)
        clear hr2
        go_wp2_with (go_at_call 66; refine (wire_word.callsN A2 (c0 - 2) (l0.length - 2) (l0.drop 2) n _ List.length_drop HR2.out (by have := HC0.out; omega) HW2.out).mono ?_; rintro e1 w1 ⟨rfl, ⟨nd, rfl⟩⟩)
        obtain ⟨W2, hW2⟩ : ∃ W2 : World, W2 = w.drewN nd := ⟨_, rfl⟩
        rw [← hW2]
        have HB2 := Aside0.mk (show Below w.heap.size w W2 from hW2 ▸ pw_below_drewN (Below.refl _ _) nd)
        clear hW2
        obtain ⟨A6, hcut6, hC6⟩ := cutf8 (A := some ad) (n := l0.length) (c := c0) (xs := l0) 6 (by omega) HC0.out
        obtain ⟨hcutt, hCt⟩ := cutt8 (A := some ad) (n := l0.length) (c := c0) (xs := l0) 6 (by omega) HC0.out
        simp only [show ((6 : Nat) : Int) = 6 from rfl] at hcut6 hcutt
        have HLE := Aside0.mk (show l0.length - 6 ≤ c0 - 6 by have := HC0.out; omega)
        have HLT := Aside0.mk (show 6 ≤ c0 by have := HC0.out; omega)
        have HL6 := Aside0.mk (show (l0.take 6).length = 6 by rw [List.length_take]; omega)
        have HC6 := Aside0.mk hC6
        have HCt := Aside0.mk hCt
        clear hC6 hCt
        have HSS := Aside0.mk (show ∀ w' : World, Below w.heap.size w w' → (w'.cell? ad = some (.int .u8 b0) ∧ w'.cell? ⟨ad.block, ad.off + 1, none⟩ = some (.int .u8 b1) ∧ Below w.heap.size w w') from fun w' hb => ⟨pw_cell_below hb hx0, pw_cell_below hb hx1, hb⟩)
        have ex0 := pw_cell_below HB2.out hx0
        have ex1 := pw_cell_below HB2.out hx1
        go_region_held3 (fun w' => w'.cell? ad = some (.int .u8 b0) ∧ w'.cell? ⟨ad.block, ad.off + 1, none⟩ = some (.int .u8 b1) ∧ Below w.heap.size w w') ((first | (refine HSS.out _ ?_; (repeat (first | exact HB2.out | apply below_drew | apply pw_below_drewN)); done) | (refine HSS.out _ (below_step ?_ hb1); (repeat (first | exact HB2.out | apply below_drew | apply pw_below_drewN)); done)))
          (first | (go_at_call 66; refine (wire_word.callsN A6 (c0 - 6) (l0.length - 6) (l0.drop 6) m6 _ List.length_drop (HC6.out _ (Kd.C_below HR0.out ?_)) HLE.out HW6.out).mono ?_; (repeat (first | exact HB2.out | apply below_drew | apply pw_below_drewN)); rintro e1 w1 ⟨rfl, ⟨nd1, rfl⟩⟩) | (go_at_call 50; refine (wire_sum.callsN (some ad) c0 6 (l0.take 6) sm _ HL6.out (HCt.out _ (Kd.C_below HR0.out ?_)) HLT.out HS.out).mono ?_; (repeat (first | exact HB2.out | apply below_drew | apply pw_below_drewN)); rintro e1 w1 ⟨rfl, hb1⟩))
        go_wp2
        go_ret2
        have hf := HF.out
        cases hf
        refine ⟨?_, ?_⟩
        · exact rfl
        · refine below_step ?_ hb1
          repeat (first | exact HB2.out | apply below_drew | apply pw_below_drewN)
      · have k2 : decide (n ≤ 262144) = false := decide_eq_false h2
        have hfin : (n, false) = (r1, r2) := by rw [← HR.out, H0.out, H1.out, k2]; simp
        have HF := Aside0.mk hfin
        clear hfin
        go_enter Try.func56, Try.ntmps56
        go_wp2_with (with_reducible refine stop_slice rfl ?_)
        refine from8 rfl _ _ rfl rfl rfl (by omega) (by omega) HC0.out HR0.out ?_
        intro A2 hr2
        have HR2 := Aside0.mk (show C8 w A2 (l0.length - 2) (l0.drop 2) from hr2)
        clear hr2
        go_wp2_with (go_at_call 66; refine (wire_word.callsN A2 (c0 - 2) (l0.length - 2) (l0.drop 2) n _ List.length_drop HR2.out (by have := HC0.out; omega) HW2.out).mono ?_; rintro e1 w1 ⟨rfl, ⟨nd, rfl⟩⟩)
        go_quiet (fail)
        go_wp2
        go_ret2
        have hf := HF.out
        cases hf
        exact ⟨rfl, by repeat (first | exact Below.refl _ _ | apply below_drew | apply pw_below_drewN)⟩
    · have k1 : (b1 == 58) = false := beq_eq_false_iff_ne.mpr h1
      have hfin : (n, false) = (r1, r2) := by rw [← HR.out, H0.out, decide_eq_false h1]; simp
      have HF := Aside0.mk hfin
      clear hfin h1
      go_enter Try.func56, Try.ntmps56
      go_wp2_with (with_reducible refine stop_slice rfl ?_)
      refine from8 rfl _ _ rfl rfl rfl (by omega) (by omega) HC0.out HR0.out ?_
      intro A2 hr2
      have HR2 := Aside0.mk (show C8 w A2 (l0.length - 2) (l0.drop 2) from hr2)
      clear hr2
      go_wp2_with (go_at_call 66; refine (wire_word.callsN A2 (c0 - 2) (l0.length - 2) (l0.drop 2) n _ List.length_drop HR2.out (by have := HC0.out; omega) HW2.out).mono ?_; rintro e1 w1 ⟨rfl, ⟨nd, rfl⟩⟩)
      go_quiet (fail)
      go_wp2
      go_ret2
      have hf := HF.out
      cases hf
      exact ⟨rfl, by repeat (first | exact Below.refl _ _ | apply below_drew | apply pw_below_drewN)⟩
  · have k0 : (b0 == 197) = false := beq_eq_false_iff_ne.mpr h0
    have hfin : (n, false) = (r1, r2) := by rw [← HR.out, decide_eq_false h0]; simp
    have HF := Aside0.mk hfin
    clear hfin h0
    go_enter Try.func56, Try.ntmps56
    go_wp2_with (with_reducible refine stop_slice rfl ?_)
    refine from8 rfl _ _ rfl rfl rfl (by omega) (by omega) HC0.out HR0.out ?_
    intro A2 hr2
    have HR2 := Aside0.mk (show C8 w A2 (l0.length - 2) (l0.drop 2) from hr2)
    clear hr2
    go_wp2_with (go_at_call 66; refine (wire_word.callsN A2 (c0 - 2) (l0.length - 2) (l0.drop 2) n _ List.length_drop HR2.out (by have := HC0.out; omega) HW2.out).mono ?_; rintro e1 w1 ⟨rfl, ⟨nd, rfl⟩⟩)
    go_quiet (fail)
    go_wp2
    go_ret2
    have hf := HF.out
    cases hf
    exact ⟨rfl, by repeat (first | exact Below.refl _ _ | apply below_drew | apply pw_below_drewN)⟩

/-! ### wire_ends: function 57 -/
def wire_ends.f (l0 : List Int) : Option Bool := if bytesOk l0 = true ∧ 4 ≤ l0.length ∧ l0.length ≤ 140737488355328 then some (endsB l0) else none
set_option maxHeartbeats 4000000 in
set_option maxRecDepth 100000 in
theorem wire_ends.calls (A0 : Option Addr) (c0 : Nat) (l0 : List Int) (r : Bool) (w : World) (hr0 : Kd.C (Kd.int .u8) w A0 l0.length l0) (hc0 : l0.length ≤ c0) (h : wire_ends.f l0 = some r) :
    Calls Try.prog 57 #[.slice A0 l0.length c0] w fun e w' => e = .returned (.bool r) ∧ Below w.heap.size w w' := by
  unfold wire_ends.f at h
  split at h
  case isFalse => cases h
  rename_i hok
  obtain ⟨hok, hl, hm⟩ := hok
  have hr := Option.some.inj h
  clear h
  obtain ⟨k, hk⟩ : ∃ k : Nat, k = l0.length - 4 := ⟨_, rfl⟩
  have hki : (l0.length : Int) - 4 = k := by omega
  have hkl : k ≤ l0.length := by omega
  have hwd := word_eq (l0.drop k) (bytesOk_drop hok k) (by rw [List.length_drop]; omega)
  rw [wordAt_drop] at hwd
  unfold endsB at hr
  rw [← hk] at hr
  obtain ⟨m, hm0⟩ : ∃ m, m = wordAt l0 k := ⟨_, rfl⟩
  obtain ⟨sm, hsm⟩ : ∃ s, s = sumW (l0.take k) := ⟨_, rfl⟩
  have hsum : wire_sum.f (l0.take k) = some sm := by rw [hsm]; rfl
  rw [← hm0, ← hsm] at hr
  rw [← hm0] at hwd
  clear hm0 hsm
  have HR0 := Aside0.mk hr0
  have HC0 := Aside0.mk hc0
  have HW := Aside0.mk hwd
  have HS := Aside0.mk hsum
  have HR := Aside0.mk hr
  have HKI := Aside0.mk hki
  have HLD := Aside0.mk (show (l0.drop k).length = l0.length - k from List.length_drop)
  have HLT := Aside0.mk (show (l0.take k).length = k by rw [List.length_take]; omega)
  have HL1 := Aside0.mk (show l0.length - k ≤ c0 - k by omega)
  have HL2 := Aside0.mk (show k ≤ c0 by omega)
  obtain ⟨A6, hcut6, hC6⟩ := cutf8 (A := A0) (n := l0.length) (c := c0) (xs := l0) k hkl hc0
  obtain ⟨hcutt, hCt⟩ := cutt8 (A := A0) (n := l0.length) (c := c0) (xs := l0) k hkl hc0
  have HC6 := Aside0.mk hC6
  have HCt := Aside0.mk hCt
  clear hr0 hwd hsum hr hki hk hC6 hCt hc0
  go_enter Try.func57, Try.ntmps57
  go_wp2
  rw [HKI.out]
  have HB2 := Aside0.mk (Below.refl w.heap.size w)
  go_region_held3 (fun w' => Below w.heap.size w w') ((first | ((repeat (first | exact HB2.out | apply below_drew | apply pw_below_drewN)); done) | (refine below_step ?_ hb1; (repeat (first | exact HB2.out | apply below_drew | apply pw_below_drewN)); done)))
    (first | (go_at_call 66; refine (wire_word.callsN A6 (c0 - k) (l0.length - k) (l0.drop k) m _ HLD.out (HC6.out _ (Kd.C_below HR0.out ?_)) HL1.out HW.out).mono ?_; (repeat (first | exact HB2.out | apply below_drew | apply pw_below_drewN)); rintro e1 w1 ⟨rfl, ⟨nd1, rfl⟩⟩) | (go_at_call 50; refine (wire_sum.callsN A0 c0 k (l0.take k) sm _ HLT.out (HCt.out _ (Kd.C_below HR0.out ?_)) HL2.out HS.out).mono ?_; (repeat (first | exact HB2.out | apply below_drew | apply pw_below_drewN)); rintro e1 w1 ⟨rfl, hb1⟩))
  go_wp2
  go_ret
  refine ⟨?_, ?_⟩
  · rw [← HR.out]; exact rfl
  · refine below_step ?_ hb1
    repeat (first | exact HB2.out | apply below_drew | apply pw_below_drewN)

/-! ### wire_body: function 58 -/
def wire_body.f (l0 : List Int) : Option (List Int) := if 14 ≤ l0.length ∧ l0.length ≤ 140737488355328 then some ((l0.drop 10).take (l0.length - 14)) else none
set_option maxHeartbeats 4000000 in
set_option maxRecDepth 100000 in
theorem wire_body.calls (A0 : Option Addr) (c0 : Nat) (l0 : List Int) (r : List Int) (w : World) (hr0 : Kd.C (Kd.int .u8) w A0 l0.length l0) (hc0 : l0.length ≤ c0) (h : wire_body.f l0 = some r) :
    Calls Try.prog 58 #[.slice A0 l0.length c0] w fun e w' => ∃ v0_ : Value, e = .returned (v0_) ∧ Kd.R (Kd.int .u8) 5 w' w.heap.size (fun _ => True) v0_ r ∧ Below w.heap.size w w' := by
  unfold wire_body.f at h
  split at h
  case isFalse => cases h
  rename_i hlen
  have hr := Aside0.mk (Option.some.inj h)
  obtain ⟨hlen, hm⟩ := hlen
  have HR0 := Aside0.mk hr0
  have HC0 := Aside0.mk hc0
  clear hr0 hc0 h
  go_enter Try.func58, Try.ntmps58
  go_wp2_with (with_reducible refine stop_make rfl ?_)
  refine mkn8 w w.heap.size rfl rfl _ _ rfl rfl rfl (by omega) (by omega) (Below.refl _ _) (Nat.le_refl _) ?_
  intro v1 w1 ho hb hg hat
  have HO := Aside0.mk ho
  have HB := Aside0.mk hb
  have HR1 := Aside0.mk (Kd.C_below HR0.out hb)
  clear ho hb hg hat
  go_wp2_with (with_reducible refine stop_slice rfl ?_)
  refine from8 rfl _ _ rfl rfl rfl (by omega) (by omega) HC0.out HR1.out ?_
  intro A1 hr2
  have HR2 := Aside0.mk hr2
  clear hr2
  go_wp2_with (with_reducible refine stop_copy rfl ?_)
  refine copy8 w w.heap.size rfl _ _ rfl rfl rfl HO.out HR2.out HB.out ?_
  intro w2 ho hb hg
  have HO2 := Aside0.mk ho
  have HB2 := Aside0.mk hb
  clear ho hb hg HO HB
  go_wp2
  go_ret
  refine ⟨_, rfl, ?_, HB2.out⟩
  have e : (List.drop 10 l0).take (List.replicate ((l0.length : Int) - 14).toNat (0 : Int)).length ++ (List.replicate ((l0.length : Int) - 14).toNat (0 : Int)).drop (l0.length - 10) = r := by
    rw [← hr.out, List.length_replicate, List.drop_replicate, show ((l0.length : Int) - 14).toNat - (l0.length - 10) = 0 by omega, show ((l0.length : Int) - 14).toNat = l0.length - 14 by omega]
    simp
  rw [← e]
  exact HO2.out

/-! ### wire_Unframe: function 37 -/
def wire_Unframe.f (l0 : List Int) : Option (List Int × Int) := if bytesOk l0 = true ∧ l0.length ≤ 1000000000000 then some (unframe l0) else none
set_option maxHeartbeats 4000000 in
set_option maxRecDepth 100000 in
theorem wire_Unframe.calls (A0 : Option Addr) (c0 : Nat) (l0 : List Int) (r1 : List Int) (r2 : Int) (w : World) (hr0 : Kd.C (Kd.int .u8) w A0 l0.length l0) (hc0 : l0.length ≤ c0) (h : wire_Unframe.f l0 = some (r1, r2)) :
    Calls Try.prog 37 #[.slice A0 l0.length c0] w fun e w' => ∃ v0_ : Value, e = .returned (.tuple #[v0_, .int .i64 r2]) ∧ Kd.R (Kd.int .u8) 5 w' w.heap.size (fun _ => True) v0_ r1 ∧ Below w.heap.size w w' := by
  unfold wire_Unframe.f at h
  split at h
  case isFalse => cases h
  rename_i hok
  obtain ⟨hok, hm⟩ := hok
  have hr := Option.some.inj h
  clear h
  have HR0 := Aside0.mk hr0
  have HC0 := Aside0.mk hc0
  clear hr0 hc0
  unfold unframe at hr
  by_cases h1 : l0.length < 10
  · rw [if_pos h1] at hr
    cases hr
    go_enter Try.func37, Try.ntmps37
    go_wp2
    go_ret2
    exact ⟨_, rfl, Kd.R_nil _ _ _ _ _, Below.refl _ _⟩
  rw [if_neg h1] at hr
  have hwr := wordAt_range l0 hok 2 (by omega)
  have hhd : wire_head.f l0 = some (wordAt l0 2, headB l0) := by unfold wire_head.f; rw [if_pos ⟨hok, by omega, by omega⟩]
  have hhn : headB l0 = true → wordAt l0 2 ≤ 262144 := by
    intro h; unfold headB at h; simp only [Bool.and_eq_true, decide_eq_true_eq] at h; omega
  have hends : wire_ends.f l0 = some (endsB l0) := by unfold wire_ends.f; rw [if_pos ⟨hok, by omega, by omega⟩]
  obtain ⟨n, hn⟩ : ∃ n, n = wordAt l0 2 := ⟨_, rfl⟩
  obtain ⟨hb, hhb⟩ : ∃ b, b = headB l0 := ⟨_, rfl⟩
  obtain ⟨eb, heb⟩ : ∃ b, b = endsB l0 := ⟨_, rfl⟩
  rw [← hn] at hr hwr hhd hhn
  rw [← hhb] at hr hhd hhn
  rw [← heb] at hr hends
  obtain ⟨hw0, hw1⟩ := hwr
  have HD := Aside0.mk hhd
  have HOK := Aside0.mk hok
  have HE := Aside0.mk hends
  clear hhd hn hhb hok hends heb
  cases hb with
  | false =>
    rw [if_pos rfl] at hr
    cases hr
    go_enter Try.func37, Try.ntmps37
    go_wp2_with (go_at_call 56; refine (wire_head.calls A0 c0 l0 n false _ HR0.out HC0.out HD.out).mono ?_; rintro e1 w1 ⟨rfl, hb1⟩)
    go_ret2
    exact ⟨_, rfl, Kd.R_nil _ _ _ _ _, hb1⟩
  | true =>
    rw [if_neg (by decide)] at hr
    have hn2 := hhn rfl
    clear hhn
    by_cases h2 : (l0.length : Int) < n + 14
    · rw [if_pos h2] at hr
      cases hr
      go_enter Try.func37, Try.ntmps37
      go_wp2_with (go_at_call 56; refine (wire_head.calls A0 c0 l0 n true _ HR0.out HC0.out HD.out).mono ?_; rintro e1 w1 ⟨rfl, hb1⟩)
      go_ret2
      exact ⟨_, rfl, Kd.R_nil _ _ _ _ _, hb1⟩
    · rw [if_neg h2] at hr
      by_cases h3 : (l0.length : Int) > n + 14
      · rw [if_pos (.inl h3)] at hr
        cases hr
        go_enter Try.func37, Try.ntmps37
        go_wp2_with (go_at_call 56; refine (wire_head.calls A0 c0 l0 n true _ HR0.out HC0.out HD.out).mono ?_; rintro e1 w1 ⟨rfl, hb1⟩)
        go_ret2
        exact ⟨_, rfl, Kd.R_nil _ _ _ _ _, hb1⟩
      · cases eb with
        | false =>
          rw [if_pos (.inr rfl)] at hr
          cases hr
          go_enter Try.func37, Try.ntmps37
          go_wp2_with (first | (go_at_call 56; refine (wire_head.calls A0 c0 l0 n true _ HR0.out HC0.out HD.out).mono ?_; rintro e1 w1 ⟨rfl, hb1⟩; have HB1 := Aside0.mk hb1; clear hb1) | (go_at_call 57; refine (wire_ends.calls A0 c0 l0 false _ (Kd.C_below HR0.out HB1.out) HC0.out HE.out).mono ?_; rintro e2 w2 ⟨rfl, hb2⟩))
          go_ret2
          exact ⟨_, rfl, Kd.R_nil _ _ _ _ _, below_step HB1.out hb2⟩
        | true =>
          rw [if_neg (by simp; omega)] at hr
          have hbody : wire_body.f l0 = some r1 := by unfold wire_body.f; rw [if_pos (by omega)]; cases hr; rfl
          have HBD := Aside0.mk hbody
          have hr2 : r2 = 0 := by cases hr; rfl
          subst hr2
          clear hr hbody
          go_enter Try.func37, Try.ntmps37
          go_wp2_with (first | (go_at_call 56; refine (wire_head.calls A0 c0 l0 n true _ HR0.out HC0.out HD.out).mono ?_; rintro e1 w1 ⟨rfl, hb1⟩; have HB1 := Aside0.mk hb1; clear hb1) | (go_at_call 57; refine (wire_ends.calls A0 c0 l0 true _ (Kd.C_below HR0.out HB1.out) HC0.out HE.out).mono ?_; rintro e2 w2 ⟨rfl, hb2⟩; have HB2 := Aside0.mk (below_step HB1.out hb2); clear hb2) | (go_at_call 58; refine (wire_body.calls A0 c0 l0 r1 _ (Kd.C_below HR0.out HB2.out) HC0.out HBD.out).mono ?_; rintro e3 w3 ⟨v3, rfl, ho3, hb3⟩; have HB3 := Aside0.mk (below_step HB2.out hb3); have HO3 := Aside0.mk (Kd.R_lower ho3 HB2.out.size); clear hb3 ho3))
          go_ret2
          exact ⟨_, rfl, HO3.out, HB3.out⟩
theorem wire_Unframe.callsN (A0 : Option Addr) (c0 n : Nat) (l0 : List Int) (r1 : List Int) (r2 : Int) (w : World) (hn : l0.length = n) (hr0 : C8 w A0 n l0) (hc0 : n ≤ c0) (h : wire_Unframe.f l0 = some (r1, r2)) :
    Calls Try.prog 37 #[.slice A0 n c0] w fun e w' => ∃ v0_ : Value, e = .returned (.tuple #[v0_, .int .i64 r2]) ∧ Kd.R (Kd.int .u8) 5 w' w.heap.size (fun _ => True) v0_ r1 ∧ Below w.heap.size w w' := by
  subst hn; exact wire_Unframe.calls A0 c0 l0 r1 r2 w hr0 hc0 h

/-! ### heraldref2_from4: function 60 -/
def heraldref2_from4.f (l0 : List Int) (a1 : Int) : Option (Int) := if 0 ≤ a1 then (if a1 < (l0.length : Int) then (if 0 ≤ (wrap64 (a1 + 1)) then (if (wrap64 (a1 + 1)) < (l0.length : Int) then (if 0 ≤ (wrap64 (a1 + 2)) then (if (wrap64 (a1 + 2)) < (l0.length : Int) then (if 0 ≤ (wrap64 (a1 + 3)) then (if (wrap64 (a1 + 3)) < (l0.length : Int) then (some (Go.bits .or .i64 (Go.bits .or .i64 (Go.bits .or .i64 (wrap64 ((wrap64 (rd l0 a1)) * 16777216)) (wrap64 ((wrap64 (rd l0 (wrap64 (a1 + 1)))) * 65536))) (wrap64 ((wrap64 (rd l0 (wrap64 (a1 + 2)))) * 256))) (wrap64 (rd l0 (wrap64 (a1 + 3)))))) else (none)) else (none)) else (none)) else (none)) else (none)) else (none)) else (none)) else (none)
set_option maxHeartbeats 8000000 in
set_option maxRecDepth 100000 in
theorem heraldref2_from4.calls (A0 : Option Addr) (c0 : Nat) (l0 : List Int) (a1 : Int) (r : Int) (w : World) (hr0 : Kd.C (Kd.int .u8) w A0 l0.length l0) (hc0 : l0.length ≤ c0) (h : heraldref2_from4.f l0 a1 = some r) :
    Calls Try.prog 60 #[.slice A0 l0.length c0, .int .i64 a1] w fun e w' => e = .returned (.int .i64 r) ∧ Drawn0 w w' := by
  have HR0 := Aside0.mk hr0
  have HC0 := Aside0.mk hc0
  clear hr0 hc0
  have H : (if 0 ≤ a1 then (if a1 < (l0.length : Int) then (if 0 ≤ (wrap64 (a1 + 1)) then (if (wrap64 (a1 + 1)) < (l0.length : Int) then (if 0 ≤ (wrap64 (a1 + 2)) then (if (wrap64 (a1 + 2)) < (l0.length : Int) then (if 0 ≤ (wrap64 (a1 + 3)) then (if (wrap64 (a1 + 3)) < (l0.length : Int) then (some (Go.bits .or .i64 (Go.bits .or .i64 (Go.bits .or .i64 (wrap64 ((wrap64 (rd l0 a1)) * 16777216)) (wrap64 ((wrap64 (rd l0 (wrap64 (a1 + 1)))) * 65536))) (wrap64 ((wrap64 (rd l0 (wrap64 (a1 + 2)))) * 256))) (wrap64 (rd l0 (wrap64 (a1 + 3)))))) else (none)) else (none)) else (none)) else (none)) else (none)) else (none)) else (none)) else (none)) = some r := h
  clear h
  by_cases c3 : 0 ≤ a1
  · rw [if_pos c3] at H
    have c3b0 : decide (0 ≤ a1) = true := decide_eq_true c3
    clear c3
    by_cases c4 : a1 < (l0.length : Int)
    · rw [if_pos c4] at H
      have c4b0 : decide (a1 < (l0.length : Int)) = true := decide_eq_true c4
      clear c4
      obtain ⟨ji5, hji5⟩ : ∃ j_ : Int, (wrap64 (a1 + 1)) = j_ := ⟨_, rfl⟩
      replace H : (if 0 ≤ (ji5) then (if (ji5) < (l0.length : Int) then (if 0 ≤ (wrap64 (a1 + 2)) then (if (wrap64 (a1 + 2)) < (l0.length : Int) then (if 0 ≤ (wrap64 (a1 + 3)) then (if (wrap64 (a1 + 3)) < (l0.length : Int) then (some (Go.bits .or .i64 (Go.bits .or .i64 (Go.bits .or .i64 (wrap64 ((wrap64 (rd l0 a1)) * 16777216)) (wrap64 ((wrap64 (rd l0 (ji5))) * 65536))) (wrap64 ((wrap64 (rd l0 (wrap64 (a1 + 2)))) * 256))) (wrap64 (rd l0 (wrap64 (a1 + 3)))))) else (none)) else (none)) else (none)) else (none)) else (none)) else (none)) = some r := by first | (rw [hji5] at H; exact H) | (simp only [hji5] at H ⊢; exact H)
      have hji5w : (IntKind.i64.wrap (a1 + 1)) = ji5 := (i64_w _).trans hji5
      by_cases c6 : 0 ≤ (ji5)
      · rw [if_pos c6] at H
        have c6b0 : decide (0 ≤ (ji5)) = true := decide_eq_true c6
        clear c6
        by_cases c7 : (ji5) < (l0.length : Int)
        · rw [if_pos c7] at H
          have c7b0 : decide ((ji5) < (l0.length : Int)) = true := decide_eq_true c7
          clear c7
          obtain ⟨ji8, hji8⟩ : ∃ j_ : Int, (wrap64 (a1 + 2)) = j_ := ⟨_, rfl⟩
          replace H : (if 0 ≤ (ji8) then (if (ji8) < (l0.length : Int) then (if 0 ≤ (wrap64 (a1 + 3)) then (if (wrap64 (a1 + 3)) < (l0.length : Int) then (some (Go.bits .or .i64 (Go.bits .or .i64 (Go.bits .or .i64 (wrap64 ((wrap64 (rd l0 a1)) * 16777216)) (wrap64 ((wrap64 (rd l0 (ji5))) * 65536))) (wrap64 ((wrap64 (rd l0 (ji8))) * 256))) (wrap64 (rd l0 (wrap64 (a1 + 3)))))) else (none)) else (none)) else (none)) else (none)) = some r := by first | (rw [hji8] at H; exact H) | (simp only [hji8] at H ⊢; exact H)
          have hji8w : (IntKind.i64.wrap (a1 + 2)) = ji8 := (i64_w _).trans hji8
          by_cases c9 : 0 ≤ (ji8)
          · rw [if_pos c9] at H
            have c9b0 : decide (0 ≤ (ji8)) = true := decide_eq_true c9
            clear c9
            by_cases c10 : (ji8) < (l0.length : Int)
            · rw [if_pos c10] at H
              have c10b0 : decide ((ji8) < (l0.length : Int)) = true := decide_eq_true c10
              clear c10
              obtain ⟨ji11, hji11⟩ : ∃ j_ : Int, (wrap64 (a1 + 3)) = j_ := ⟨_, rfl⟩
              replace H : (if 0 ≤ (ji11) then (if (ji11) < (l0.length : Int) then (some (Go.bits .or .i64 (Go.bits .or .i64 (Go.bits .or .i64 (wrap64 ((wrap64 (rd l0 a1)) * 16777216)) (wrap64 ((wrap64 (rd l0 (ji5))) * 65536))) (wrap64 ((wrap64 (rd l0 (ji8))) * 256))) (wrap64 (rd l0 (ji11))))) else (none)) else (none)) = some r := by first | (rw [hji11] at H; exact H) | (simp only [hji11] at H ⊢; exact H)
              have hji11w : (IntKind.i64.wrap (a1 + 3)) = ji11 := (i64_w _).trans hji11
              by_cases c12 : 0 ≤ (ji11)
              · rw [if_pos c12] at H
                have c12b0 : decide (0 ≤ (ji11)) = true := decide_eq_true c12
                clear c12
                by_cases c13 : (ji11) < (l0.length : Int)
                · rw [if_pos c13] at H
                  have c13b0 : decide ((ji11) < (l0.length : Int)) = true := decide_eq_true c13
                  clear c13
                  obtain rfl := Option.some.inj H
                  have p209 : 0 ≤ (a1 : Int) := of_decide_eq_true (by first | (with_reducible assumption) | assumption)
                  have q209 : a1 < (l0.length : Int) := of_decide_eq_true (by first | (with_reducible assumption) | assumption)
                  obtain ⟨ad209, e209, hx209_0⟩ := Kd.at_int HR0.out a1 p209 q209
                  cases e209
                  replace p209 := eq_true p209
                  replace q209 := eq_true q209
                  have p210 : 0 ≤ ((ji5) : Int) := of_decide_eq_true (by first | (with_reducible assumption) | assumption)
                  have q210 : (ji5) < (l0.length : Int) := of_decide_eq_true (by first | (with_reducible assumption) | assumption)
                  obtain ⟨ad210, e210, hx210_0⟩ := Kd.at_int HR0.out (ji5) p210 q210
                  obtain rfl : ad209 = ad210 := (by injection e210)
                  replace p210 := eq_true p210
                  replace q210 := eq_true q210
                  have p211 : 0 ≤ ((ji8) : Int) := of_decide_eq_true (by first | (with_reducible assumption) | assumption)
                  have q211 : (ji8) < (l0.length : Int) := of_decide_eq_true (by first | (with_reducible assumption) | assumption)
                  obtain ⟨ad211, e211, hx211_0⟩ := Kd.at_int HR0.out (ji8) p211 q211
                  obtain rfl : ad209 = ad211 := (by injection e211)
                  replace p211 := eq_true p211
                  replace q211 := eq_true q211
                  have p212 : 0 ≤ ((ji11) : Int) := of_decide_eq_true (by first | (with_reducible assumption) | assumption)
                  have q212 : (ji11) < (l0.length : Int) := of_decide_eq_true (by first | (with_reducible assumption) | assumption)
                  obtain ⟨ad212, e212, hx212_0⟩ := Kd.at_int HR0.out (ji11) p212 q212
                  obtain rfl : ad209 = ad212 := (by injection e212)
                  replace p212 := eq_true p212
                  replace q212 := eq_true q212
                  go_enter Try.func60, Try.ntmps60
                  go_wp2
                  repeat (go_quiet (fail); try go_wp2)
                  go_ret
                  exact ⟨by first | rfl | (simp; done) | (simp only [← hji5, ← hji8, ← hji11] <;> (first | rfl | simp)) | (simp [*]; done), by repeat (first | exact Drawn0.refl _ | apply Drawn0.step)⟩
                · rw [if_neg c13] at H
                  exact absurd H (by simp)
              · rw [if_neg c12] at H
                exact absurd H (by simp)
            · rw [if_neg c10] at H
              exact absurd H (by simp)
          · rw [if_neg c9] at H
            exact absurd H (by simp)
        · rw [if_neg c7] at H
          exact absurd H (by simp)
      · rw [if_neg c6] at H
        exact absurd H (by simp)
    · rw [if_neg c4] at H
      exact absurd H (by simp)
  · rw [if_neg c3] at H
    exact absurd H (by simp)

theorem from4_eq (l : List Int) (h : bytesOk l = true) (i : Int) (h0 : 0 ≤ i) (hl : i + 3 < l.length) (hm : l.length ≤ 1000000000000) : heraldref2_from4.f l i = some (wordAt l i.toNat) := by
  obtain ⟨k, rfl⟩ := Int.eq_ofNat_of_zero_le h0
  have g0 := rd_byte l h k
  have g1 := rd_byte l h (k + 1)
  have g2 := rd_byte l h (k + 2)
  have g3 := rd_byte l h (k + 3)
  have e1 : wrap64 ((k : Int) + 1) = ((k + 1 : Nat) : Int) := by unfold wrap64; omega
  have e2 : wrap64 ((k : Int) + 2) = ((k + 2 : Nat) : Int) := by unfold wrap64; omega
  have e3 : wrap64 ((k : Int) + 3) = ((k + 3 : Nat) : Int) := by unfold wrap64; omega
  unfold heraldref2_from4.f
  rw [e1, e2, e3, if_pos (by omega), if_pos (by omega), if_pos (by omega), if_pos (by omega), if_pos (by omega), if_pos (by omega), if_pos (by omega), if_pos (by omega)]
  have := word_join .i64 (by decide) (fun n h0 h1 => wr_i64 n h0 (by omega)) (rd l k) (rd l ((k + 1 : Nat) : Int)) (rd l ((k + 2 : Nat) : Int)) (rd l ((k + 3 : Nat) : Int)) g0 g1 g2 g3
  have w0 : wrap64 (wrap64 (rd l k) * 16777216) = rd l k * 16777216 := by unfold wrap64; omega
  have w1 : wrap64 (wrap64 (rd l ((k + 1 : Nat) : Int)) * 65536) = rd l ((k + 1 : Nat) : Int) * 65536 := by unfold wrap64; omega
  have w2 : wrap64 (wrap64 (rd l ((k + 2 : Nat) : Int)) * 256) = rd l ((k + 2 : Nat) : Int) * 256 := by unfold wrap64; omega
  have w3 : wrap64 (rd l ((k + 3 : Nat) : Int)) = rd l ((k + 3 : Nat) : Int) := by unfold wrap64; omega
  rw [w0, w1, w2, w3, this, Int.toNat_natCast]
  rfl
theorem Drawn0.quiet {f : FuncId} {args : Array Value} {w : World} {n : Nat} {v : Value} (h : Calls Try.prog f args (w.drewN n) fun e w' => e = .returned v ∧ Drawn0 (w.drewN n) w') :
    Calls Try.prog f args (w.drewN n) fun e w' => e = .returned v ∧ ∃ m, w' = w.drewN m :=
  h.mono fun _ w' ⟨he, hd⟩ => ⟨he, by obtain ⟨k, hk⟩ := hd.out; exact ⟨n + k, by rw [hk, World.drewN_drewN]⟩⟩

end Go.Proofs.Ytnanaojjhmpilaa.PW
