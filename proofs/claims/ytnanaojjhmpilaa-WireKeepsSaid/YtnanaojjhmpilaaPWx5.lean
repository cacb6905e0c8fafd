/- The machine's side of functions, in one namespace: each function's call comes to what its Lean function tells. -/
import Derived.Test.YtnanaojjhmpilaaPWx0
namespace Go.Proofs.Ytnanaojjhmpilaa.PW
open Go.RowKit Go.Proofs.YtnanaojjhmpilaaW.PrintWords Go.Proofs.YtnanaojjhmpilaaW.PrintLast Go.Proofs.YtnanaojjhmpilaaW.PrintMore
attribute [local go_sem] max2_int min2_int max_two min_two max_three min_three max_four min_four   -- for this text's walks alone
set_option linter.unusedVariables false
set_option linter.unusedSimpArgs false

/-! ### heraldref2_ReadNumber: function 54 -/
def heraldref2_ReadNumber.f (l0 : List Int) (a1 : Int) : Option (Int × Int × Int) := if bytesOk l0 = true ∧ l0.length ≤ 140737488355328 then some (readNum l0 a1) else none
set_option maxHeartbeats 4000000 in
set_option maxRecDepth 100000 in
theorem heraldref2_ReadNumber.calls (A0 : Option Addr) (c0 : Nat) (l0 : List Int) (a1 : Int) (r1 r2 r3 : Int) (w : World) (hr0 : Kd.C (Kd.int .u8) w A0 l0.length l0) (hc0 : l0.length ≤ c0) (h : heraldref2_ReadNumber.f l0 a1 = some (r1, r2, r3)) :
    Calls Try.prog 54 #[.slice A0 l0.length c0, .int .i64 a1] w fun e w' => e = .returned (.tuple #[.int .i64 r1, .int .i64 r2, .int .i64 r3]) ∧ Drawn0 w w' := by
  unfold heraldref2_ReadNumber.f at h
  split at h
  case isFalse => cases h
  rename_i hok
  obtain ⟨hok, hm⟩ := hok
  have hr := Option.some.inj h
  clear h
  have HOK := Aside0.mk hok
  clear hok
  have HR0 := Aside0.mk hr0
  have HC0 := Aside0.mk hc0
  clear hr0 hc0
  unfold readNum at hr
  by_cases h1 : a1 < 0
  · rw [if_pos (by omega)] at hr
    cases hr
    go_enter Try.func54, Try.ntmps54
    go_wp2
    go_ret3
    exact ⟨rfl, Drawn0.refl _⟩
  by_cases h2 : a1 > l0.length
  · rw [if_pos (by omega)] at hr
    cases hr
    go_enter Try.func54, Try.ntmps54
    go_wp2
    go_ret3
    exact ⟨rfl, Drawn0.refl _⟩
  rw [if_neg (by omega)] at hr
  have hr' := Aside0.mk hr
  clear hr
  obtain ⟨n, hn⟩ : ∃ n : Nat, n = l0.length - a1.toNat := ⟨_, rfl⟩
  obtain ⟨s, hs⟩ : ∃ s : List Int, s = l0.drop a1.toNat := ⟨_, rfl⟩
  have hsl : s.length = n := by rw [hs, List.length_drop]; omega
  have HOK2 := Aside0.mk (hs ▸ bytesOk_drop HOK.out a1.toNat)
  have hsk := Aside0.mk (show ∀ k : Nat, k < n → rd l0 (a1 + k) = rd s k by
    intro k hk
    rw [hs]
    simp only [rd, Int.toNat_natCast]
    rw [List.getD_eq_getElem?_getD, List.getD_eq_getElem?_getD, List.getElem?_drop]
    congr 2
    omega)
  rw [← hs] at hr'
  have hna : (l0.length : Int) - a1 = n := by omega
  have hln : (l0.length : Int) = a1 + n := by omega
  have hln1 := Aside0.mk hln
  have hna1 := Aside0.mk hna
  clear hs hn hna hln
  go_enter Try.func54, Try.ntmps54
  go_wp2
  go_loop [7, 8, 9] (fun v m i => ∃ k : Nat, k ≤ n ∧ k ≤ 5 ∧ i = .int .i64 k ∧ m = .int .i64 (128 ^ k) ∧ ∃ x : Int, v = .int .i64 x ∧ Aside0 (0 ≤ x ∧ x < 128 ^ k) ∧ Aside0 (rnGo a1 (5 - k) k x (s.drop k) = (r1, r2, r3))) (fun _ _ i => 5 - (intOf i).toNat)
  case atStart => exact ⟨0, Nat.zero_le _, by omega, rfl, rfl, _, rfl, ⟨by simp⟩, ⟨by simpa using hr'.out⟩⟩
  case round =>
    obtain ⟨k, hk, hk5, rfl, rfl, x, rfl, hx, hgo⟩ := hrel
    have hl1 := hln1.out
    by_cases hlt : k < n
    · by_cases hk6 : k = 5
      · have he := hgo.out
        rw [hk6, show 5 - 5 = 0 from rfl, rnGo] at he
        cases he
        have hk8 : 5 ≤ k := by omega
        clear hgo hk6
        go_wp2
        go_ret3
        exact ⟨rfl, Drawn0.refl _⟩
      · have hk7 : k < 5 := by omega
        obtain ⟨ad, rfl, hc⟩ := Kd.at_int HR0.out (a1 + k) (by omega) (by omega)
        have hbb := Aside0.mk (bytesOk_rd HOK2.out k (by omega))
        have hstep := hgo.out
        rw [drop_rd s k (by omega), rnGo_step a1 x _ k hk7] at hstep
        rw [hsk.out k hlt] at hc
        obtain ⟨b, hb⟩ : ∃ b, b = rd s k := ⟨_, rfl⟩
        rw [← hb] at hc hbb hstep
        clear hb hgo
        have hb8 : 0 ≤ b := hbb.out.1
        have hb9 : b < 256 := hbb.out.2
        have hv := digit_bound x b k hk7 hx.out hbb.out
        have hpk : (128 : Int) ^ (k + 1) = 128 ^ k * 128 := Int.pow_succ _ _
        obtain ⟨pk, hp⟩ : ∃ pk : Int, pk = 128 ^ k := ⟨_, rfl⟩
        rw [← hp] at hstep hv hpk
        obtain ⟨y, hy⟩ : ∃ y : Int, y = b % 128 * pk := ⟨_, rfl⟩
        rw [← hy] at hstep hv
        have hx0 : 0 ≤ x := hx.out.1
        have hpp : 1 ≤ pk ∧ pk ≤ 268435456 ∧ 0 ≤ y ∧ x + y < 34359738368 := by
          have hz : k = 0 ∨ k = 1 ∨ k = 2 ∨ k = 3 ∨ k = 4 := by omega
          have hy0 : 0 ≤ y := by
            rw [hy]; refine Int.mul_nonneg (by omega) ?_
            rw [hp]; exact Int.pow_nonneg (by decide)
          have hv2 := hv.2
          rw [hpk, hp] at hv2
          rcases hz with h | h | h | h | h <;> rw [h] at hp hv2 <;> simp at hp hv2 <;> omega
        obtain ⟨p1, p2, p3, p4⟩ := hpp
        have hy2 := hy.symm
        rw [← hp]
        have hpk2 := Aside0.mk hpk
        have hp2 := Aside0.mk hp
        have hv2 := Aside0.mk hv
        have hbm : 0 ≤ b % 128 ∧ b % 128 < 128 := by omega
        obtain ⟨bm, hbm0⟩ : ∃ bm, bm = b % 128 := ⟨_, rfl⟩
        rw [← hbm0] at hbm hy2
        have hbm1 := hbm0.symm
        obtain ⟨hbm2, hbm3⟩ := hbm
        clear hpk hp hy hv hbm0
        have hmul : wrap64 (bm * pk) = y := by rw [hy2]; unfold wrap64; omega
        clear hy2
        by_cases hb1 : b ≥ 128
        · rw [if_pos hb1] at hstep
          have hstep2 := Aside0.mk hstep
          clear hstep
          go_wp2
          go_round
          case rel =>
            refine ⟨k + 1, by omega, by omega, by go_num, ?_, _, rfl, ⟨?_⟩, ⟨?_⟩⟩
            · rw [hpk2.out]
            · exact hv2.out
            · exact hstep2.out
          case measure => simp [intOf]; omega
        · rw [if_neg hb1] at hstep
          have hstep2 := Aside0.mk hstep
          have hk0 : b = 0 → k = 0 → x + y ≤ 2147483647 := by
            intro e1 e2
            subst e2
            have := hv2.out.2
            simp at this; omega
          clear hstep
          by_cases hz : b = 0
          · by_cases hk1 : k = 0
            · have hyb := hk0 hz hk1
              have he := hstep2.out
              rw [if_neg (by omega)] at he
              cases he
              have hz2 : (b == 0) = true := beq_iff_eq.mpr hz
              have hk2 : k ≤ 0 := by omega
              clear hz hk0 hk1
              go_wp2
              go_ret3
              exact ⟨by simp, Drawn0.refl _⟩
            · have he := hstep2.out
              rw [if_pos (by omega)] at he
              cases he
              have hz2 : (b == 0) = true := beq_iff_eq.mpr hz
              have hk2 : 0 < k := by omega
              clear hz hk0 hk1
              go_wp2
              go_ret3
              exact ⟨rfl, Drawn0.refl _⟩
          · have hz2 : (b == 0) = false := beq_eq_false_iff_ne.mpr hz
            by_cases hbig : x + y > 2147483647
            · have he := hstep2.out
              rw [if_pos (by omega)] at he
              cases he
              clear hz hk0
              go_wp2
              go_ret3
              exact ⟨rfl, Drawn0.refl _⟩
            · have he := hstep2.out
              rw [if_neg (by omega)] at he
              cases he
              clear hz hk0
              go_wp2
              go_ret3
              exact ⟨by simp, Drawn0.refl _⟩
    · have hkn : s.drop k = [] := List.drop_eq_nil_of_le (by omega)
      by_cases hk6 : k = 5
      · have he := hgo.out
        rw [hk6, rnGo] at he
        cases he
        have hk8 : 5 ≤ k := by omega
        clear hkn hk6
        go_wp2
        go_ret3
        exact ⟨rfl, Drawn0.refl _⟩
      · have he := hgo.out
        obtain ⟨m, hm⟩ : ∃ m, 5 - k = m + 1 := ⟨5 - (k + 1), by omega⟩
        rw [hkn, hm, rnGo] at he
        cases he
        have hk8 : k < 5 := by omega
        clear hkn hk6 hm
        go_wp2
        go_ret3
        exact ⟨rfl, Drawn0.refl _⟩

/-! ### heraldref2_ReadText: function 55 -/
def heraldref2_ReadText.f (l0 : List Int) (a1 : Int) : Option (ByteArray × Int × Int) := if bytesOk l0 = true ∧ l0.length ≤ 140737488355328 then some (strOfNums (readText l0 a1).1, (readText l0 a1).2.1, (readText l0 a1).2.2) else none
set_option maxHeartbeats 4000000 in
set_option maxRecDepth 100000 in
theorem heraldref2_ReadText.calls (A0 : Option Addr) (c0 : Nat) (l0 : List Int) (a1 : Int) (r1 : ByteArray) (r2 r3 : Int) (w : World) (hr0 : Kd.C (Kd.int .u8) w A0 l0.length l0) (hc0 : l0.length ≤ c0) (h : heraldref2_ReadText.f l0 a1 = some (r1, r2, r3)) :
    Calls Try.prog 55 #[.slice A0 l0.length c0, .int .i64 a1] w fun e w' => e = .returned (.tuple #[.string r1, .int .i64 r2, .int .i64 r3]) ∧ Drawn0 w w' := by
  unfold heraldref2_ReadText.f at h
  split at h
  case isFalse => cases h
  rename_i hok
  have hnum : heraldref2_ReadNumber.f l0 a1 = some (readNum l0 a1) := by unfold heraldref2_ReadNumber.f; rw [if_pos hok]
  have hr := Option.some.inj h
  clear h
  obtain ⟨x, q, e, hxq⟩ : ∃ x q e, readNum l0 a1 = (x, q, e) := ⟨_, _, _, rfl⟩
  unfold readText at hr
  rw [hxq] at hr hnum
  have hm := hok.2
  clear hok
  have HR0 := Aside0.mk hr0
  have HC0 := Aside0.mk hc0
  have HN := Aside0.mk hnum
  have HX := Aside0.mk hxq
  clear hr0 hc0 hnum hxq
  simp only at hr
  by_cases h1 : e ≠ 0
  · rw [if_pos h1] at hr
    cases hr
    have h2 : (e == 0) = false := beq_eq_false_iff_ne.mpr h1
    have h3 : (e != 0) = true := bne_iff_ne.mpr h1
    clear h1
    go_enter Try.func55, Try.ntmps55
    go_wp2_with (go_at_call 54; refine (heraldref2_ReadNumber.calls A0 c0 l0 a1 x q e _ HR0.out HC0.out HN.out).mono ?_; rintro e1 w1 ⟨rfl, ⟨nd, rfl⟩⟩)
    go_ret3
    exact ⟨rfl, ⟨⟨_, rfl⟩⟩⟩
  · rw [if_neg h1] at hr
    obtain rfl : e = 0 := by omega
    clear h1
    obtain ⟨g0, g1, g2, g3, g4⟩ := readNum_ok HX.out
    by_cases h2 : x > 262144
    · rw [if_pos h2] at hr
      cases hr
      go_enter Try.func55, Try.ntmps55
      go_wp2_with (go_at_call 54; refine (heraldref2_ReadNumber.calls A0 c0 l0 a1 x q 0 _ HR0.out HC0.out HN.out).mono ?_; rintro e1 w1 ⟨rfl, ⟨nd, rfl⟩⟩)
      go_ret3
      exact ⟨rfl, ⟨⟨_, rfl⟩⟩⟩
    · rw [if_neg h2] at hr
      by_cases h3 : x > l0.length - q
      · rw [if_pos h3] at hr
        cases hr
        go_enter Try.func55, Try.ntmps55
        go_wp2_with (go_at_call 54; refine (heraldref2_ReadNumber.calls A0 c0 l0 a1 x q 0 _ HR0.out HC0.out HN.out).mono ?_; rintro e1 w1 ⟨rfl, ⟨nd, rfl⟩⟩)
        go_ret3
        exact ⟨rfl, ⟨⟨_, rfl⟩⟩⟩
      · rw [if_neg h3] at hr
        have hr1 := Aside0.mk hr
        clear hr
        go_enter Try.func55, Try.ntmps55
        go_wp2_with (first | (go_at_call 54; refine (heraldref2_ReadNumber.calls A0 c0 l0 a1 x q 0 _ HR0.out HC0.out HN.out).mono ?_; rintro e1 w1 ⟨rfl, ⟨nd, rfl⟩⟩) | (with_reducible refine stop_slice rfl ?_))
        refine mid8 rfl _ _ _ rfl rfl rfl rfl (by omega) (by omega) (by omega) HC0.out (Kd.C_drewN HR0.out nd) ?_
        intro A1 hr2
        have HR2 := Aside0.mk hr2
        clear hr2
        go_wp2_with (with_reducible refine stop_convert rfl ?_)
        refine str8 rfl _ rfl rfl HR2.out ?_
        go_wp2
        go_ret3
        have he := hr1.out
        cases he
        exact ⟨rfl, ⟨⟨_, rfl⟩⟩⟩

-- NOT PRINTED: function 35 (heraldlaw2_reads)

-- NOT PRINTED: function 7 (heraldlaw2_WireReads)

/-! ### wire_word: function 66 -/
def wire_word.f (l0 : List Int) : Option (Int) := if 0 < (l0.length : Int) then (if 1 < (l0.length : Int) then (if 2 < (l0.length : Int) then (if 3 < (l0.length : Int) then (some (Go.bits .or .u32 (Go.bits .or .u32 (Go.bits .or .u32 ((((rd l0 0) % 4294967296) * 16777216) % 4294967296) ((((rd l0 1) % 4294967296) * 65536) % 4294967296)) ((((rd l0 2) % 4294967296) * 256) % 4294967296)) ((rd l0 3) % 4294967296))) else (none)) else (none)) else (none)) else (none)
set_option maxHeartbeats 8000000 in
set_option maxRecDepth 100000 in
theorem wire_word.calls (A0 : Option Addr) (c0 : Nat) (l0 : List Int) (r : Int) (w : World) (hr0 : Kd.C (Kd.int .u8) w A0 l0.length l0) (hc0 : l0.length ≤ c0) (h : wire_word.f l0 = some r) :
    Calls Try.prog 66 #[.slice A0 l0.length c0] w fun e w' => e = .returned (.int .u32 r) ∧ Drawn0 w w' := by
  have HR0 := Aside0.mk hr0
  have HC0 := Aside0.mk hc0
  clear hr0 hc0
  have H : (if 0 < (l0.length : Int) then (if 1 < (l0.length : Int) then (if 2 < (l0.length : Int) then (if 3 < (l0.length : Int) then (some (Go.bits .or .u32 (Go.bits .or .u32 (Go.bits .or .u32 ((((rd l0 0) % 4294967296) * 16777216) % 4294967296) ((((rd l0 1) % 4294967296) * 65536) % 4294967296)) ((((rd l0 2) % 4294967296) * 256) % 4294967296)) ((rd l0 3) % 4294967296))) else (none)) else (none)) else (none)) else (none)) = some r := h
  clear h
  by_cases c2 : 0 < (l0.length : Int)
  · rw [if_pos c2] at H
    have c2b0 : decide (0 < (l0.length : Int)) = true := decide_eq_true c2
    have c2b1 : decide (0 < l0.length) = true := decide_eq_true (by omega)
    clear c2
    by_cases c3 : 1 < (l0.length : Int)
    · rw [if_pos c3] at H
      have c3b0 : decide (1 < (l0.length : Int)) = true := decide_eq_true c3
      have c3b1 : decide (1 < l0.length) = true := decide_eq_true (by omega)
      clear c3
      by_cases c4 : 2 < (l0.length : Int)
      · rw [if_pos c4] at H
        have c4b0 : decide (2 < (l0.length : Int)) = true := decide_eq_true c4
        have c4b1 : decide (2 < l0.length) = true := decide_eq_true (by omega)
        clear c4
        by_cases c5 : 3 < (l0.length : Int)
        · rw [if_pos c5] at H
          have c5b0 : decide (3 < (l0.length : Int)) = true := decide_eq_true c5
          have c5b1 : decide (3 < l0.length) = true := decide_eq_true (by omega)
          clear c5
          obtain rfl := Option.some.inj H
          have p205 : 0 ≤ (0 : Int) := (by omega)
          have q205 : 0 < (l0.length : Int) := of_decide_eq_true (by first | (with_reducible assumption) | assumption)
          obtain ⟨ad205, e205, hx205_0⟩ := Kd.at_int HR0.out 0 p205 q205
          cases e205
          have qi205 : (0 < l0.length) = True := eq_true (by omega)
          (try rw [show ((0 : Int)).toNat = 0 from rfl] at hx205_0)
          (try rw [Addr.add_zero'] at hx205_0)
          replace p205 := eq_true p205
          replace q205 := eq_true q205
          have p206 : 0 ≤ (1 : Int) := (by omega)
          have q206 : 1 < (l0.length : Int) := of_decide_eq_true (by first | (with_reducible assumption) | assumption)
          obtain ⟨ad206, e206, hx206_0⟩ := Kd.at_int HR0.out 1 p206 q206
          obtain rfl : ad205 = ad206 := (by injection e206)
          (try simp only [show (1 : Int).toNat = 1 from rfl, Nat.reduceMul, Nat.reduceEqDiff, Go.Addr.add, ↓reduceIte] at hx206_0)
          have qi206 : (1 < l0.length) = True := eq_true (by omega)
          (try rw [show ((1 : Int)).toNat = 1 from rfl] at hx206_0)
          replace p206 := eq_true p206
          replace q206 := eq_true q206
          have p207 : 0 ≤ (2 : Int) := (by omega)
          have q207 : 2 < (l0.length : Int) := of_decide_eq_true (by first | (with_reducible assumption) | assumption)
          obtain ⟨ad207, e207, hx207_0⟩ := Kd.at_int HR0.out 2 p207 q207
          obtain rfl : ad205 = ad207 := (by injection e207)
          (try simp only [show (2 : Int).toNat = 2 from rfl, Nat.reduceMul, Nat.reduceEqDiff, Go.Addr.add, ↓reduceIte] at hx207_0)
          have qi207 : (2 < l0.length) = True := eq_true (by omega)
          (try rw [show ((2 : Int)).toNat = 2 from rfl] at hx207_0)
          replace p207 := eq_true p207
          replace q207 := eq_true q207
          have p208 : 0 ≤ (3 : Int) := (by omega)
          have q208 : 3 < (l0.length : Int) := of_decide_eq_true (by first | (with_reducible assumption) | assumption)
          obtain ⟨ad208, e208, hx208_0⟩ := Kd.at_int HR0.out 3 p208 q208
          obtain rfl : ad205 = ad208 := (by injection e208)
          (try simp only [show (3 : Int).toNat = 3 from rfl, Nat.reduceMul, Nat.reduceEqDiff, Go.Addr.add, ↓reduceIte] at hx208_0)
          have qi208 : (3 < l0.length) = True := eq_true (by omega)
          (try rw [show ((3 : Int)).toNat = 3 from rfl] at hx208_0)
          replace p208 := eq_true p208
          replace q208 := eq_true q208
          go_enter Try.func66, Try.ntmps66
          go_wp2
          repeat (go_quiet (fail); try go_wp2)
          go_ret
          exact ⟨by first | rfl | (simp; done) | (simp [*]; done), by repeat (first | exact Drawn0.refl _ | apply Drawn0.step)⟩
        · rw [if_neg c5] at H
          exact absurd H (by simp)
      · rw [if_neg c4] at H
        exact absurd H (by simp)
    · rw [if_neg c3] at H
      exact absurd H (by simp)
  · rw [if_neg c2] at H
    exact absurd H (by simp)

theorem word_eq (l : List Int) (h : bytesOk l = true) (hl : 4 ≤ l.length) : wire_word.f l = some (wordAt l 0) := by
  have h0 : 0 ≤ rd l 0 ∧ rd l 0 < 256 := rd_byte l h 0
  have h1 : 0 ≤ rd l 1 ∧ rd l 1 < 256 := rd_byte l h 1
  have h2 : 0 ≤ rd l 2 ∧ rd l 2 < 256 := rd_byte l h 2
  have h3 : 0 ≤ rd l 3 ∧ rd l 3 < 256 := rd_byte l h 3
  unfold wire_word.f
  rw [if_pos (by omega), if_pos (by omega), if_pos (by omega), if_pos (by omega)]
  have := word_join .u32 (by decide) wr_u32 (rd l 0) (rd l 1) (rd l 2) (rd l 3) h0 h1 h2 h3
  rw [show (rd l 0 % 4294967296 * 16777216) % 4294967296 = rd l 0 * 16777216 by omega, show (rd l 1 % 4294967296 * 65536) % 4294967296 = rd l 1 * 65536 by omega, show (rd l 2 % 4294967296 * 256) % 4294967296 = rd l 2 * 256 by omega, show rd l 3 % 4294967296 = rd l 3 by omega, this]
  rfl
theorem wire_word.callsN (A0 : Option Addr) (c0 n : Nat) (l0 : List Int) (r : Int) (w : World) (hn : l0.length = n) (hr0 : C8 w A0 n l0) (hc0 : n ≤ c0) (h : wire_word.f l0 = some r) :
    Calls Try.prog 66 #[.slice A0 n c0] w fun e w' => e = .returned (.int .u32 r) ∧ Drawn0 w w' := by
  subst hn; exact wire_word.calls A0 c0 l0 r w hr0 hc0 h

end Go.Proofs.Ytnanaojjhmpilaa.PW
