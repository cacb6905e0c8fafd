/- The machine's side of functions, in one namespace: each function's call comes to what its Lean function tells. -/
import Derived.Test.YtdbniihjkiecbaaPWx0
import Derived.Test.YtdbniihjkiecbaaPWx6
import Derived.Test.YtdbniihjkiecbaaPWx1
namespace Go.Proofs.Ytdbniihjkiecbaa.PW
open Go.RowKit Go.Proofs.YtdbniihjkiecbaaW.PrintWords Go.Proofs.YtdbniihjkiecbaaW.PrintLast Go.Proofs.YtdbniihjkiecbaaW.PrintMore
attribute [local go_sem] max2_int min2_int max_two min_two max_three min_three max_four min_four   -- for this text's walks alone
set_option linter.unusedVariables false
set_option linter.unusedSimpArgs false

/-! ### heraldref7_Encode: function 10 -/
-- NOT PRINTED: function 11 (heraldlaw7_twinEntry)

-- NOT PRINTED: function 94 (slices_IndexFunc_int_int)

-- NOT PRINTED: function 86 (slices_ContainsFunc_int_int)

/-! ### note_numbers: function 77 -/
set_option maxHeartbeats 4000000 in
set_option maxRecDepth 100000 in
theorem numOut_C (v : Int) (w : World) : Calls Try.prog 87 #[.int .i64 v] w fun e w' => e = .returned (.bool (!numOk v)) ∧ w = w' := by
  by_cases h : v < 0
  · have d1 : decide (v < 0) = true := decide_eq_true h
    have h2 : (!numOk v) = true := by unfold numOk; rw [decide_eq_false (show ¬ 0 ≤ v by omega)]; rfl
    rw [h2]
    go_enter Try.func87, Try.ntmps87
    go_wp2; go_ret
    exact ⟨rfl, rfl⟩
  · have d1 : decide (v < 0) = false := decide_eq_false h
    have h2 : (!numOk v) = decide (2147483647 < v) := by
      unfold numOk
      rw [decide_eq_true (show 0 ≤ v by omega)]
      by_cases h3 : v ≤ 2147483647
      · rw [decide_eq_true h3, decide_eq_false (by omega)]; rfl
      · rw [decide_eq_false h3, decide_eq_true (by omega)]; rfl
    rw [h2]
    go_enter Try.func87, Try.ntmps87
    go_wp2; go_ret
    exact ⟨rfl, rfl⟩
theorem at_i64 {w : World} {A : Option Addr} {n : Nat} {xs : List Int} (h : Kd.C (Kd.int .i64) w A n xs) {k : Nat} (hk : k < n) : ∃ ad, A = some ad ∧ w.cell? (ad.add k) = some (.int .i64 (rd xs (k : Int))) := by
  have := Kd.at_int h (k : Int) (by omega) (by omega)
  rwa [Int.toNat_natCast] at this
set_option maxHeartbeats 4000000 in
set_option maxRecDepth 100000 in
theorem index94_C (A : Option Addr) (c n : Nat) (xs : List Int) (w : World) (hn : xs.length = n) (hC : Kd.C (Kd.int .i64) w A n xs) :
    Calls Try.prog 94 #[.slice A n c, .func (.func 87) #[] #[]] w fun e w' => (∃ r : Int, e = .returned (.int .i64 r) ∧ decide (0 ≤ r) = !xs.all numOk) ∧ w = w' := by
  have hm : n ≤ 9223372036854775807 := by rw [← hn]; exact Kd.C_max (hn ▸ hC)
  have HC := Aside0.mk hC
  have HN := Aside0.mk hn
  clear hC hn
  go_enter Try.func94, Try.ntmps94
  go_wp2
  go_loop [5, 8] (fun v5 v8 => ∃ k : Nat, k ≤ n ∧ v8 = .int .i64 (k : Int) ∧ Aside0 ((xs.take k).all numOk = true)) (fun _ v8 => n + 1 - (intOf v8).toNat)
  case atStart => exact ⟨0, Nat.zero_le _, rfl, ⟨by simp⟩⟩
  case round =>
    obtain ⟨k, hk, rfl, HK⟩ := hrel
    by_cases hlt : k < n
    · have hd1 : decide ((k : Int) < (n : Int)) = true := decide_eq_true (by omega)
      have hd2 : decide (k < n) = true := decide_eq_true hlt
      obtain ⟨ad, rfl, hc⟩ := at_i64 HC.out hlt
      obtain ⟨x, hx⟩ : ∃ x, rd xs (k : Int) = x := ⟨_, rfl⟩
      rw [hx] at hc
      have hxs : xs[k]? = some x := by
        have hkl : k < xs.length := by rw [HN.out]; exact hlt
        rw [List.getElem?_eq_getElem hkl, ← hx]
        simp [rd, hkl]
      have HX := Aside0.mk hxs
      obtain ⟨b, hb⟩ : ∃ b, numOk x = b := ⟨_, rfl⟩
      have HBB := Aside0.mk hb
      clear hx hxs hb
      go_wp2_with fail
      refine (numOut_C x w).mono ?_
      rintro e1 w1 ⟨rfl, rfl⟩
      rw [HBB.out]
      cases b
      · have hall : xs.all numOk = false := by
          rw [List.all_eq_false]
          exact ⟨x, List.mem_of_getElem? HX.out, by rw [HBB.out]; simp⟩
        have HALL := Aside0.mk hall
        clear hall
        go_wp2; go_ret
        exact ⟨⟨_, rfl, by rw [HALL.out]; simp⟩, rfl⟩
      · go_wp2
        go_round
        case rel =>
          refine ⟨k + 1, by omega, by go_num, ⟨?_⟩⟩
          rw [List.take_add_one, List.all_append, HK.out, HX.out]
          simp [HBB.out]
        case measure => simp [intOf]; omega
    · have hd1 : decide ((k : Int) < (n : Int)) = false := decide_eq_false (by omega)
      have hd2 : decide (k < n) = false := decide_eq_false hlt
      have HALL := Aside0.mk (show xs.all numOk = true by have h := HK.out; rwa [List.take_of_length_le (by rw [HN.out]; omega)] at h)
      go_wp2; go_ret
      exact ⟨⟨_, rfl, by rw [HALL.out]; simp⟩, rfl⟩
set_option maxHeartbeats 4000000 in
set_option maxRecDepth 100000 in
theorem contains86_C (A : Option Addr) (c n : Nat) (xs : List Int) (w : World) (hn : xs.length = n) (hC : Kd.C (Kd.int .i64) w A n xs) :
    Calls Try.prog 86 #[.slice A n c, .func (.func 87) #[] #[]] w fun e w' => e = .returned (.bool (!xs.all numOk)) ∧ w = w' := by
  go_enter Try.func86, Try.ntmps86
  go_wp2_with fail
  refine (index94_C A c n xs w hn hC).mono ?_
  rintro e1 w1 ⟨⟨r, rfl, hr⟩, rfl⟩
  clear hC hn
  go_wp2; go_ret
  exact ⟨rfl, rfl⟩
/-- Are all from 0 to the greatest number? -/
def note_numbers.f (l0 : List Int) : Option Bool := some (l0.all numOk)
set_option maxHeartbeats 4000000 in
set_option maxRecDepth 100000 in
theorem note_numbers.calls (A0 : Option Addr) (c0 : Nat) (l0 : List Int) (r : Bool) (w : World) (hr0 : Kd.C (Kd.int .i64) w A0 l0.length l0) (hc0 : l0.length ≤ c0) (h : note_numbers.f l0 = some r) :
    Calls Try.prog 77 #[.slice A0 l0.length c0] w fun e w' => e = .returned (.bool r) ∧ Drawn0 w w' := by
  obtain rfl := Option.some.inj h
  obtain ⟨n, hn⟩ : ∃ n, l0.length = n := ⟨_, rfl⟩
  rw [hn] at hr0 hc0 ⊢
  have HC := Aside0.mk hr0
  have HN := Aside0.mk hn
  clear h hr0 hn hc0
  go_enter Try.func77, Try.ntmps77
  go_wp2_with fail
  refine (contains86_C A0 c0 n l0 w HN.out HC.out).mono ?_
  rintro e1 w1 ⟨rfl, rfl⟩
  go_wp2; go_ret
  exact ⟨by simp, Drawn0.refl _⟩

-- NOT PRINTED: function 103 (api_Op_103)

-- NOT PRINTED: function 95 (api_Op_95)

-- NOT PRINTED: function 88 (api_Op_88)

end Go.Proofs.Ytdbniihjkiecbaa.PW
