/- A frame with one byte turned, cut short, or with one byte more is refused, in plain lists of bytes. -/
import Derived.Test.YtdbniihjkiecbaaK4
namespace Go.Proofs.Ytdbniihjkiecbaa.PW
open Go.RowKit Go.Proofs.YtdbniihjkiecbaaW.PrintWords Go.Proofs.YtdbniihjkiecbaaW.PrintLast Go.Proofs.YtdbniihjkiecbaaW.PrintMore
set_option linter.unusedVariables false
set_option linter.unusedSimpArgs false

theorem tab_top : ∀ i j : Fin 16, tabN.getD i.val 0 / 2 ^ 28 = tabN.getD j.val 0 / 2 ^ 28 → i = j := by decide
theorem halfN_top (r : Nat) (h : r < 2 ^ 32) : halfN r / 2 ^ 28 = tabN.getD (r % 16) 0 / 2 ^ 28 := by
  unfold halfN
  rw [Nat.xor_div_two_pow, Nat.div_eq_of_lt (show r / 16 < 2 ^ 28 by omega), Nat.zero_xor]
theorem halfN_inj (r s : Nat) (hr : r < 2 ^ 32) (hs : s < 2 ^ 32) (h : halfN r = halfN s) : r = s := by
  have ht : tabN.getD (r % 16) 0 / 2 ^ 28 = tabN.getD (s % 16) 0 / 2 ^ 28 := by rw [← halfN_top r hr, ← halfN_top s hs, h]
  have e := tab_top ⟨r % 16, by omega⟩ ⟨s % 16, by omega⟩ ht
  have e' : r % 16 = s % 16 := by simpa using congrArg Fin.val e
  unfold halfN at h
  rw [e'] at h
  have hx : r / 16 = s / 16 := by
    have := congrArg (· ^^^ tabN.getD (s % 16) 0) h
    simpa [Nat.xor_assoc] using this
  omega
theorem sumFromN_lt (l : List Int) (hb : bytesOk l = true) (r : Nat) (h : r < 2 ^ 32) : sumFromN r l < 2 ^ 32 := (sumFrom_nat l r h hb).2
theorem sumFromN_inj (l : List Int) : ∀ (r s : Nat), bytesOk l = true → r < 2 ^ 32 → s < 2 ^ 32 → sumFromN r l = sumFromN s l → r = s := by
  induction l with
  | nil => intro r s _ _ _ h; exact h
  | cons b l ih =>
    intro r s hb hr hs h
    obtain ⟨b0, b1, hl⟩ := bytesOk_cons hb
    have xr : r ^^^ b.toNat < 2 ^ 32 := Nat.xor_lt_two_pow hr (by omega)
    have xs : s ^^^ b.toNat < 2 ^ 32 := Nat.xor_lt_two_pow hs (by omega)
    have := ih _ _ hl (halfN_lt _ (halfN_lt _ xr)) (halfN_lt _ (halfN_lt _ xs)) h
    have := halfN_inj _ _ (halfN_lt _ xr) (halfN_lt _ xs) this
    have := halfN_inj _ _ xr xs this
    have := congrArg (· ^^^ b.toNat) this
    simpa [Nat.xor_assoc] using this
theorem sumFromN_append (a b : List Int) : ∀ r, sumFromN r (a ++ b) = sumFromN (sumFromN r a) b := by
  induction a with
  | nil => intro r; rfl
  | cons x a ih => intro r; exact ih _
/-- The sum tells a byte turned. -/
theorem sum_tells (p q : List Int) (b c : Int) (hp : bytesOk p = true) (hq : bytesOk q = true) (hb : 0 ≤ b ∧ b < 256) (hc : 0 ≤ c ∧ c < 256) (h : sumW (p ++ b :: q) = sumW (p ++ c :: q)) : b = c := by
  have ok : ∀ x : Int, 0 ≤ x ∧ x < 256 → bytesOk (p ++ x :: q) = true := by
    intro x hx
    refine bytesOk_append hp ?_
    unfold bytesOk at *
    rw [List.all_cons, hq]; simp; omega
  have e1 := (sumW_nat _ (ok b hb)).1
  have e2 := (sumW_nat _ (ok c hc)).1
  rw [e1, e2] at h
  have h1 : 4294967295 ^^^ sumFromN 4294967295 (p ++ b :: q) = 4294967295 ^^^ sumFromN 4294967295 (p ++ c :: q) := by exact_mod_cast h
  have h2 : sumFromN 4294967295 (p ++ b :: q) = sumFromN 4294967295 (p ++ c :: q) := by
    have := congrArg (4294967295 ^^^ ·) h1
    simpa [← Nat.xor_assoc] using this
  rw [sumFromN_append, sumFromN_append] at h2
  have hR := sumFromN_lt p hp 4294967295 (by decide)
  obtain ⟨R, hRR⟩ : ∃ R, R = sumFromN 4294967295 p := ⟨_, rfl⟩
  rw [← hRR] at h2 hR
  have xb : R ^^^ b.toNat < 2 ^ 32 := Nat.xor_lt_two_pow hR (by omega)
  have xc : R ^^^ c.toNat < 2 ^ 32 := Nat.xor_lt_two_pow hR (by omega)
  have h3 := sumFromN_inj q _ _ hq (halfN_lt _ (halfN_lt _ xb)) (halfN_lt _ (halfN_lt _ xc)) h2
  have h4 := halfN_inj _ _ (halfN_lt _ xb) (halfN_lt _ xc) h3
  have h5 := halfN_inj _ _ xb xc h4
  have h6 := congrArg (R ^^^ ·) h5
  simp only [← Nat.xor_assoc, Nat.xor_self, Nat.zero_xor] at h6
  omega
/-- A turned byte is another byte. -/
theorem turn_byte (x t : Int) (hx : 0 ≤ x ∧ x < 256) (ht : 0 ≤ t ∧ t < 256) (hz : t ≠ 0) : 0 ≤ Go.bits .xor .u8 x t ∧ Go.bits .xor .u8 x t < 256 ∧ Go.bits .xor .u8 x t ≠ x := by
  obtain ⟨a, rfl⟩ := Int.eq_ofNat_of_zero_le hx.1
  obtain ⟨b, rfl⟩ := Int.eq_ofNat_of_zero_le ht.1
  have e := bits_xor_nat .u8 8 (by decide) (fun n h0 h1 => by rw [IntKind.wrap_u8]; omega) a b (by omega) (by omega)
  have hlt : a ^^^ b < 2 ^ 8 := Nat.xor_lt_two_pow (by omega) (by omega)
  rw [e]
  refine ⟨by omega, by omega, fun h => hz ?_⟩
  have h1 : a ^^^ b = a := by exact_mod_cast h
  have h2 := congrArg (a ^^^ ·) h1
  simp only [← Nat.xor_assoc, Nat.xor_self, Nat.zero_xor] at h2
  omega
theorem rd_set (l : List Int) (i j : Nat) (v : Int) (hi : i < l.length) : rd (l.set i v) j = if i = j then v else rd l j := by
  simp only [rd, Int.toNat_natCast, List.getD_eq_getElem?_getD, List.getElem?_set]
  by_cases h : i = j
  · subst h; simp [hi]
  · simp [h]
theorem word_eq_of (l m : List Int) (i : Nat) (hl : bytesOk l = true) (hm : bytesOk m = true) (h : wordAt l i = wordAt m i) :
    ∀ j, j < 4 → rd l ((i + j : Nat) : Int) = rd m ((i + j : Nat) : Int) := by
  have a0 := rd_byte l hl i; have a1 := rd_byte l hl (i + 1); have a2 := rd_byte l hl (i + 2); have a3 := rd_byte l hl (i + 3)
  have b0 := rd_byte m hm i; have b1 := rd_byte m hm (i + 1); have b2 := rd_byte m hm (i + 2); have b3 := rd_byte m hm (i + 3)
  unfold wordAt at h
  intro j hj
  obtain rfl | rfl | rfl | rfl : j = 0 ∨ j = 1 ∨ j = 2 ∨ j = 3 := by omega
  all_goals first | (show rd l ((i : Nat) : Int) = rd m ((i : Nat) : Int); omega) | omega
theorem word_same (l m : List Int) (i : Nat) (h : ∀ j, j < 4 → rd l ((i + j : Nat) : Int) = rd m ((i + j : Nat) : Int)) : wordAt l i = wordAt m i := by
  unfold wordAt
  have h0 := h 0 (by omega); have h1 := h 1 (by omega); have h2 := h 2 (by omega); have h3 := h 3 (by omega)
  rw [show i + 0 = i from rfl] at h0
  rw [h0, h1, h2, h3]
theorem take_set_ge (l : List Int) (i n : Nat) (v : Int) (h : n ≤ i) : (l.set i v).take n = l.take n := by
  rw [List.take_set, List.set_eq_of_length_le (by rw [List.length_take]; omega)]
theorem set_split (l : List Int) (i n : Nat) (v : Int) (hi : i < n) (hn : n ≤ l.length) : (l.set i v).take n = l.take i ++ v :: (l.take n).drop (i + 1) ∧ l.take n = l.take i ++ rd l i :: (l.take n).drop (i + 1) := by
  have hl : i < (l.take n).length := by rw [List.length_take]; omega
  have e1 : (l.take n).take i = l.take i := by rw [List.take_take, Nat.min_eq_left (by omega)]
  constructor
  · rw [List.take_set, List.set_eq_take_append_cons_drop, if_pos hl, e1]
  · have := (List.take_append_drop i (l.take n)).symm
    rw [e1, List.drop_eq_getElem_cons hl] at this
    conv => lhs; rw [this]
    have e2 : (l.take n)[i] = rd l i := by simp [rd, List.getD_eq_getElem?_getD, show i < l.length by omega]
    rw [e2]
theorem bytesOk_set' (l : List Int) (i : Nat) (v : Int) (h : bytesOk l = true) (h0 : 0 ≤ v) (h1 : v < 256) : bytesOk (l.set i v) = true := by
  unfold bytesOk at *
  rw [List.all_eq_true] at *
  intro x hx
  rcases List.mem_or_eq_of_mem_set hx with hx | rfl
  · exact h x hx
  · simp; omega
/-- A sum over a stretch that holds the turned byte is another sum. -/
theorem sum_set (l : List Int) (i n : Nat) (v : Int) (hb : bytesOk l = true) (hv : 0 ≤ v ∧ v < 256) (hi : i < n) (hn : n ≤ l.length) (hne : v ≠ rd l i) : sumW ((l.set i v).take n) ≠ sumW (l.take n) := by
  intro h
  obtain ⟨e1, e2⟩ := set_split l i n v hi hn
  have hD := bytesOk_drop (bytesOk_take hb n) (i + 1)
  obtain ⟨D, hDD⟩ : ∃ D, D = (l.take n).drop (i + 1) := ⟨_, rfl⟩
  rw [← hDD] at e1 e2 hD
  have h' : sumW (l.take i ++ v :: D) = sumW (l.take i ++ rd l i :: D) := by rw [← e1, ← e2]; exact h
  exact hne (sum_tells (l.take i) D v (rd l i) (bytesOk_take hb i) hD hv (rd_byte l hb i) h')
theorem word_set_far (l : List Int) (i : Nat) (v : Int) (p : Nat) (hi : i < l.length) (h : p + 3 < i ∨ i < p) : wordAt (l.set i v) p = wordAt l p :=
  word_same (l.set i v) l p (fun j hj => (rd_set l i (p + j) v hi).trans (if_neg (by omega)))
theorem word_set_near (l : List Int) (i : Nat) (v : Int) (p : Nat) (hb : bytesOk l = true) (hb2 : bytesOk (l.set i v) = true) (hi : i < l.length) (h : p ≤ i ∧ i < p + 4) (he : wordAt (l.set i v) p = wordAt l p) : v = rd l i := by
  have := word_eq_of (l.set i v) l p hb2 hb he (i - p) (by omega)
  rw [show p + (i - p) = i by omega, rd_set l i i v hi, if_pos rfl] at this
  exact this
end Go.Proofs.Ytdbniihjkiecbaa.PW
