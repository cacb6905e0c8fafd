/- The check sum half a byte at a time is the one bit by bit; words of four bytes as plain numbers. -/
import Derived.Test.YtdbniihjkiecbaaK2
namespace Go.Proofs.Ytdbniihjkiecbaa.PW
open Go.RowKit Go.Proofs.YtdbniihjkiecbaaW.PrintWords Go.Proofs.YtdbniihjkiecbaaW.PrintLast Go.Proofs.YtdbniihjkiecbaaW.PrintMore
set_option linter.unusedVariables false
set_option linter.unusedSimpArgs false

theorem bits_xor_nat (k : IntKind) (j : Nat) (hj : j ≤ k.bits) (hk : ∀ n : Int, 0 ≤ n → n < 2 ^ j → k.wrap n = n) (a b : Nat) (ha : a < 2 ^ j) (hb : b < 2 ^ j) :
    Go.bits .xor k a b = ((a ^^^ b : Nat) : Int) := by
  have hp : 2 ^ j ≤ 2 ^ k.bits := Nat.pow_le_pow_right (by decide) hj
  have ha' : a % 2 ^ k.bits = a := Nat.mod_eq_of_lt (Nat.lt_of_lt_of_le ha hp)
  have hb' : b % 2 ^ k.bits = b := Nat.mod_eq_of_lt (Nat.lt_of_lt_of_le hb hp)
  simp only [Go.bits, BitVec.ofInt_natCast, BitVec.toNat_xor, BitVec.toNat_ofNat, ha', hb']
  exact hk _ (Int.natCast_nonneg _) (by exact_mod_cast Nat.xor_lt_two_pow ha hb)
theorem wr_u32 (n : Int) (h0 : 0 ≤ n) (h1 : n < 2 ^ 32) : IntKind.u32.wrap n = n := by rw [IntKind.wrap_u32]; omega
theorem wr_i64 (n : Int) (h0 : 0 ≤ n) (h1 : n < 2 ^ 63) : IntKind.i64.wrap n = n := by rw [IntKind.wrap_i64]; omega
def tabN : List Nat := [0, 498536548, 997073096, 651767980, 1994146192, 1802195444, 1303535960, 1342533948, 3988292384, 4027552580, 3604390888, 3412177804, 2607071920, 2262029012, 2685067896, 3183342108]
def halfN (r : Nat) : Nat := r / 16 ^^^ tabN.getD (r % 16) 0
theorem tabN_lt (j : Nat) : tabN.getD j 0 < 2 ^ 32 := by
  by_cases h : j < 16
  · have : ∀ k : Fin 16, tabN.getD k.val 0 < 2 ^ 32 := by decide
    exact this ⟨j, h⟩
  · have e : tabN[j]? = none := List.getElem?_eq_none (by show 16 ≤ j; omega)
    rw [List.getD_eq_getElem?_getD, e]; decide
theorem halfN_lt (r : Nat) (h : r < 2 ^ 32) : halfN r < 2 ^ 32 := Nat.xor_lt_two_pow (by omega) (tabN_lt _)
theorem tab_eq (j : Nat) (h : j < 16) : rd tab16 (j : Int) = (tabN.getD j 0 : Nat) := by
  have : ∀ k : Fin 16, rd tab16 (k.val : Int) = (tabN.getD k.val 0 : Nat) := by decide
  exact this ⟨j, h⟩
theorem half_nat (r : Nat) (h : r < 2 ^ 32) : half (r : Int) = (halfN r : Nat) := by
  unfold half halfN
  rw [and15_nat r h, tab_eq _ (by omega), show ((r : Int) / 16) = ((r / 16 : Nat) : Int) by omega]
  exact bits_xor_nat .u32 32 (by decide) wr_u32 _ _ (by omega) (tabN_lt _)
/-- The register behind bytes, on natural numbers. -/
def sumFromN : Nat → List Int → Nat
  | r, [] => r
  | r, b :: l => sumFromN (halfN (halfN (r ^^^ b.toNat))) l
theorem bytesOk_cons {b : Int} {l : List Int} (h : bytesOk (b :: l) = true) : 0 ≤ b ∧ b < 256 ∧ bytesOk l = true := by
  unfold bytesOk at h
  rw [List.all_cons] at h
  simp only [Bool.and_eq_true, decide_eq_true_eq] at h
  exact ⟨h.1.1, h.1.2, h.2⟩
theorem sumFrom_nat (l : List Int) : ∀ (r : Nat), r < 2 ^ 32 → bytesOk l = true → sumFrom (r : Int) l = (sumFromN r l : Nat) ∧ sumFromN r l < 2 ^ 32 := by
  induction l with
  | nil => intro r h _; exact ⟨rfl, h⟩
  | cons b l ih =>
    intro r h hb
    obtain ⟨h0, h1, hl⟩ := bytesOk_cons hb
    have e : Go.bits .xor .u32 (r : Int) (b % 4294967296) = ((r ^^^ b.toNat : Nat) : Int) := by
      rw [show b % 4294967296 = ((b.toNat : Nat) : Int) by omega]
      exact bits_xor_nat .u32 32 (by decide) wr_u32 _ _ h (by omega)
    have hx : r ^^^ b.toNat < 2 ^ 32 := Nat.xor_lt_two_pow h (by omega)
    rw [sumFrom, sumFromN, e, half_nat _ hx, half_nat _ (halfN_lt _ hx)]
    exact ih _ (halfN_lt _ (halfN_lt _ hx)) hl
theorem sumW_nat (l : List Int) (h : bytesOk l = true) : sumW l = ((4294967295 ^^^ sumFromN 4294967295 l : Nat) : Int) ∧ 4294967295 ^^^ sumFromN 4294967295 l < 2 ^ 32 := by
  obtain ⟨e, hlt⟩ := sumFrom_nat l 4294967295 (by decide) h
  unfold sumW
  rw [show (4294967295 : Int) = ((4294967295 : Nat) : Int) from rfl, e]
  exact ⟨bits_xor_nat .u32 32 (by decide) wr_u32 _ _ (by decide) hlt, Nat.xor_lt_two_pow (by decide) hlt⟩
theorem sumW_range (l : List Int) (h : bytesOk l = true) : 0 ≤ sumW l ∧ sumW l < 4294967296 := by
  obtain ⟨e, hlt⟩ := sumW_nat l h
  rw [e]; omega

theorem word_join (k : IntKind) (hk : 32 ≤ k.bits) (hw : ∀ n : Int, 0 ≤ n → n < 2 ^ 32 → k.wrap n = n) (a b c d : Int) (ha : 0 ≤ a ∧ a < 256) (hb : 0 ≤ b ∧ b < 256) (hc : 0 ≤ c ∧ c < 256) (hd : 0 ≤ d ∧ d < 256) :
    Go.bits .or k (Go.bits .or k (Go.bits .or k (a * 16777216) (b * 65536)) (c * 256)) d = a * 16777216 + b * 65536 + c * 256 + d := by
  rw [bits_join k 32 hk hw 24 (a * 16777216) (b * 65536) (by omega) (by omega) (by omega) (by omega) (by omega) (by omega)]
  rw [bits_join k 32 hk hw 16 (a * 16777216 + b * 65536) (c * 256) (by omega) (by omega) (by omega) (by omega) (by omega) (by omega)]
  rw [bits_join k 32 hk hw 8 (a * 16777216 + b * 65536 + c * 256) d (by omega) (by omega) (by omega) (by omega) (by omega) (by omega)]
theorem or128_nat : ∀ a : Fin 256, Go.bits .or .u8 (a.val : Int) 128 = (a.val : Int) % 128 + 128 := by decide +kernel

theorem or128 (x : Int) (_h0 : 0 ≤ x) : Go.bits .or .u8 (x % 256) 128 = x % 128 + 128 := by
  have h := or128_nat ⟨(x % 256).toNat, by omega⟩
  have e : (((x % 256).toNat : Nat) : Int) = x % 256 := Int.toNat_of_nonneg (by omega)
  simp only [e] at h
  rw [h]; omega

/-- The bytes of a number in its shortest form, five at most. -/
def numBytes : Nat → Int → List Int
  | 0, x => [x % 256]
  | n + 1, x => if x ≥ 128 then (x % 128 + 128) :: numBytes n (x / 128) else [x % 256]

theorem numBytes_len (n : Nat) : ∀ x, (numBytes n x).length ≤ n + 1 := by
  induction n with
  | zero => intro x; simp [numBytes]
  | succ n ih => intro x; unfold numBytes; split <;> simp; exact ih _

/-- A number's bytes, or the error; a text's. -/
def numEnc (v : Int) : List Int × Int := if v < 0 ∨ v > 2147483647 then ([], 3) else (numBytes 4 v, 0)
def textEnc (s : ByteArray) : List Int × Int := if (s.size : Int) > 262144 then ([], 2) else (numBytes 4 s.size ++ bytesOf s, 0)
end Go.Proofs.Ytdbniihjkiecbaa.PW
