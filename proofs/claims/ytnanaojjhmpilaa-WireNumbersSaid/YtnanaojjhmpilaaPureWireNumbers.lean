/- WireNumbers: for every whole number v the program's Number tells the same bytes and the same error as the document's Number; no condition. -/
import Derived.Test.YtnanaojjhmpilaaPWireNumbersx1
namespace Go.Proofs.Ytnanaojjhmpilaa.Pure
open Go.RowKit Go.Proofs.Ytnanaojjhmpilaa.PWireNumbers Go.Proofs.YtnanaojjhmpilaaW.PrintWords Go.Proofs.YtnanaojjhmpilaaW.PrintLast

theorem or128_nat : ∀ a : Fin 256, Go.bits .or .u8 (a.val : Int) 128 = (a.val : Int) % 128 + 128 := by decide +kernel

theorem or128 (x : Int) (_h0 : 0 ≤ x) : Go.bits .or .u8 (x % 256) 128 = x % 128 + 128 := by
  have h := or128_nat ⟨(x % 256).toNat, by omega⟩
  have e : (((x % 256).toNat : Nat) : Int) = x % 256 := Int.toNat_of_nonneg (by omega)
  simp only [e] at h
  rw [h]; omega

/-- The bytes of a number in its shortest form, five at most. -/
def numBytes : Nat → Int → List Int
  | 0, x => [x % 256]
  | n + 1, x => if x ≥ 128 then (x % 128 + 128) :: numBytes n (x / 128) else [x % 256]

theorem numBytes_len (n : Nat) : ∀ x, (numBytes n x).length ≤ n + 1 := by
  induction n with
  | zero => intro x; simp [numBytes]
  | succ n ih => intro x; unfold numBytes; split <;> simp; exact ih _

theorem wire_tells (n : Nat) : ∀ (k : Nat) (x : Int) (acc : List Int), n < k → 0 ≤ x → x < 128 ^ (n + 1) → acc.length + n < 140737488355328 →
    wire_Number.l0 k x acc = some (acc ++ numBytes n x, 0) := by
  induction n with
  | zero =>
    intro k x acc hk h0 h1 ha
    obtain ⟨k, rfl⟩ : ∃ m, k = m + 1 := ⟨k - 1, by omega⟩
    simp only [wire_Number.l0]
    rw [if_neg (by omega), if_pos (by omega)]
    rfl
  | succ n ih =>
    intro k x acc hk h0 h1 ha
    obtain ⟨k, rfl⟩ : ∃ m, k = m + 1 := ⟨k - 1, by omega⟩
    simp only [wire_Number.l0]
    by_cases h : x ≥ 128
    · rw [if_pos h, if_pos (by omega), or128 x h0]
      rw [ih k (x / 128) _ (by omega) (by omega) (by rw [Int.pow_succ] at h1; omega) (by simp; omega)]
      simp [numBytes, h]
    · rw [if_neg h, if_pos (by omega)]
      simp [numBytes, h]

theorem ref_tells (n : Nat) : ∀ (k : Nat) (x : Int) (acc : List Int), n < k → 0 ≤ x → x < 128 ^ (n + 1) → x ≤ 2147483647 → acc.length + n < 140737488355328 →
    heraldref2_Number.l0 k x acc = some (acc ++ numBytes n x, 0) := by
  induction n with
  | zero =>
    intro k x acc hk h0 h1 hm ha
    obtain ⟨k, rfl⟩ : ∃ m, k = m + 1 := ⟨k - 1, by omega⟩
    simp only [heraldref2_Number.l0]
    rw [if_neg (by omega), if_pos (by omega)]
    rfl
  | succ n ih =>
    intro k x acc hk h0 h1 hm ha
    obtain ⟨k, rfl⟩ : ∃ m, k = m + 1 := ⟨k - 1, by omega⟩
    simp only [heraldref2_Number.l0]
    have e1 : wrap64 (Int.tdiv x 128) = x / 128 := by rw [Int.tdiv_eq_ediv_of_nonneg h0]; unfold wrap64; omega
    have e2 : (wrap64 ((Int.tmod x 128) + 128)) % 256 = x % 128 + 128 := by rw [Int.tmod_eq_emod_of_nonneg h0]; unfold wrap64; omega
    by_cases h : x > 127
    · rw [if_pos h, if_pos (by omega), e1, e2]
      rw [ih k (x / 128) _ (by omega) (by omega) (by rw [Int.pow_succ] at h1; omega) (by omega) (by simp; omega)]
      have h' : x ≥ 128 := by omega
      simp [numBytes, h']
    · rw [if_neg h, if_pos (by omega)]
      have h' : ¬ x ≥ 128 := by omega
      simp [numBytes, h']

theorem same_self (d : Nat) : ∀ (k : Nat) (l : List Int) (i : Int), 0 ≤ i → i ≤ l.length → (l.length : Int) - i = d → d < k → l.length ≤ 100000000000 → heraldlaw2_same.l0 k l l i = some true := by
  induction d with
  | zero =>
    intro k l i h0 h1 hd hk hl
    obtain ⟨k, rfl⟩ : ∃ m, k = m + 1 := ⟨k - 1, by omega⟩
    simp only [heraldlaw2_same.l0]; rw [if_neg (by omega)]
  | succ d ih =>
    intro k l i h0 h1 hd hk hl
    obtain ⟨k, rfl⟩ : ∃ m, k = m + 1 := ⟨k - 1, by omega⟩
    simp only [heraldlaw2_same.l0]; rw [if_pos (by omega), if_pos h0, if_pos (by omega), if_pos trivial]
    have e : wrap64 (i + 1) = i + 1 := by unfold wrap64; omega
    rw [e]; exact ih k l (i + 1) (by omega) (by omega) (by omega) (by omega) hl

theorem number_both (k : Nat) (hk : 20 ≤ k) (v : Int) : ∃ l e, wire_Number.f k v = some (l, e) ∧ heraldref2_Number.f k v = some (l, e) ∧ l.length ≤ 5 := by
  obtain ⟨k, rfl⟩ : ∃ m, k = m + 1 := ⟨k - 1, by omega⟩
  unfold wire_Number.f heraldref2_Number.f
  by_cases h0 : v < 0
  · exact ⟨[], 3, by rw [if_pos h0]; simp [wire_Number.j0], by rw [if_pos h0]; simp [heraldref2_Number.j0], by simp⟩
  · by_cases h1 : v > 2147483647
    · exact ⟨[], 3, by rw [if_neg h0]; simp [wire_Number.j0, h1], by rw [if_neg h0]; simp [heraldref2_Number.j0, h1], by simp⟩
    · refine ⟨numBytes 4 v, 0, ?_, ?_, numBytes_len 4 v⟩
      · rw [if_neg h0]; simp only [wire_Number.j0, h1, decide_false, Bool.false_eq_true, if_false]
        rw [wire_tells 4 k v [] (by omega) (by omega) (by simp; omega) (by simp)]; rfl
      · rw [if_neg h0]; simp only [heraldref2_Number.j0, h1, decide_false, Bool.false_eq_true, if_false]
        rw [ref_tells 4 k v [] (by omega) (by omega) (by simp; omega) (by omega) (by simp)]; rfl

/-- The statement over numbers and lists. -/
theorem WireNumbers : heraldlaw2_WireNumbers.Pure := by
  intro v hv
  refine ⟨30, ?_⟩
  obtain ⟨l, e, h1, h2, hl⟩ := number_both 30 (by omega) v
  unfold heraldlaw2_WireNumbers.f
  rw [h1, h2]
  have h3 : wire_Number.f 30 300 = some ([172, 2], 0) := by decide +kernel
  rw [h3]
  simp only [Option.bind_some]
  unfold heraldlaw2_same.f heraldlaw2_num.f
  rw [if_pos rfl, same_self l.length 30 l 0 (by omega) (by omega) (by omega) (by omega) (by omega)]
  simp

end Go.Proofs.Ytnanaojjhmpilaa.Pure
