/- WireTexts: for every text, the texts about the greatest length too, the program's Text tells the same bytes and the same error as the document's Text; no condition. -/
import Derived.Test.YtnanaojjhmpilaaPWireTextsx2
namespace Go.Proofs.Ytnanaojjhmpilaa.Pure
open Go.RowKit Go.Proofs.Ytnanaojjhmpilaa.PWireTexts Go.Proofs.YtnanaojjhmpilaaW.PrintWords Go.Proofs.YtnanaojjhmpilaaW.PrintLast

theorem or128_nat : ∀ a : Fin 256, Go.bits .or .u8 (a.val : Int) 128 = (a.val : Int) % 128 + 128 := by decide +kernel

theorem or128 (x : Int) (_h0 : 0 ≤ x) : Go.bits .or .u8 (x % 256) 128 = x % 128 + 128 := by
  have h := or128_nat ⟨(x % 256).toNat, by omega⟩
  have e : (((x % 256).toNat : Nat) : Int) = x % 256 := Int.toNat_of_nonneg (by omega)
  simp only [e] at h
  rw [h]; omega

/-- The bytes of a number in its shortest form, five at most. -/
def numBytes : Nat → Int → List Int
  | 0, x => [x % 256]
  | n + 1, x => if x ≥ 128 then (x % 128 + 128) :: numBytes n (x / 128) else [x % 256]

theorem numBytes_len (n : Nat) : ∀ x, (numBytes n x).length ≤ n + 1 := by
  induction n with
  | zero => intro x; simp [numBytes]
  | succ n ih => intro x; unfold numBytes; split <;> simp; exact ih _

theorem wire_tells (n : Nat) : ∀ (k : Nat) (x : Int) (acc : List Int), n < k → 0 ≤ x → x < 128 ^ (n + 1) → acc.length + n < 140737488355328 →
    wire_Number.l0 k x acc = some (acc ++ numBytes n x, 0) := by
  induction n with
  | zero =>
    intro k x acc hk h0 h1 ha
    obtain ⟨k, rfl⟩ : ∃ m, k = m + 1 := ⟨k - 1, by omega⟩
    simp only [wire_Number.l0]
    rw [if_neg (by omega), if_pos (by omega)]
    rfl
  | succ n ih =>
    intro k x acc hk h0 h1 ha
    obtain ⟨k, rfl⟩ : ∃ m, k = m + 1 := ⟨k - 1, by omega⟩
    simp only [wire_Number.l0]
    by_cases h : x ≥ 128
    · rw [if_pos h, if_pos (by omega), or128 x h0]
      rw [ih k (x / 128) _ (by omega) (by omega) (by rw [Int.pow_succ] at h1; omega) (by simp; omega)]
      simp [numBytes, h]
    · rw [if_neg h, if_pos (by omega)]
      simp [numBytes, h]

theorem ref_tells (n : Nat) : ∀ (k : Nat) (x : Int) (acc : List Int), n < k → 0 ≤ x → x < 128 ^ (n + 1) → x ≤ 2147483647 → acc.length + n < 140737488355328 →
    heraldref2_Number.l0 k x acc = some (acc ++ numBytes n x, 0) := by
  induction n with
  | zero =>
    intro k x acc hk h0 h1 hm ha
    obtain ⟨k, rfl⟩ : ∃ m, k = m + 1 := ⟨k - 1, by omega⟩
    simp only [heraldref2_Number.l0]
    rw [if_neg (by omega), if_pos (by omega)]
    rfl
  | succ n ih =>
    intro k x acc hk h0 h1 hm ha
    obtain ⟨k, rfl⟩ : ∃ m, k = m + 1 := ⟨k - 1, by omega⟩
    simp only [heraldref2_Number.l0]
    have e1 : wrap64 (Int.tdiv x 128) = x / 128 := by rw [Int.tdiv_eq_ediv_of_nonneg h0]; unfold wrap64; omega
    have e2 : (wrap64 ((Int.tmod x 128) + 128)) % 256 = x % 128 + 128 := by rw [Int.tmod_eq_emod_of_nonneg h0]; unfold wrap64; omega
    by_cases h : x > 127
    · rw [if_pos h, if_pos (by omega), e1, e2]
      rw [ih k (x / 128) _ (by omega) (by omega) (by rw [Int.pow_succ] at h1; omega) (by omega) (by simp; omega)]
      have h' : x ≥ 128 := by omega
      simp [numBytes, h']
    · rw [if_neg h, if_pos (by omega)]
      have h' : ¬ x ≥ 128 := by omega
      simp [numBytes, h']

theorem same_self (d : Nat) : ∀ (k : Nat) (l : List Int) (i : Int), 0 ≤ i → i ≤ l.length → (l.length : Int) - i = d → d < k → l.length ≤ 100000000000 → heraldlaw2_same.l0 k l l i = some true := by
  induction d with
  | zero =>
    intro k l i h0 h1 hd hk hl
    obtain ⟨k, rfl⟩ : ∃ m, k = m + 1 := ⟨k - 1, by omega⟩
    simp only [heraldlaw2_same.l0]; rw [if_neg (by omega)]
  | succ d ih =>
    intro k l i h0 h1 hd hk hl
    obtain ⟨k, rfl⟩ : ∃ m, k = m + 1 := ⟨k - 1, by omega⟩
    simp only [heraldlaw2_same.l0]; rw [if_pos (by omega), if_pos h0, if_pos (by omega), if_pos trivial]
    have e : wrap64 (i + 1) = i + 1 := by unfold wrap64; omega
    rw [e]; exact ih k l (i + 1) (by omega) (by omega) (by omega) (by omega) hl

theorem number_both (k : Nat) (hk : 20 ≤ k) (v : Int) : ∃ l e, wire_Number.f k v = some (l, e) ∧ heraldref2_Number.f k v = some (l, e) ∧ l.length ≤ 5 := by
  obtain ⟨k, rfl⟩ : ∃ m, k = m + 1 := ⟨k - 1, by omega⟩
  unfold wire_Number.f heraldref2_Number.f
  by_cases h0 : v < 0
  · exact ⟨[], 3, by rw [if_pos h0]; simp [wire_Number.j0], by rw [if_pos h0]; simp [heraldref2_Number.j0], by simp⟩
  · by_cases h1 : v > 2147483647
    · exact ⟨[], 3, by rw [if_neg h0]; simp [wire_Number.j0, h1], by rw [if_neg h0]; simp [heraldref2_Number.j0, h1], by simp⟩
    · refine ⟨numBytes 4 v, 0, ?_, ?_, numBytes_len 4 v⟩
      · rw [if_neg h0]; simp only [wire_Number.j0, h1, decide_false, Bool.false_eq_true, if_false]
        rw [wire_tells 4 k v [] (by omega) (by omega) (by simp; omega) (by simp)]; rfl
      · rw [if_neg h0]; simp only [heraldref2_Number.j0, h1, decide_false, Bool.false_eq_true, if_false]
        rw [ref_tells 4 k v [] (by omega) (by omega) (by simp; omega) (by omega) (by simp)]; rfl


theorem text_both (k : Nat) (hk : 20 ≤ k) (s : ByteArray) (hs : s.size ≤ 300000) : ∃ l e, wire_Text.f k s = some (l, e) ∧ heraldref2_Text.f k s = some (l, e) ∧ l.length ≤ 300010 := by
  unfold wire_Text.f heraldref2_Text.f
  by_cases h : (s.size : Int) > 262144
  · exact ⟨[], 2, by rw [if_pos h], by rw [if_pos h], by simp⟩
  · obtain ⟨k, rfl⟩ : ∃ m, k = m + 1 := ⟨k - 1, by omega⟩
    have hw : wire_Number.f (k + 1) (s.size : Int) = some (numBytes 4 s.size, 0) := by
      unfold wire_Number.f
      rw [if_neg (by omega)]
      have h1 : ¬ (s.size : Int) > 2147483647 := by omega
      simp only [wire_Number.j0, h1, decide_false, Bool.false_eq_true, if_false]
      rw [wire_tells 4 k s.size [] (by omega) (by omega) (by simp; omega) (by simp)]; rfl
    have hr : heraldref2_Number.f (k + 1) (s.size : Int) = some (numBytes 4 s.size, 0) := by
      unfold heraldref2_Number.f
      rw [if_neg (by omega)]
      have h1 : ¬ (s.size : Int) > 2147483647 := by omega
      simp only [heraldref2_Number.j0, h1, decide_false, Bool.false_eq_true, if_false]
      rw [ref_tells 4 k s.size [] (by omega) (by omega) (by simp; omega) (by omega) (by simp)]; rfl
    have hl := numBytes_len 4 (s.size : Int)
    refine ⟨numBytes 4 s.size ++ bytesOf s, 0, ?_, ?_, ?_⟩
    · rw [if_neg h, hw]; simp only [Option.bind_some]; rw [if_pos (by omega)]
    · rw [if_neg h, hr]; simp only [Option.bind_some]; rw [if_pos (by omega)]
    · rw [List.length_append, bytesOf_length]; omega

theorem tail_true (k : Nat) (hk : 400000 ≤ k) (s : ByteArray) (hs : s.size ≤ 300000) : heraldlaw2_WireTexts.j1 k s = some true := by
  obtain ⟨k, rfl⟩ : ∃ m, k = m + 1 := ⟨k - 1, by omega⟩
  obtain ⟨l, e, h1, h2, hl⟩ := text_both k (by omega) s hs
  have h3 : wire_Text.f k (⟨#[97, 98]⟩ : ByteArray) = some ([2, 97, 98], 0) := at_rounds (g := fun n => wire_Text.f n (⟨#[97, 98]⟩ : ByteArray)) (wire_Text.mono _) (k := 3) (by omega) (by decide +kernel)
  simp only [heraldlaw2_WireTexts.j1]
  rw [h1, h2, h3]
  simp only [Option.bind_some]
  unfold heraldlaw2_same.f heraldlaw2_num.f
  rw [if_pos rfl, same_self l.length k l 0 (by omega) (by omega) (by omega) (by omega) (by omega)]
  simp

theorem strOfNums_size (l : List Int) : (strOfNums l).size = l.length := by
  unfold strOfNums; simp [ByteArray.size]

/-- The statement over numbers and lists. -/
theorem WireTexts : heraldlaw2_WireTexts.Pure := by
  intro s long hs hw
  refine ⟨500000 + 1, ?_⟩
  generalize hk : 500000 = k
  unfold heraldlaw2_WireTexts.f
  by_cases h0 : (s.size : Int) > 20000
  · rw [if_pos h0]
  · rw [if_neg h0]
    by_cases h1 : long ≥ 0
    · rw [if_pos h1]
      simp only [heraldlaw2_WireTexts.j0]
      by_cases h2 : long ≤ 3
      · have e : wrap64 ((wrap64 (262143 + long)) - ((s.size : Int) % 2)) = 262143 + long - (s.size : Int) % 2 := by unfold wrap64; omega
        simp only [h2, decide_true, if_true]
        rw [e, if_pos (by omega), if_pos (by omega)]
        exact tail_true k (by omega) _ (by rw [strOfNums_size, List.length_replicate]; omega)
      · simp only [h2, decide_false, Bool.false_eq_true, if_false]
        exact tail_true k (by omega) _ (by omega)
    · rw [if_neg h1]
      simp only [heraldlaw2_WireTexts.j0, Bool.false_eq_true, if_false]
      exact tail_true k (by omega) _ (by omega)

end Go.Proofs.Ytnanaojjhmpilaa.Pure
