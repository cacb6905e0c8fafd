/- Frames and what is read out of them, in plain lists of bytes. -/
import Derived.Test.YtdbniihjkiecbaaK3
namespace Go.Proofs.Ytdbniihjkiecbaa.PW
open Go.RowKit Go.Proofs.YtdbniihjkiecbaaW.PrintWords Go.Proofs.YtdbniihjkiecbaaW.PrintLast Go.Proofs.YtdbniihjkiecbaaW.PrintMore
set_option linter.unusedVariables false
set_option linter.unusedSimpArgs false

theorem bytesOk_append {a b : List Int} (ha : bytesOk a = true) (hb : bytesOk b = true) : bytesOk (a ++ b) = true := by
  unfold bytesOk at *
  rw [List.all_append, ha, hb]; rfl
theorem four4_ok (v : Int) : bytesOk (four4 v) = true := by
  unfold four4 bytesOk
  simp
  omega
theorem four4_len (v : Int) : (four4 v).length = 4 := rfl
theorem numBytes_ok (n : Nat) : ∀ x : Int, 0 ≤ x → bytesOk (numBytes n x) = true := by
  induction n with
  | zero => intro x h; unfold numBytes bytesOk; simp; omega
  | succ n ih =>
    intro x h
    unfold numBytes
    split
    · have := ih (x / 128) (by omega)
      unfold bytesOk at *
      rw [List.all_cons, this]
      simp; omega
    · unfold bytesOk; simp; omega
/-- A number that was written is read again. -/
theorem rnGo_bytes (a : Int) (t : List Int) (n : Nat) : ∀ (i : Nat) (acc x : Int), 0 ≤ x → x < 128 ^ (n + 1) → (x > 0 ∨ i = 0) → 0 ≤ acc → acc + x * 128 ^ i ≤ 2147483647 →
    rnGo a (n + 1) (i : Int) acc (numBytes n x ++ t) = (acc + x * 128 ^ i, a + i + (numBytes n x).length, 0) := by
  induction n with
  | zero =>
    intro i acc x h0 h1 hx ha hm
    have hx2 : x < 128 := by simpa using h1
    have e : x % 256 = x := by omega
    have e2 : x % 128 = x := by omega
    simp only [numBytes, List.cons_append, List.nil_append, rnGo, e, e2, Int.toNat_natCast, List.length_cons, List.length_nil]
    rw [if_neg (by omega), if_neg (by omega)]
    simp
  | succ n ih =>
    intro i acc x h0 h1 hx ha hm
    by_cases hb : x ≥ 128
    · have e : numBytes (n + 1) x = (x % 128 + 128) :: numBytes n (x / 128) := by rw [numBytes, if_pos hb]
      rw [e, List.cons_append, rnGo, if_pos (by omega), Int.toNat_natCast]
      have e2 : (x % 128 + 128) % 128 = x % 128 := by omega
      have e3 : acc + x % 128 * 128 ^ i + x / 128 * 128 ^ (i + 1) = acc + x * 128 ^ i := by
        have hx3 : x = x % 128 + x / 128 * 128 := by omega
        conv => rhs; rw [hx3, Int.add_mul]
        rw [Int.pow_succ, Int.mul_assoc (x / 128) 128, Int.mul_comm 128 (128 ^ i)]
        omega
      have hp : (0 : Int) ≤ x % 128 * 128 ^ i := Int.mul_nonneg (by omega) (Int.pow_nonneg (by decide))
      have := ih (i + 1) (acc + x % 128 * 128 ^ i) (x / 128) (by omega) (by rw [Int.pow_succ] at h1; omega) (.inl (by omega)) (by omega) (by rw [e3]; exact hm)
      rw [e2, show (i : Int) + 1 = ((i + 1 : Nat) : Int) from rfl, this, e3, List.length_cons]
      simp
      omega
    · have e : numBytes (n + 1) x = [x % 256] := by rw [numBytes, if_neg hb]
      have e1 : x % 256 = x := by omega
      have e2 : x % 128 = x := by omega
      rw [e]
      simp only [List.cons_append, List.nil_append, rnGo, e1, e2, Int.toNat_natCast, List.length_cons, List.length_nil]
      rw [if_neg (by omega), if_neg (by omega)]
      simp
theorem readNum_written (pre post : List Int) (v : Int) (h0 : 0 ≤ v) (h1 : v ≤ 2147483647) :
    readNum (pre ++ (numBytes 4 v ++ post)) (pre.length : Int) = (v, ((pre.length + (numBytes 4 v).length : Nat) : Int), 0) := by
  unfold readNum
  rw [if_neg (by rw [List.length_append]; omega), Int.toNat_natCast, List.drop_left]
  have := rnGo_bytes (pre.length : Int) post 4 0 0 v h0 (by simp; omega) (.inr rfl) (by omega) (by simp; omega)
  simp at this
  rw [this]
  simp
theorem readText_written (pre post : List Int) (s : List Int) (h : s.length ≤ 262144) :
    readText (pre ++ ((numBytes 4 s.length ++ s) ++ post)) (pre.length : Int) = (s, ((pre.length + (numBytes 4 s.length ++ s).length : Nat) : Int), 0) := by
  have hr := readNum_written pre (s ++ post) (s.length : Int) (by omega) (by omega)
  rw [List.append_assoc]
  unfold readText
  rw [hr]
  simp only []
  rw [if_neg (by simp), if_neg (by omega), if_neg (by simp only [List.length_append]; omega)]
  have e1 : (((pre.length + (numBytes 4 (s.length : Int)).length : Nat) : Int) + (s.length : Int)).toNat = (pre ++ (numBytes 4 s.length ++ s)).length := by simp only [List.length_append]; omega
  have e2 : (((pre.length + (numBytes 4 (s.length : Int)).length : Nat) : Int)).toNat = (pre ++ numBytes 4 s.length).length := by simp only [List.length_append]; omega
  have e3 : pre ++ (numBytes 4 (s.length : Int) ++ (s ++ post)) = (pre ++ (numBytes 4 (s.length : Int) ++ s)) ++ post := by simp [List.append_assoc]
  have e4 : pre ++ (numBytes 4 (s.length : Int) ++ s) = (pre ++ numBytes 4 (s.length : Int)) ++ s := by simp [List.append_assoc]
  rw [e1, e2, e3, List.take_left, e4, List.drop_left]
  simp only [List.length_append, Prod.mk.injEq, true_and, and_true]
  omega
theorem bytesOf_ok (s : ByteArray) : bytesOk (bytesOf s) = true := by
  unfold bytesOk bytesOf
  rw [List.all_eq_true]
  intro x hx
  simp only [List.mem_map] at hx
  obtain ⟨b, _, rfl⟩ := hx
  have := b.toNat_lt
  simp; omega
theorem bytesOf_str (l : List Int) (hb : bytesOk l = true) : bytesOf (strOfNums l) = l := by
  unfold bytesOf strOfNums
  simp only [List.map_map]
  conv => rhs; rw [← List.map_id l]
  apply List.map_congr_left
  intro x hx
  unfold bytesOk at hb
  rw [List.all_eq_true] at hb
  have := hb x hx
  simp at this
  simp
  omega
end Go.Proofs.Ytdbniihjkiecbaa.PW
