/- What a number and a text on bytes read as, in plain arithmetic. -/
import Derived.Test.YtdbniihjkiecbaaK
namespace Go.Proofs.Ytdbniihjkiecbaa.PW
open Go.RowKit Go.Proofs.YtdbniihjkiecbaaW.PrintWords Go.Proofs.YtdbniihjkiecbaaW.PrintLast Go.Proofs.YtdbniihjkiecbaaW.PrintMore
set_option linter.unusedVariables false
set_option linter.unusedSimpArgs false

def tab16 : List Int := [0, 498536548, 997073096, 651767980, 1994146192, 1802195444, 1303535960, 1342533948, 3988292384, 4027552580, 3604390888, 3412177804, 2607071920, 2262029012, 2685067896, 3183342108]
def half (r : Int) : Int := Go.bits .xor .u32 (r / 16) (rd tab16 (Go.bits .and .u32 r 15))
def sumFrom : Int → List Int → Int
  | r, [] => r
  | r, b :: l => sumFrom (half (half (Go.bits .xor .u32 r (b % 4294967296)))) l
theorem and15_nat (a : Nat) (h : a < 2 ^ 32) : Go.bits .and .u32 a 15 = ((a % 16 : Nat) : Int) := by
  have := (bits_nat .u32 32 (by decide) (fun n h0 h1 => by rw [IntKind.wrap_u32]; omega) a 15 h (by decide)).1
  rw [show ((15 : Nat) : Int) = 15 from rfl] at this
  rw [this, Nat.and_two_pow_sub_one_eq_mod a 4]
theorem and15 (x : Int) : 0 ≤ Go.bits .and .u32 x 15 ∧ Go.bits .and .u32 x 15 < 16 := by
  have e : Go.bits .and .u32 x 15 = Go.bits .and .u32 (((BitVec.ofInt 32 x).toNat : Nat) : Int) 15 := by
    unfold Go.bits
    have h : BitVec.ofInt 32 (((BitVec.ofInt 32 x).toNat : Nat) : Int) = BitVec.ofInt 32 x := by
      rw [BitVec.ofInt_natCast]; exact BitVec.eq_of_toNat_eq (by rw [BitVec.toNat_ofNat]; exact Nat.mod_eq_of_lt (BitVec.isLt _))
    show IntKind.u32.wrap _ = IntKind.u32.wrap _
    simp only [IntKind.bits, h]
  rw [e, and15_nat _ (BitVec.isLt _)]; omega
theorem rd_tab16 (j : Int) (h0 : 0 ≤ j) (h1 : j < 16) : (nums .u32 tab16).toArray[j.toNat]? = some (.int .u32 (rd tab16 j)) := by
  have : ∀ k : Nat, k < 16 → (nums .u32 tab16).toArray[k]? = some (.int .u32 (tab16.getD k 0)) := by
    intro k hk
    have : k = 0 ∨ k = 1 ∨ k = 2 ∨ k = 3 ∨ k = 4 ∨ k = 5 ∨ k = 6 ∨ k = 7 ∨ k = 8 ∨ k = 9 ∨ k = 10 ∨ k = 11 ∨ k = 12 ∨ k = 13 ∨ k = 14 ∨ k = 15 := by omega
    rcases this with rfl | rfl | rfl | rfl | rfl | rfl | rfl | rfl | rfl | rfl | rfl | rfl | rfl | rfl | rfl | rfl <;> rfl
  exact this _ (by omega)


/-- The sum, as the program reckons it; a word of four bytes; a frame. -/
def sumW (l : List Int) : Int := Go.bits .xor .u32 4294967295 (sumFrom 4294967295 l)
def four4 (v : Int) : List Int := [(v / 16777216) % 256, (v / 65536) % 256, (v / 256) % 256, v % 256]
/-- Reading a number, as arithmetic: five digits of 128 at most. -/
def rnGo (at_ : Int) : Nat → Int → Int → List Int → Int × Int × Int
  | 0, _, _, _ => (0, 0, 20)
  | _ + 1, _, _, [] => (0, 0, 21)
  | n + 1, i, v, b :: t =>
    if b ≥ 128 then rnGo at_ n (i + 1) (v + b % 128 * 128 ^ i.toNat) t
    else if (b = 0 ∧ i > 0) ∨ v + b % 128 * 128 ^ i.toNat > 2147483647 then (0, 0, 20)
    else (v + b % 128 * 128 ^ i.toNat, at_ + i + 1, 0)
def readNum (l : List Int) (at_ : Int) : Int × Int × Int :=
  if at_ < 0 ∨ at_ > l.length then (0, 0, 1) else rnGo at_ 5 0 0 (l.drop at_.toNat)
def bytesOk (l : List Int) : Bool := l.all fun b => decide (0 ≤ b) && decide (b < 256)
theorem bytesOk_rd {l : List Int} (h : bytesOk l = true) (i : Nat) (hi : i < l.length) : 0 ≤ rd l i ∧ rd l i < 256 := by
  unfold bytesOk at h
  rw [List.all_eq_true] at h
  have := h l[i] (List.getElem_mem hi)
  simp at this
  simp [rd, hi]; omega
theorem bytesOk_drop {l : List Int} (h : bytesOk l = true) (i : Nat) : bytesOk (l.drop i) = true := by
  unfold bytesOk at *
  rw [List.all_eq_true] at *
  exact fun x hx => h x (List.mem_of_mem_drop hx)
theorem bytesOk_take {l : List Int} (h : bytesOk l = true) (i : Nat) : bytesOk (l.take i) = true := by
  unfold bytesOk at *
  rw [List.all_eq_true] at *
  exact fun x hx => h x (List.mem_of_mem_take hx)
/-- The digit of a byte, shifted to its place and joined. -/
theorem digit_join (v b : Int) (i : Nat) (hi : i < 5) (hv : 0 ≤ v) (hv1 : v < 128 ^ i) :
    Go.bits .or .i64 v (b % 128 * 128 ^ i) = v + b % 128 * 128 ^ i := by
  have h1 : (0 : Int) ≤ b % 128 := by omega
  have h2 : b % 128 < 128 := by omega
  have e : Go.bits .or .i64 v (b % 128 * 128 ^ i) = Go.bits .or .i64 (b % 128 * 128 ^ i) v := by
    unfold Go.bits; simp only [BitVec.or_comm]
  rw [e]
  have hw : ∀ n : Int, 0 ≤ n → n < 2 ^ 35 → IntKind.i64.wrap n = n := fun n h0 h1 => by rw [IntKind.wrap_i64]; omega
  have hb : b % 128 * 128 ^ i < 2 ^ 35 := by
    obtain rfl | rfl | rfl | rfl | rfl : i = 0 ∨ i = 1 ∨ i = 2 ∨ i = 3 ∨ i = 4 := by omega
    all_goals simp; omega
  have h0 : 0 ≤ b % 128 * 128 ^ i := by
    obtain rfl | rfl | rfl | rfl | rfl : i = 0 ∨ i = 1 ∨ i = 2 ∨ i = 3 ∨ i = 4 := by omega
    all_goals simp; omega
  have := bits_join .i64 35 (by decide) hw (7 * i) (b % 128 * 128 ^ i) v h0 (by
    obtain rfl | rfl | rfl | rfl | rfl : i = 0 ∨ i = 1 ∨ i = 2 ∨ i = 3 ∨ i = 4 := by omega
    all_goals simp <;> omega) hb hv (by
    obtain rfl | rfl | rfl | rfl | rfl : i = 0 ∨ i = 1 ∨ i = 2 ∨ i = 3 ∨ i = 4 := by omega
    all_goals simp at hv1 ⊢ <;> omega) (by
    obtain rfl | rfl | rfl | rfl | rfl : i = 0 ∨ i = 1 ∨ i = 2 ∨ i = 3 ∨ i = 4 := by omega
    all_goals simp at hv1 ⊢ <;> omega)
  rw [this]; omega
theorem and127 (b : Int) (h0 : 0 ≤ b) (h1 : b < 256) : Go.bits .and .u8 b 127 = b % 128 := bits_mask .u8 8 (by decide) wraps_u8 7 (by decide) b h0 (by omega)
theorem digit_step (x b : Int) (k : Nat) (hk : k < 5) (hx : 0 ≤ x ∧ x < 128 ^ k) (hb : 0 ≤ b ∧ b < 256) :
    Go.bits .or .i64 x (wrap64 (wrap64 (Go.bits .and .u8 b 127) * 2 ^ (7 * k))) = x + b % 128 * 128 ^ k := by
  rw [and127 b hb.1 hb.2]
  have e : wrap64 (wrap64 (b % 128) * 2 ^ (7 * k)) = b % 128 * 128 ^ k := by
    unfold wrap64
    obtain rfl | rfl | rfl | rfl | rfl : k = 0 ∨ k = 1 ∨ k = 2 ∨ k = 3 ∨ k = 4 := by omega
    all_goals simp; omega
  rw [e, digit_join x b k hk hx.1 hx.2]
theorem digit_bound (x b : Int) (k : Nat) (hk : k < 5) (hx : 0 ≤ x ∧ x < 128 ^ k) (hb : 0 ≤ b ∧ b < 256) : 0 ≤ x + b % 128 * 128 ^ k ∧ x + b % 128 * 128 ^ k < 128 ^ (k + 1) := by
  obtain rfl | rfl | rfl | rfl | rfl : k = 0 ∨ k = 1 ∨ k = 2 ∨ k = 3 ∨ k = 4 := by omega
  all_goals simp at hx ⊢; omega
theorem rnGo_step (a1 x b : Int) (k : Nat) (hk : k < 5) (t : List Int) : rnGo a1 (5 - k) k x (b :: t) =
    (if b ≥ 128 then rnGo a1 (5 - (k + 1)) ((k + 1 : Nat) : Int) (x + b % 128 * 128 ^ k) t
    else if (b = 0 ∧ (k : Int) > 0) ∨ x + b % 128 * 128 ^ k > 2147483647 then (0, 0, 20)
    else (x + b % 128 * 128 ^ k, a1 + k + 1, 0)) := by
  obtain ⟨m, hm⟩ : ∃ m, 5 - k = m + 1 := ⟨5 - (k + 1), by omega⟩
  have hm2 : 5 - (k + 1) = m := by omega
  rw [hm, hm2, rnGo]
  simp

theorem rnGo_ok (a1 : Int) (h0 : 0 ≤ a1) : ∀ (n : Nat) (i v : Int) (t : List Int) (x q : Int), 0 ≤ i → 0 ≤ v → rnGo a1 n i v t = (x, q, 0) → 0 ≤ x ∧ x ≤ 2147483647 ∧ a1 + i < q ∧ q ≤ a1 + i + t.length := by
  intro n
  induction n with
  | zero => intro i v t x q hi hv h; simp [rnGo] at h
  | succ n ih =>
    intro i v t x q hi hv h
    cases t with
    | nil => simp [rnGo] at h
    | cons b t =>
      have hp : (0 : Int) ≤ b % 128 * 128 ^ i.toNat := Int.mul_nonneg (by omega) (Int.pow_nonneg (by decide))
      rw [rnGo] at h
      split at h
      · obtain ⟨g1, g2, g3, g4⟩ := ih (i + 1) _ t x q (by omega) (by omega) h
        refine ⟨g1, g2, by omega, ?_⟩
        rw [List.length_cons]; omega
      · split at h
        · simp at h
        · simp only [Prod.mk.injEq] at h
          rw [List.length_cons]; omega
theorem readNum_ok {l : List Int} {a1 x q : Int} (h : readNum l a1 = (x, q, 0)) : 0 ≤ a1 ∧ 0 ≤ x ∧ x ≤ 2147483647 ∧ a1 < q ∧ q ≤ l.length := by
  unfold readNum at h
  split at h
  · simp at h
  · rename_i hn
    obtain ⟨g1, g2, g3, g4⟩ := rnGo_ok a1 (by omega) 5 0 0 _ x q (by omega) (by omega) h
    rw [List.length_drop] at g4
    omega
/-- Reading a text. -/
def readText (l : List Int) (a1 : Int) : List Int × Int × Int :=
  if (readNum l a1).2.2 ≠ 0 then ([], 0, (readNum l a1).2.2)
  else if (readNum l a1).1 > 262144 then ([], 0, 2)
  else if (readNum l a1).1 > l.length - (readNum l a1).2.1 then ([], 0, 21)
  else ((l.take ((readNum l a1).2.1 + (readNum l a1).1).toNat).drop (readNum l a1).2.1.toNat, (readNum l a1).2.1 + (readNum l a1).1, 0)
end Go.Proofs.Ytdbniihjkiecbaa.PW
