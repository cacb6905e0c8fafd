/- Frames and what is read out of them, in plain lists of bytes. -/
import Derived.Test.YtnanaojjhmpilaaK3
namespace Go.Proofs.Ytnanaojjhmpilaa.PW
open Go.RowKit Go.Proofs.YtnanaojjhmpilaaW.PrintWords Go.Proofs.YtnanaojjhmpilaaW.PrintLast Go.Proofs.YtnanaojjhmpilaaW.PrintMore
set_option linter.unusedVariables false
set_option linter.unusedSimpArgs false

theorem bytesOk_append {a b : List Int} (ha : bytesOk a = true) (hb : bytesOk b = true) : bytesOk (a ++ b) = true := by
  unfold bytesOk at *
  rw [List.all_append, ha, hb]; rfl
theorem four4_ok (v : Int) : bytesOk (four4 v) = true := by
  unfold four4 bytesOk
  simp
  omega
theorem four4_len (v : Int) : (four4 v).length = 4 := rfl
theorem wordAt_here (v : Int) (post : List Int) (h0 : 0 ≤ v) (h1 : v < 4294967296) : wordAt (four4 v ++ post) 0 = v := by
  simp [wordAt, four4, rd]
  omega
theorem wordAt_four (pre post : List Int) (v : Int) (h0 : 0 ≤ v) (h1 : v < 4294967296) : wordAt (pre ++ (four4 v ++ post)) pre.length = v := by
  rw [← wordAt_drop, List.drop_left, wordAt_here v post h0 h1]
theorem frameHead_split (n : Int) : frameHead n = [197, 58] ++ (four4 n ++ four4 (sumW ([197, 58] ++ four4 n))) := by
  unfold frameHead; rw [List.append_assoc]
theorem head6 (n : Int) (t : List Int) : (frameHead n ++ t).take 6 = [197, 58] ++ four4 n := by
  unfold frameHead; simp [four4]
theorem magic_ok : bytesOk [197, 58] = true := by decide
theorem frameHead_ok (n : Int) : bytesOk (frameHead n) = true := by
  unfold frameHead
  exact bytesOk_append (bytesOk_append magic_ok (four4_ok _)) (four4_ok _)
theorem frameHead_length (n : Int) : (frameHead n).length = 10 := by simp [frameHead, four4]
theorem frame_word2 (n : Int) (t : List Int) (h0 : 0 ≤ n) (h1 : n < 4294967296) : wordAt (frameHead n ++ t) 2 = n := by
  rw [frameHead_split, List.append_assoc, List.append_assoc]
  exact wordAt_four [197, 58] _ n h0 h1
theorem frame_word6 (n : Int) (t : List Int) : wordAt (frameHead n ++ t) 6 = sumW ([197, 58] ++ four4 n) := by
  have hr := sumW_range ([197, 58] ++ four4 n) (bytesOk_append magic_ok (four4_ok n))
  have := wordAt_four ([197, 58] ++ four4 n) t (sumW ([197, 58] ++ four4 n)) hr.1 hr.2
  unfold frameHead
  rw [List.append_assoc]
  exact this
theorem frame_headB (n : Int) (t : List Int) (h0 : 0 ≤ n) (h1 : n ≤ 262144) : headB (frameHead n ++ t) = true := by
  unfold headB
  rw [frame_word2 n t h0 (by omega), frame_word6, head6]
  have e0 : rd (frameHead n ++ t) 0 = 197 := by simp [frameHead, rd]
  have e1 : rd (frameHead n ++ t) 1 = 58 := by simp [frameHead, rd]
  rw [e0, e1, decide_eq_true h1]
  simp
theorem frameOf_length (b : List Int) : (frameOf b).length = b.length + 14 := by
  unfold frameOf
  rw [List.length_append, List.length_append, frameHead_length, four4_len]; omega
theorem frameOf_ok (b : List Int) (h : bytesOk b = true) : bytesOk (frameOf b) = true :=
  bytesOk_append (bytesOk_append (frameHead_ok _) h) (four4_ok _)
theorem frameOf_split (b t : List Int) : frameOf b ++ t = frameHead b.length ++ (b ++ (four4 (sumW (frameHead b.length ++ b)) ++ t)) := by
  unfold frameOf; simp [List.append_assoc]
theorem frameOf_word2 (b t : List Int) (h : b.length ≤ 262144) : wordAt (frameOf b ++ t) 2 = b.length := by
  rw [frameOf_split]; exact frame_word2 _ _ (by omega) (by omega)
theorem frameOf_headB (b t : List Int) (h : b.length ≤ 262144) : headB (frameOf b ++ t) = true := by
  rw [frameOf_split]; exact frame_headB _ _ (by omega) (by omega)
theorem frameOf_endsB (b : List Int) (hb : bytesOk b = true) : endsB (frameOf b) = true := by
  unfold endsB
  have hr := sumW_range (frameHead b.length ++ b) (bytesOk_append (frameHead_ok _) hb)
  have hl : (frameOf b).length - 4 = (frameHead b.length ++ b).length := by rw [frameOf_length, List.length_append, frameHead_length]; omega
  rw [hl]
  have e1 : (frameOf b).take (frameHead b.length ++ b).length = frameHead b.length ++ b := by unfold frameOf; rw [List.take_left]
  have e2 : wordAt (frameOf b) (frameHead b.length ++ b).length = sumW (frameHead b.length ++ b) := by
    have := wordAt_four (frameHead b.length ++ b) [] _ hr.1 hr.2
    rw [List.append_nil] at this
    exact this
  rw [e1, e2]; simp
theorem frameOf_body (b : List Int) : ((frameOf b).drop 10).take ((frameOf b).length - 14) = b := by
  rw [frameOf_length]
  unfold frameOf
  rw [List.append_assoc, List.drop_left' (frameHead_length _), show b.length + 14 - 14 = b.length by omega, List.take_left]
/-- What was framed is taken out. -/
theorem unframe_frame (b : List Int) (hb : bytesOk b = true) (h : b.length ≤ 262144) : unframe (frameOf b) = (b, 0) := by
  have hl := frameOf_length b
  have h2 := frameOf_word2 b [] h
  have h3 := frameOf_headB b [] h
  rw [List.append_nil] at h2 h3
  unfold unframe
  rw [if_neg (by omega), h3, h2, if_neg (by decide), if_neg (by omega), frameOf_endsB b hb, if_neg (by simp; omega), frameOf_body]

theorem numBytes_ok (n : Nat) : ∀ x : Int, 0 ≤ x → bytesOk (numBytes n x) = true := by
  induction n with
  | zero => intro x h; unfold numBytes bytesOk; simp; omega
  | succ n ih =>
    intro x h
    unfold numBytes
    split
    · have := ih (x / 128) (by omega)
      unfold bytesOk at *
      rw [List.all_cons, this]
      simp; omega
    · unfold bytesOk; simp; omega
/-- A number that was written is read again. -/
theorem rnGo_bytes (a : Int) (t : List Int) (n : Nat) : ∀ (i : Nat) (acc x : Int), 0 ≤ x → x < 128 ^ (n + 1) → (x > 0 ∨ i = 0) → 0 ≤ acc → acc + x * 128 ^ i ≤ 2147483647 →
    rnGo a (n + 1) (i : Int) acc (numBytes n x ++ t) = (acc + x * 128 ^ i, a + i + (numBytes n x).length, 0) := by
  induction n with
  | zero =>
    intro i acc x h0 h1 hx ha hm
    have hx2 : x < 128 := by simpa using h1
    have e : x % 256 = x := by omega
    have e2 : x % 128 = x := by omega
    simp only [numBytes, List.cons_append, List.nil_append, rnGo, e, e2, Int.toNat_natCast, List.length_cons, List.length_nil]
    rw [if_neg (by omega), if_neg (by omega)]
    simp
  | succ n ih =>
    intro i acc x h0 h1 hx ha hm
    by_cases hb : x ≥ 128
    · have e : numBytes (n + 1) x = (x % 128 + 128) :: numBytes n (x / 128) := by rw [numBytes, if_pos hb]
      rw [e, List.cons_append, rnGo, if_pos (by omega), Int.toNat_natCast]
      have e2 : (x % 128 + 128) % 128 = x % 128 := by omega
      have e3 : acc + x % 128 * 128 ^ i + x / 128 * 128 ^ (i + 1) = acc + x * 128 ^ i := by
        have hx3 : x = x % 128 + x / 128 * 128 := by omega
        conv => rhs; rw [hx3, Int.add_mul]
        rw [Int.pow_succ, Int.mul_assoc (x / 128) 128, Int.mul_comm 128 (128 ^ i)]
        omega
      have hp : (0 : Int) ≤ x % 128 * 128 ^ i := Int.mul_nonneg (by omega) (Int.pow_nonneg (by decide))
      have := ih (i + 1) (acc + x % 128 * 128 ^ i) (x / 128) (by omega) (by rw [Int.pow_succ] at h1; omega) (.inl (by omega)) (by omega) (by rw [e3]; exact hm)
      rw [e2, show (i : Int) + 1 = ((i + 1 : Nat) : Int) from rfl, this, e3, List.length_cons]
      simp
      omega
    · have e : numBytes (n + 1) x = [x % 256] := by rw [numBytes, if_neg hb]
      have e1 : x % 256 = x := by omega
      have e2 : x % 128 = x := by omega
      rw [e]
      simp only [List.cons_append, List.nil_append, rnGo, e1, e2, Int.toNat_natCast, List.length_cons, List.length_nil]
      rw [if_neg (by omega), if_neg (by omega)]
      simp
theorem readNum_written (pre post : List Int) (v : Int) (h0 : 0 ≤ v) (h1 : v ≤ 2147483647) :
    readNum (pre ++ (numBytes 4 v ++ post)) (pre.length : Int) = (v, ((pre.length + (numBytes 4 v).length : Nat) : Int), 0) := by
  unfold readNum
  rw [if_neg (by rw [List.length_append]; omega), Int.toNat_natCast, List.drop_left]
  have := rnGo_bytes (pre.length : Int) post 4 0 0 v h0 (by simp; omega) (.inr rfl) (by omega) (by simp; omega)
  simp at this
  rw [this]
  simp
theorem readText_written (pre post : List Int) (s : List Int) (h : s.length ≤ 262144) :
    readText (pre ++ ((numBytes 4 s.length ++ s) ++ post)) (pre.length : Int) = (s, ((pre.length + (numBytes 4 s.length ++ s).length : Nat) : Int), 0) := by
  have hr := readNum_written pre (s ++ post) (s.length : Int) (by omega) (by omega)
  rw [List.append_assoc]
  unfold readText
  rw [hr]
  simp only []
  rw [if_neg (by simp), if_neg (by omega), if_neg (by simp only [List.length_append]; omega)]
  have e1 : (((pre.length + (numBytes 4 (s.length : Int)).length : Nat) : Int) + (s.length : Int)).toNat = (pre ++ (numBytes 4 s.length ++ s)).length := by simp only [List.length_append]; omega
  have e2 : (((pre.length + (numBytes 4 (s.length : Int)).length : Nat) : Int)).toNat = (pre ++ numBytes 4 s.length).length := by simp only [List.length_append]; omega
  have e3 : pre ++ (numBytes 4 (s.length : Int) ++ (s ++ post)) = (pre ++ (numBytes 4 (s.length : Int) ++ s)) ++ post := by simp [List.append_assoc]
  have e4 : pre ++ (numBytes 4 (s.length : Int) ++ s) = (pre ++ numBytes 4 (s.length : Int)) ++ s := by simp [List.append_assoc]
  rw [e1, e2, e3, List.take_left, e4, List.drop_left]
  simp only [List.length_append, Prod.mk.injEq, true_and, and_true]
  omega
theorem bytesOf_ok (s : ByteArray) : bytesOk (bytesOf s) = true := by
  unfold bytesOk bytesOf
  rw [List.all_eq_true]
  intro x hx
  simp only [List.mem_map] at hx
  obtain ⟨b, _, rfl⟩ := hx
  have := b.toNat_lt
  simp; omega
theorem bytesOk_of_wf (l : List Int) (h : ∀ x ∈ l, (Lit.int .u8 x).wf = true) : bytesOk l = true := by
  unfold bytesOk
  rw [List.all_eq_true]
  intro x hx
  have := h x hx
  simp [Lit.wf, IntKind.min, IntKind.max, IntKind.signed, IntKind.bits] at this
  simp; omega

/-- Bytes that are read as a number are just those that are written for it. -/
theorem rnGo_only (a : Int) (n : Nat) : ∀ (i : Nat) (acc : Int) (t : List Int) (x q : Int), bytesOk t = true → rnGo a n (i : Int) acc t = (x, q, 0) →
    ∃ (m : Nat) (y : Int), n = m + 1 ∧ x = acc + y * 128 ^ i ∧ 0 ≤ y ∧ (y > 0 ∨ i = 0) ∧ q = a + i + (numBytes m y).length ∧ t.take (numBytes m y).length = numBytes m y := by
  induction n with
  | zero => intro i acc t x q _ h; simp [rnGo] at h
  | succ n ih =>
    intro i acc t x q hb h
    cases t with
    | nil => simp [rnGo] at h
    | cons b t =>
      obtain ⟨b0, b1, ht⟩ := bytesOk_cons hb
      rw [rnGo, Int.toNat_natCast] at h
      by_cases h128 : b ≥ 128
      · rw [if_pos h128, show (i : Int) + 1 = ((i + 1 : Nat) : Int) from rfl] at h
        obtain ⟨m, y, rfl, hx, hy0, hy1, hq, htk⟩ := ih (i + 1) _ t x q ht h
        have hy2 : y > 0 := by omega
        refine ⟨m + 1, b % 128 + 128 * y, rfl, ?_, by omega, .inl (by omega), ?_, ?_⟩
        · rw [hx, Int.add_mul, Int.pow_succ, Int.mul_comm 128 y, Int.mul_assoc y 128, Int.mul_comm 128 (128 ^ i)]; omega
        · have e : numBytes (m + 1) (b % 128 + 128 * y) = b :: numBytes m y := by
            rw [numBytes, if_pos (by omega), show (b % 128 + 128 * y) % 128 + 128 = b by omega, show (b % 128 + 128 * y) / 128 = y by omega]
          rw [e, hq, List.length_cons]; omega
        · have e : numBytes (m + 1) (b % 128 + 128 * y) = b :: numBytes m y := by
            rw [numBytes, if_pos (by omega), show (b % 128 + 128 * y) % 128 + 128 = b by omega, show (b % 128 + 128 * y) / 128 = y by omega]
          rw [e, List.length_cons, List.take_succ_cons, htk]
      · rw [if_neg h128] at h
        split at h
        · simp at h
        · rename_i hz
          simp only [Prod.mk.injEq] at h
          have hnb : numBytes n b = [b] := by
            cases n with
            | zero => rw [numBytes, show b % 256 = b by omega]
            | succ n => rw [numBytes, if_neg (by omega), show b % 256 = b by omega]
          refine ⟨n, b, rfl, by rw [← h.1, show b % 128 = b by omega], b0, by omega, ?_, ?_⟩
          · rw [hnb, ← h.2.1]; simp
          · rw [hnb]; simp
theorem readNum_only (l : List Int) (hb : bytesOk l = true) (a1 v p : Int) (h : readNum l a1 = (v, p, 0)) : numBytes 4 v = (l.take p.toNat).drop a1.toNat := by
  unfold readNum at h
  split at h
  · simp at h
  rename_i hn
  obtain ⟨m, y, hm, hx, hy0, hy1, hq, ht⟩ := rnGo_only a1 5 0 0 _ v p (bytesOk_drop hb _) h
  obtain rfl : m = 4 := by omega
  have hv : v = y := by rw [hx]; simp
  subst hv
  obtain ⟨k, rfl⟩ := Int.eq_ofNat_of_zero_le (show 0 ≤ a1 by omega)
  have hp : p.toNat = k + (numBytes 4 v).length := by omega
  rw [hp, Int.toNat_natCast, List.drop_take, ← ht]
  congr 1
  rw [List.length_take]
  have := congrArg List.length ht
  rw [List.length_take] at this
  omega
theorem bytesOf_str (l : List Int) (hb : bytesOk l = true) : bytesOf (strOfNums l) = l := by
  unfold bytesOf strOfNums
  simp only [List.map_map]
  conv => rhs; rw [← List.map_id l]
  apply List.map_congr_left
  intro x hx
  unfold bytesOk at hb
  rw [List.all_eq_true] at hb
  have := hb x hx
  simp at this
  simp
  omega
theorem readText_only (l : List Int) (hb : bytesOk l = true) (a1 : Int) (s : List Int) (q : Int) (h : readText l a1 = (s, q, 0)) :
    0 ≤ a1 ∧ a1 ≤ q ∧ q ≤ l.length ∧ textEnc (strOfNums s) = ((l.take q.toNat).drop a1.toNat, 0) := by
  unfold readText at h
  obtain ⟨n, fr, e, hne⟩ : ∃ n fr e, readNum l a1 = (n, fr, e) := ⟨_, _, _, rfl⟩
  rw [hne] at h
  simp only at h
  split at h
  · simp at h; omega
  rename_i he
  obtain rfl : e = 0 := by omega
  obtain ⟨g0, g1, g2, g3, g4⟩ := readNum_ok hne
  split at h
  · simp at h
  rename_i hn1
  split at h
  · simp at h
  rename_i hn2
  simp only [Prod.mk.injEq] at h
  obtain ⟨hs, hq, _⟩ := h
  have hnum := readNum_only l hb a1 n fr hne
  obtain ⟨k, rfl⟩ := Int.eq_ofNat_of_zero_le g0
  obtain ⟨f, rfl⟩ := Int.eq_ofNat_of_zero_le (show 0 ≤ fr by omega)
  obtain ⟨m, rfl⟩ := Int.eq_ofNat_of_zero_le g1
  have hfm : ((f : Int) + (m : Int)).toNat = f + m := by omega
  rw [hfm] at hs
  have hsl : s.length = m := by rw [← hs, List.length_drop, List.length_take]; omega
  have hsok : bytesOk s = true := by rw [← hs]; exact bytesOk_drop (bytesOk_take hb _) _
  have hsz : (strOfNums s).size = m := by
    have := bytesOf_length (strOfNums s)
    rw [bytesOf_str s hsok] at this
    omega
  refine ⟨by omega, by omega, by omega, ?_⟩
  unfold textEnc
  rw [hsz, if_neg (by omega), bytesOf_str s hsok, hnum, ← hs, ← hq, hfm]
  simp only [Int.toNat_natCast, Prod.mk.injEq, and_true]
  rw [List.drop_take, List.drop_take, List.drop_take]
  have e : f + m - k = (f - k) + m := by omega
  rw [e, List.take_add, List.drop_drop, show k + (f - k) = f by omega]
  simp
end Go.Proofs.Ytnanaojjhmpilaa.PW
