/- Streams: what bytes say, byte by byte; plain law. -/
import Derived.Test.YtnanaojjhmpilaaK5
namespace Go.Proofs.Ytnanaojjhmpilaa.PW
open Go.RowKit Go.Proofs.YtnanaojjhmpilaaW.PrintWords Go.Proofs.YtnanaojjhmpilaaW.PrintLast Go.Proofs.YtnanaojjhmpilaaW.PrintMore
set_option linter.unusedVariables false

/-- What the front of bytes comes to: more are wanted; one byte is skipped; a frame with a body of n bytes. -/
inductive Dec where
  | wait
  | skip
  | body (n : Nat)
  deriving DecidableEq
/-- May a frame begin here? -/
def opens (l : List Int) : Bool := decide (rd l 0 = 197) && (decide (l.length < 2) || decide (rd l 1 = 58))
def dec (l : List Int) : Dec :=
  if l.length = 0 then .wait
  else if opens l = false then .skip
  else if l.length < 10 then .wait
  else if headB l = false then .skip
  else if l.length < (wordAt l 2).toNat + 14 then .wait
  else if endsB (l.take ((wordAt l 2).toNat + 14)) = false then .skip
  else .body (wordAt l 2).toNat
def scanG : Nat → List Int → List (List Int) × Nat × List Int
  | 0, l => ([], 0, l)
  | f + 1, l =>
    match dec l with
    | .wait => ([], 0, l)
    | .skip => ((scanG f (l.drop 1)).1, (scanG f (l.drop 1)).2.1 + 1, (scanG f (l.drop 1)).2.2)
    | .body n => ((l.drop 10).take n :: (scanG f (l.drop (n + 14))).1, (scanG f (l.drop (n + 14))).2.1, (scanG f (l.drop (n + 14))).2.2)
/-- The bodies, how many bytes were skipped, and what is left undecided. -/
def scan (l : List Int) : List (List Int) × Nat × List Int := scanG (l.length + 1) l

theorem dec_skip {l : List Int} (h : dec l = .skip) : 0 < l.length := by
  unfold dec at h
  split at h
  · cases h
  · omega
theorem dec_body {l : List Int} {n : Nat} (h : dec l = .body n) : n + 14 ≤ l.length ∧ n = (wordAt l 2).toNat ∧ headB l = true ∧ 10 ≤ l.length ∧ endsB (l.take (n + 14)) = true := by
  unfold dec at h
  split at h
  · cases h
  split at h
  · cases h
  split at h
  · cases h
  split at h
  · cases h
  split at h
  · cases h
  split at h
  · cases h
  · rename_i h1 h2 h3 h4 h5 h6
    cases h
    exact ⟨by omega, rfl, by simpa using h4, by omega, by simpa using h6⟩
theorem scanG_fuel : ∀ (f g : Nat) (l : List Int), l.length < f → l.length < g → scanG f l = scanG g l := by
  intro f
  induction f with
  | zero => intro g l h; omega
  | succ f ih =>
    intro g l h1 h2
    cases g with
    | zero => omega
    | succ g =>
      unfold scanG
      cases hd : dec l with
      | wait => rfl
      | skip =>
        have := dec_skip hd
        have e := ih g (l.drop 1) (by rw [List.length_drop]; omega) (by rw [List.length_drop]; omega)
        simp only [e]
      | body n =>
        have := (dec_body hd).1
        have e := ih g (l.drop (n + 14)) (by rw [List.length_drop]; omega) (by rw [List.length_drop]; omega)
        simp only [e]
theorem scan_wait {l : List Int} (h : dec l = .wait) : scan l = ([], 0, l) := by
  unfold scan scanG
  rw [h]
theorem scan_skip {l : List Int} (h : dec l = .skip) : scan l = ((scan (l.drop 1)).1, (scan (l.drop 1)).2.1 + 1, (scan (l.drop 1)).2.2) := by
  have h1 := dec_skip h
  have e : scanG l.length (l.drop 1) = scan (l.drop 1) := scanG_fuel _ _ _ (by rw [List.length_drop]; omega) (by omega)
  rw [scan, scanG, h]
  simp only [e]
theorem scan_body {l : List Int} {n : Nat} (h : dec l = .body n) : scan l = ((l.drop 10).take n :: (scan (l.drop (n + 14))).1, (scan (l.drop (n + 14))).2.1, (scan (l.drop (n + 14))).2.2) := by
  have h1 := (dec_body h).1
  have e : scanG l.length (l.drop (n + 14)) = scan (l.drop (n + 14)) := scanG_fuel _ _ _ (by rw [List.length_drop]; omega) (by omega)
  rw [scan, scanG, h]
  simp only [e]
theorem rd_left (a b : List Int) (i : Nat) (h : i < a.length) : rd (a ++ b) (i : Int) = rd a (i : Int) := rd_append_left a b i h
theorem headB_left (l m : List Int) (h : 10 ≤ l.length) : headB (l ++ m) = headB l ∧ wordAt (l ++ m) 2 = wordAt l 2 := by
  have w2 : wordAt (l ++ m) 2 = wordAt l 2 := word_same _ _ 2 (fun j hj => rd_left l m (2 + j) (by omega))
  have w6 : wordAt (l ++ m) 6 = wordAt l 6 := word_same _ _ 6 (fun j hj => rd_left l m (6 + j) (by omega))
  have r0 := rd_left l m 0 (by omega)
  have r1 := rd_left l m 1 (by omega)
  have t6 : (l ++ m).take 6 = l.take 6 := by rw [List.take_append_of_le_length (by omega)]
  refine ⟨?_, w2⟩
  unfold headB
  rw [w2, w6, t6]
  rw [show rd (l ++ m) 0 = rd l 0 from r0, show rd (l ++ m) 1 = rd l 1 from r1]
/-- What is decided stays so with more bytes behind. -/
theorem dec_more (l m : List Int) (h : dec l ≠ .wait) : dec (l ++ m) = dec l := by
  have hl : 0 < l.length := by
    rcases Nat.eq_zero_or_pos l.length with h0 | h0
    · exact absurd (by unfold dec; rw [if_pos h0]) h
    · exact h0
  have r0 : rd (l ++ m) 0 = rd l 0 := rd_left l m 0 hl
  by_cases h2 : l.length < 2
  · -- one byte alone: decided only where it is no 197
    have ho : opens l = false := by
      cases ho : opens l with
      | false => rfl
      | true => exact absurd (by unfold dec; rw [if_neg (by omega), ho, if_neg (by simp), if_pos (by omega)]) h
    have hne : decide (rd l 0 = 197) = false := by
      unfold opens at ho
      rw [decide_eq_true h2] at ho
      simpa using ho
    have ho2 : opens (l ++ m) = false := by unfold opens; rw [r0, hne]; rfl
    have e1 : dec l = .skip := by unfold dec; rw [if_neg (by omega), if_pos ho]
    rw [e1]
    unfold dec
    rw [if_neg (by rw [List.length_append]; omega), if_pos ho2]
  · have r1 : rd (l ++ m) 1 = rd l 1 := rd_left l m 1 (by omega)
    have ho : opens (l ++ m) = opens l := by
      unfold opens
      rw [r0, r1, decide_eq_false (show ¬ l.length < 2 by omega), decide_eq_false (show ¬ (l ++ m).length < 2 by rw [List.length_append]; omega)]
    cases hol : opens l with
    | false =>
      have e1 : dec l = .skip := by unfold dec; rw [if_neg (by omega), if_pos hol]
      have e2 : dec (l ++ m) = .skip := by unfold dec; rw [if_neg (by rw [List.length_append]; omega), if_pos (by rw [ho, hol])]
      rw [e1, e2]
    | true =>
      have h10 : 10 ≤ l.length := by
        rcases Nat.lt_or_ge l.length 10 with h10 | h10
        · exact absurd (by unfold dec; rw [if_neg (by omega), hol, if_neg (by simp), if_pos h10]) h
        · exact h10
      obtain ⟨hh, hw⟩ := headB_left l m h10
      have d1 : dec l = if headB l = false then .skip else if l.length < (wordAt l 2).toNat + 14 then .wait else if endsB (l.take ((wordAt l 2).toNat + 14)) = false then .skip else .body (wordAt l 2).toNat := by
        conv => lhs; unfold dec
        rw [if_neg (by omega), hol, if_neg (by simp), if_neg (by omega)]
      have d2 : dec (l ++ m) = if headB l = false then .skip else if (l ++ m).length < (wordAt l 2).toNat + 14 then .wait else if endsB ((l ++ m).take ((wordAt l 2).toNat + 14)) = false then .skip else .body (wordAt l 2).toNat := by
        conv => lhs; unfold dec
        rw [if_neg (by rw [List.length_append]; omega), ho, hol, if_neg (by simp), if_neg (by rw [List.length_append]; omega), hh, hw]
      rw [d1] at h ⊢
      rw [d2]
      by_cases hb : headB l = false
      · rw [if_pos hb, if_pos hb]
      · rw [if_neg hb] at h ⊢
        rw [if_neg hb]
        by_cases hle : l.length < (wordAt l 2).toNat + 14
        · rw [if_pos hle] at h; exact absurd rfl h
        · rw [if_neg hle, if_neg (by rw [List.length_append]; omega), List.take_append_of_le_length (by omega)]
theorem scan_append : ∀ (n : Nat) (l m : List Int), l.length ≤ n → scan (l ++ m) = ((scan l).1 ++ (scan ((scan l).2.2 ++ m)).1, (scan l).2.1 + (scan ((scan l).2.2 ++ m)).2.1, (scan ((scan l).2.2 ++ m)).2.2) := by
  intro n
  induction n with
  | zero =>
    intro l m h
    have : l = [] := List.eq_nil_of_length_eq_zero (by omega)
    subst this
    rw [scan_wait (l := []) (by rfl)]
    simp
  | succ n ih =>
    intro l m h
    cases hd : dec l with
    | wait => rw [scan_wait hd]; simp
    | skip =>
      have h1 := dec_skip hd
      have hm := dec_more l m (by rw [hd]; simp)
      rw [hd] at hm
      rw [scan_skip hm, scan_skip hd, List.drop_append_of_le_length (by omega), ih (l.drop 1) m (by rw [List.length_drop]; omega)]
      simp only [Nat.add_right_comm]
    | body k =>
      have h1 := (dec_body hd).1
      have hm := dec_more l m (by rw [hd]; simp)
      rw [hd] at hm
      have e1 : (l ++ m).drop (k + 14) = l.drop (k + 14) ++ m := List.drop_append_of_le_length (by omega)
      have e2 : ((l ++ m).drop 10).take k = (l.drop 10).take k := by
        rw [List.drop_append_of_le_length (by omega), List.take_append_of_le_length (by rw [List.length_drop]; omega)]
      rw [scan_body hm, scan_body hd, e1, e2, ih (l.drop (k + 14)) m (by rw [List.length_drop]; omega)]
      simp only [List.cons_append]
/-- How much a scan can tell: bodies and their bytes, skipped bytes and what is left are no more than what there was. -/
theorem scan_size : ∀ (n : Nat) (l : List Int), l.length ≤ n → (scan l).1.flatten.length + 14 * (scan l).1.length + (scan l).2.1 + (scan l).2.2.length = l.length := by
  intro n
  induction n with
  | zero =>
    intro l h
    have : l = [] := List.eq_nil_of_length_eq_zero (by omega)
    subst this
    rw [scan_wait (l := []) (by rfl)]
    rfl
  | succ n ih =>
    intro l h
    cases hd : dec l with
    | wait => rw [scan_wait hd]; simp
    | skip =>
      have h1 := dec_skip hd
      have := ih (l.drop 1) (by rw [List.length_drop]; omega)
      rw [scan_skip hd]
      rw [List.length_drop] at this
      simp only
      omega
    | body k =>
      have h1 := (dec_body hd).1
      have := ih (l.drop (k + 14)) (by rw [List.length_drop]; omega)
      rw [scan_body hd]
      rw [List.length_drop] at this
      simp only [List.flatten_cons, List.length_append, List.length_take, List.length_drop, List.length_cons]
      omega
theorem scan_left : ∀ (n : Nat) (l : List Int), l.length ≤ n → dec (scan l).2.2 = .wait ∧ ∃ k, (scan l).2.2 = l.drop k := by
  intro n
  induction n with
  | zero =>
    intro l h
    have : l = [] := List.eq_nil_of_length_eq_zero (by omega)
    subst this
    rw [scan_wait (l := []) (by rfl)]
    exact ⟨rfl, 0, rfl⟩
  | succ n ih =>
    intro l h
    cases hd : dec l with
    | wait => rw [scan_wait hd]; exact ⟨hd, 0, rfl⟩
    | skip =>
      have h1 := dec_skip hd
      obtain ⟨h2, k, h3⟩ := ih (l.drop 1) (by rw [List.length_drop]; omega)
      rw [scan_skip hd]
      exact ⟨h2, 1 + k, by rw [h3, List.drop_drop]⟩
    | body j =>
      have h1 := (dec_body hd).1
      obtain ⟨h2, k, h3⟩ := ih (l.drop (j + 14)) (by rw [List.length_drop]; omega)
      rw [scan_body hd]
      exact ⟨h2, j + 14 + k, by rw [h3, List.drop_drop]⟩
end Go.Proofs.Ytnanaojjhmpilaa.PW
