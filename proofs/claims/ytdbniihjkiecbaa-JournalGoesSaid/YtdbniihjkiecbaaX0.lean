/- Words, contracts and walks of the law JournalGoes, in one text. -/
import Derived.Test.YtdbniihjkiecbaaPWx16
import Derived.Test.YtdbniihjkiecbaaPWx17
import Derived.Test.YtdbniihjkiecbaaPWx6
import Derived.Test.YtdbniihjkiecbaaPWx0
import Derived.Test.YtdbniihjkiecbaaPWx12
import Derived.Test.YtdbniihjkiecbaaPWx1
namespace Go.Proofs.Ytdbniihjkiecbaa.PW
open Go.RowKit Go.Proofs.YtdbniihjkiecbaaW.PrintWords Go.Proofs.YtdbniihjkiecbaaW.PrintLast Go.Proofs.YtdbniihjkiecbaaW.PrintMore
set_option linter.unusedVariables false
set_option linter.unusedSimpArgs false
def vMay (n p b : Int) : Bool := (decide (1 ≤ n) && decide (n ≤ 2147483647)) && ((decide (1 ≤ p) && decide (p ≤ 5)) && ((decide (0 ≤ b) && decide (b ≤ 5)) && (b != p)))
def nMay (n p b : Int) : Bool := (decide (1 ≤ n) && decide (n ≤ 2147483647)) && ((p == 0) && (b == 0))
theorem C_lit64 (W : World) (xs : List Int) (hm : xs.length ≤ 9223372036854775807) : Kd.C (Kd.int .i64) (W.alloc (.cells (nums .i64 xs).toArray 3)) (some ⟨W.heap.size, 0, none⟩) xs.length xs := by
  refine Kd.C_of_reads (enc := Value.int .i64) (d := (0 : Int)) (h1 := fun _ => rfl) ⟨rfl, hm, fun hn => ⟨_, rfl, fun j hj => ?_⟩⟩
  have hb : (W.alloc (.cells (nums .i64 xs).toArray 3)).heap[W.heap.size]? = some (.cells (nums .i64 xs).toArray 3 (0, 0)) := heap_alloc_new W _
  rw [add_plain, cell_of_row _ _ _ _ _ _ hb]
  simp [nums, hj]
def numsEnc (l : List Int) : List Int := (l.map fun v => (numEnc v).1).flatten
def blankE (s v k se rq : Int) (l : List S40) : Bool := (s == 0) && ((v == 0) && ((k == 0) && ((se == 0) && ((rq == 0) && decide (l.length = 0)))))
def noState (of : Int) (x : ByteArray) : Bool := decide (x.toList = []) && (of == 0)
def noView (vn vp vb : Int) : Bool := (vn == 0) && ((vp == 0) && (vb == 0))
/-- A record's body, and whether the record may be. -/
def recBody (kd s v k se rq : Int) (l : List S40) (vn vp vb st of : Int) (x : ByteArray) : List Int × Bool :=
  if kd = 1 then (if entOk s v k se rq l = true then entBytes s v k se rq l else [], entOk s v k se rq l && (noView vn vp vb && ((st == 0) && noState of x)))
  else if kd = 2 then (numsEnc [vn, vp, vb], vMay vn vp vb && (blankE s v k se rq l && ((st == 0) && noState of x)))
  else if kd = 3 then (numsEnc [vn], nMay vn vp vb && (blankE s v k se rq l && ((st == 0) && noState of x)))
  else if kd = 4 then (numsEnc [vn, st, of] ++ (textEnc x).1, nMay vn vp vb && (blankE s v k se rq l && (numOk st && numOk of)))
  else if kd = 5 then (numsEnc [st, of] ++ (textEnc x).1, noView vn vp vb && (blankE s v k se rq l && (numOk st && numOk of)))
  else if kd = 6 then (numsEnc [st], numOk st && (blankE s v k se rq l && (noState of x && noView vn vp vb)))
  else ([], false)
theorem vMay_eq (n p b : Int) : journal_viewMay.f n p b = some (vMay n p b) := by
  unfold journal_viewMay.f vMay
  by_cases h0 : n ≥ 1
  case neg => rw [if_neg h0, decide_eq_false (show ¬ 1 ≤ n from h0)]; simp
  rw [if_pos h0, decide_eq_true (show 1 ≤ n from h0)]
  by_cases h1 : n ≤ 2147483647
  case neg => rw [if_neg h1, decide_eq_false (show ¬ n ≤ 2147483647 from h1)]; simp
  rw [if_pos h1, decide_eq_true (show n ≤ 2147483647 from h1)]
  by_cases h2 : p ≥ 1
  case neg => rw [if_neg h2, decide_eq_false (show ¬ 1 ≤ p from h2)]; simp
  rw [if_pos h2, decide_eq_true (show 1 ≤ p from h2)]
  by_cases h3 : p ≤ 5
  case neg => rw [if_neg h3, decide_eq_false (show ¬ p ≤ 5 from h3)]; simp
  rw [if_pos h3, decide_eq_true (show p ≤ 5 from h3)]
  by_cases h4 : b ≥ 0
  case neg => rw [if_neg h4, decide_eq_false (show ¬ 0 ≤ b from h4)]; simp
  rw [if_pos h4, decide_eq_true (show 0 ≤ b from h4)]
  by_cases h5 : b ≤ 5
  case neg => rw [if_neg h5, decide_eq_false (show ¬ b ≤ 5 from h5)]; simp
  rw [if_pos h5, decide_eq_true (show b ≤ 5 from h5)]
  simp
theorem nMay_eq (n p b : Int) : journal_numMay.f n p b = some (nMay n p b) := by
  unfold journal_numMay.f nMay
  by_cases h0 : n ≥ 1
  case neg => rw [if_neg h0, decide_eq_false (show ¬ 1 ≤ n from h0)]; simp
  rw [if_pos h0, decide_eq_true (show 1 ≤ n from h0)]
  by_cases h1 : n ≤ 2147483647
  case neg => rw [if_neg h1, decide_eq_false (show ¬ n ≤ 2147483647 from h1)]; simp
  rw [if_pos h1, decide_eq_true (show n ≤ 2147483647 from h1)]
  by_cases h3 : p = 0
  · rw [if_pos h3, h3]; simp
  · rw [if_neg h3, beq_eq_false_iff_ne.mpr h3]; simp
theorem jnumber_eq (v : Int) : journal_number.f v = some (numOk v) := by
  unfold journal_number.f numOk
  by_cases h : v ≥ 0
  · rw [if_pos h, decide_eq_true (show 0 ≤ v from h)]; simp
  · rw [if_neg h, decide_eq_false (show ¬ 0 ≤ v from h)]; simp
theorem nums_l0 (l : List Int) (hl : l.length ≤ 1000) (d : Nat) : ∀ (k i : Nat) (acc : List Int), i + d = l.length → d + 21 ≤ k → acc.length ≤ 5 * i → journal_numbers.l0 k acc l (l.length : Int) (i : Int) = some (acc ++ numsEnc (l.drop i)) := by
  induction d with
  | zero =>
    intro k i acc hi hk ha
    obtain ⟨k, rfl⟩ : ∃ m, k = m + 1 := ⟨k - 1, by omega⟩
    simp only [journal_numbers.l0]
    rw [if_neg (by omega), List.drop_eq_nil_of_le (by omega)]
    simp [numsEnc]
  | succ d ih =>
    intro k i acc hi hk ha
    obtain ⟨k, rfl⟩ : ∃ m, k = m + 1 := ⟨k - 1, by omega⟩
    have hlt : i < l.length := by omega
    have hdr : l.drop i = rd l (i : Int) :: l.drop (i + 1) := drop_rd l i hlt
    have hw : wrap64 ((i : Int) + 1) = ((i + 1 : Nat) : Int) := by unfold wrap64; omega
    have h5 := numEnc_len (rd l (i : Int))
    simp only [journal_numbers.l0]
    rw [if_pos (by omega), if_pos (by omega), if_pos (by omega), wire_Number.eq k (by omega)]
    simp only [Option.bind_some]
    rw [if_pos (by omega), hw, ih k (i + 1) _ (by omega) (by omega) (by rw [List.length_append]; omega), hdr]
    unfold numsEnc
    simp
theorem nums_eq (l : List Int) (hl : l.length ≤ 1000) (k : Nat) (hk : l.length + 21 ≤ k) : journal_numbers.f k l = some (numsEnc l) := by
  unfold journal_numbers.f
  have := nums_l0 l hl l.length k 0 [] (by omega) (by omega) (by simp)
  simpa using this
theorem numbers_N (A : Option Addr) (c n : Nat) (l : List Int) (w : World) (hn : l.length = n) (hC : Kd.C (Kd.int .i64) w A n l) (hc : n ≤ c) (hl : l.length ≤ 1000) :
    Calls Try.prog 53 #[.slice A n c] w fun e w' => ∃ B m cb, e = .returned (.slice B m cb) ∧ (numsEnc l).length = m ∧ m ≤ cb ∧ R8 w' w.heap.size (.slice B m cb) (numsEnc l) ∧ Below w.heap.size w w' := by
  subst hn
  refine (journal_numbers.calls (l.length + 21) A c l _ w hC hc (nums_eq l hl _ (Nat.le_refl _))).mono ?_
  rintro e w' ⟨V, rfl, h1, h2⟩
  obtain ⟨B, m, cb, rfl, h3, h4⟩ := R8_form h1
  exact ⟨B, m, cb, rfl, h3, h4, h1, h2⟩
theorem encode_N (s v k se rq : Int) (A : Option Addr) (c n : Nat) (l : List S40) (w : World) (hn : l.length = n) (hC : Kd.C k40 w A n l) (hc : n ≤ c) :
    Calls Try.prog 52 #[.agg #[.int .i64 s, .int .i64 v, .int .i64 k, .int .i64 se, .int .i64 rq, .slice A n c]] w fun e w' => ∃ B m cb, e = .returned (.tuple #[.slice B m cb, .int .i64 (if entOk s v k se rq l = true then 0 else 30)]) ∧ R8 w' w.heap.size (.slice B m cb) (if entOk s v k se rq l = true then entBytes s v k se rq l else []) ∧ Below w.heap.size w w' := by
  subst hn
  refine (note_EncodeEntry.calls s v k se rq A c l _ _ w hC hc (show note_EncodeEntry.f s v k se rq l = some (if entOk s v k se rq l = true then entBytes s v k se rq l else [], if entOk s v k se rq l = true then 0 else 30) by unfold note_EncodeEntry.f; split <;> rfl)).mono ?_
  rintro e w' ⟨V, rfl, h1, h2⟩
  obtain ⟨B, m, cb, rfl, h3, h4⟩ := R8_form h1
  exact ⟨B, m, cb, rfl, h1, h2⟩
theorem numsEnc_len (l : List Int) : (numsEnc l).length ≤ l.length * 5 := by
  unfold numsEnc
  induction l with
  | nil => simp
  | cons v vs ih =>
    have := numEnc_len v
    rw [List.map_cons, List.flatten_cons, List.length_append, List.length_cons, Nat.add_mul]
    omega
theorem below_grown {w w2 w6 w7 : World} {v : Value} {L : List Int} (h6 : Below w2.heap.size w2 w6) (hA : Below w.heap.size w w2) (hg : w6.grownBy w7 v.ownBlock) (ho : R8 w6 w.heap.size v L) : Below w.heap.size w w7 :=
  (below_step hA h6).grown hg (Nat.le_trans hA.size h6.size) (fun k e => (R8_lt ho k e).1)
theorem stop_dst {P : Program} {ops : Array Oper} {Q : Exit → Act → World → Prop} {o : Oper} {rest : List Oper} {a : Act} {W : World} {N : Tmp} (_h : o.dst = some N) (h : Stop (wpList P ops Q (o :: rest) a W)) : wpList P ops Q (o :: rest) a W := h
theorem jtext_N (x : ByteArray) (w : World) : Calls Try.prog 56 #[.string x] w fun e w' => ∃ B m cb, e = .returned (.tuple #[.slice B m cb, .int .i64 (textEnc x).2]) ∧ (textEnc x).1.length = m ∧ R8 w' w.heap.size (.slice B m cb) (textEnc x).1 ∧ Below w.heap.size w w' := by
  refine (wire_Text.calls 20 x (textEnc x).1 (textEnc x).2 w (wire_Text.eq 20 (Nat.le_refl _) x)).mono ?_
  rintro e w' ⟨V, rfl, h1, h2⟩
  obtain ⟨B, m, cb, rfl, h3, h4⟩ := R8_form h1
  exact ⟨B, m, cb, rfl, h3, h1, h2⟩

/-- The first twelve bytes; a sum behind bytes; a record's bytes; what Encode answers. -/
def recHead (sq kd : Int) (m : Nat) : List Int := ([74, 82, kd % 256, 0] ++ four4 sq) ++ four4 (m : Int)
def withSum (l : List Int) : List Int := l ++ four4 (sumW l)
def recBytes (sq kd : Int) (b : List Int) : List Int := withSum (withSum (recHead sq kd b.length) ++ b)
def seqOk (sq : Int) : Bool := decide (1 ≤ sq) && decide (sq ≤ 2147483647)
def recEnc (sq kd s v k se rq : Int) (l : List S40) (vn vp vb st of : Int) (x : ByteArray) : List Int × Int :=
  if (x.size : Int) > 200000 then ([], 2) else
  if (recBody kd s v k se rq l vn vp vb st of x).2 && seqOk sq then (recBytes sq kd (recBody kd s v k se rq l vn vp vb st of x).1, 0) else ([], 70)
theorem numBytes_ok5 (v : Int) : bytesOk (numEnc v).1 = true := by
  unfold numEnc
  split
  · rfl
  · exact numBytes_ok 4 v (by omega)
theorem textEnc_bytes (x : ByteArray) : bytesOk (textEnc x).1 = true := by
  unfold textEnc
  split
  · rfl
  · exact bytesOk_append (numBytes_ok 4 _ (by omega)) (bytesOf_ok x)
theorem numsEnc_ok (l : List Int) : bytesOk (numsEnc l) = true := by
  unfold numsEnc
  induction l with
  | nil => rfl
  | cons v vs ih => rw [List.map_cons, List.flatten_cons]; exact bytesOk_append (numBytes_ok5 v) ih
theorem opEnc_ok (o : S40) : bytesOk (opEnc o) = true := by
  unfold opEnc
  refine bytesOk_append (bytesOk_append (bytesOk_append (bytesOk_append (numBytes_ok5 _) (textEnc_bytes _)) (textEnc_bytes _)) ?_) (numBytes_ok5 _)
  split
  · exact numBytes_ok5 _
  · exact bytesOk_append (numBytes_ok5 _) (numBytes_ok5 _)
theorem opsEnc_ok (l : List S40) : bytesOk (opsEnc l) = true := by
  unfold opsEnc opsEncs
  refine bytesOk_append (numBytes_ok5 _) ?_
  induction l with
  | nil => rfl
  | cons o l ih => rw [List.map_cons, List.flatten_cons]; exact bytesOk_append (opEnc_ok o) ih
theorem entBytes_ok (s v k se rq : Int) (l : List S40) : bytesOk (entBytes s v k se rq l) = true := by
  unfold entBytes
  exact bytesOk_append (bytesOk_append (bytesOk_append (bytesOk_append (bytesOk_append (bytesOk_append rfl (numBytes_ok5 _)) (numBytes_ok5 _)) (numBytes_ok5 _)) (numBytes_ok5 _)) (numBytes_ok5 _)) (opsEnc_ok l)
theorem entBytes_len (s v k se rq : Int) (l : List S40) : (entBytes s v k se rq l).length ≤ 30 + l.length * 530000 := by
  have h1 := numEnc_len s
  have h2 := numEnc_len v
  have h3 := numEnc_len k
  have h4 := numEnc_len se
  have h5 := numEnc_len rq
  have h6 := numEnc_len (l.length : Int)
  have h7 := opsEncs_len l
  unfold entBytes opsEnc
  simp only [List.length_append, List.length_nil]
  omega
section
variable (kd s v k se rq : Int) (l : List S40) (vn vp vb st of : Int) (x : ByteArray)
theorem recBody_ok : bytesOk (recBody kd s v k se rq l vn vp vb st of x).1 = true := by
  unfold recBody
  split
  · simp only
    split
    · exact entBytes_ok _ _ _ _ _ _
    · rfl
  split
  · exact numsEnc_ok _
  split
  · exact numsEnc_ok _
  split
  · exact bytesOk_append (numsEnc_ok _) (textEnc_bytes x)
  split
  · exact bytesOk_append (numsEnc_ok _) (textEnc_bytes x)
  split
  · exact numsEnc_ok _
  · rfl
theorem recBody_len : (recBody kd s v k se rq l vn vp vb st of x).1.length ≤ 3000000 := by
  have ht := textEnc_len (s := x)
  have h1 := numsEnc_len [vn, vp, vb]
  have h2 := numsEnc_len [vn]
  have h3 := numsEnc_len [vn, st, of]
  have h4 := numsEnc_len [st, of]
  have h5 := numsEnc_len [st]
  simp only [List.length_cons, List.length_nil] at h1 h2 h3 h4 h5
  unfold recBody
  split
  · simp only
    split
    · rename_i he
      have h6 := entOk_ops he
      have h7 := entBytes_len s v k se rq l
      have : l.length * 530000 ≤ 4 * 530000 := Nat.mul_le_mul_right _ h6
      omega
    · simp
  split
  · simp only; omega
  split
  · simp only; omega
  split
  · simp only [List.length_append]; omega
  split
  · simp only [List.length_append]; omega
  split
  · simp only; omega
  · simp
end

section
variable (kd s v k se rq : Int) (l : List S40) (vn vp vb st of : Int) (x : ByteArray)
theorem recHead_len (sq : Int) (m : Nat) : (recHead sq kd m).length = 12 := by simp [recHead, four4_len]
theorem recHead_ok (sq : Int) (m : Nat) : bytesOk (recHead sq kd m) = true := by
  unfold recHead
  refine bytesOk_append (bytesOk_append ?_ (four4_ok _)) (four4_ok _)
  have h1 : 0 ≤ kd % 256 := Int.emod_nonneg _ (by decide)
  have h2 : kd % 256 < 256 := Int.emod_lt_of_pos _ (by decide)
  simp [bytesOk, h1, h2]
theorem withSum_ok {b : List Int} (h : bytesOk b = true) : bytesOk (withSum b) = true := bytesOk_append h (four4_ok _)
theorem withSum_len (b : List Int) : (withSum b).length = b.length + 4 := by unfold withSum; rw [List.length_append, four4_len]
end

theorem R8_stored {W : World} {base : Nat} {A : Option Addr} {n c : Nat} {l : List Int} (h : R8 W base (.slice A n c) l) (i : Nat) (hi : i < n) :
    ∃ g, A = some ⟨g, 0, none⟩ ∧ base ≤ g ∧ W.cell? ⟨g, i, none⟩ = some (.int .u8 (rd l i)) ∧ W.frozen? ⟨g, i, none⟩ = false ∧
      (∀ x : Int, R8 (W.setCell ⟨g, i, none⟩ (.int .u8 x)) base (.slice A n c) (l.set i x)) := by
  have ho := R8_own h
  have hn : n = l.length := (Kd.R_reads' h).1
  subst hn
  rcases ho.2 with ⟨h', _⟩ | ⟨g, cap, cur, h', hg, _⟩
  · injection h' with _ h2 _; omega
  · injection h' with hA hc
    subst hA
    have ho' : W.ownsRow base 5 1 (.slice (some ⟨g, 0, none⟩) l.length c) l.length (nums .u8 l) := ho
    have ha := own_at ho' (i : Int) (by omega) (by omega)
    rw [Int.toNat_natCast] at ha
    refine ⟨g, rfl, hg, ha.1, ha.2, fun x => ?_⟩
    have hs := (own_store ho' (i : Int) x).1
    rw [Int.toNat_natCast] at hs
    refine own_R8 ?_
    rw [List.length_set]
    exact hs
theorem pw_24 : wrap64 (24 - wrap64 (8 * 0)) = 24 := by unfold wrap64; omega
theorem pw_16 : wrap64 (24 - wrap64 (8 * 1)) = 16 := by unfold wrap64; omega
theorem pw_8 : wrap64 (24 - wrap64 (8 * 2)) = 8 := by unfold wrap64; omega
theorem pw_0 : wrap64 (24 - wrap64 (8 * 3)) = 0 := by unfold wrap64; omega
theorem pi_1 : wrap64 (0 + 1) = 1 := by unfold wrap64; omega
theorem pi_2 : wrap64 (1 + 1) = 2 := by unfold wrap64; omega
theorem pi_3 : wrap64 (2 + 1) = 3 := by unfold wrap64; omega
theorem pi_4 : wrap64 (3 + 1) = 4 := by unfold wrap64; omega
theorem pp_at (n j : Nat) (h : n ≤ 100000000) (hj : j < 4) : wrap64 ((n : Int) + (j : Int)) = ((n + j : Nat) : Int) := by unfold wrap64; omega
theorem ps_24 (v : Int) : shr .i64 v 24 % 256 = v / 16777216 % 256 := by
  have : (2 : Int) ^ min (24 : Int).toNat IntKind.i64.bits = 16777216 := by decide
  unfold shr; rw [this]
theorem ps_16 (v : Int) : shr .i64 v 16 % 256 = v / 65536 % 256 := by
  have : (2 : Int) ^ min (16 : Int).toNat IntKind.i64.bits = 65536 := by decide
  unfold shr; rw [this]
theorem ps_8 (v : Int) : shr .i64 v 8 % 256 = v / 256 % 256 := by
  have : (2 : Int) ^ min (8 : Int).toNat IntKind.i64.bits = 256 := by decide
  unfold shr; rw [this]
theorem ps_0 (v : Int) : shr .i64 v 0 % 256 = v % 256 := by
  have : (2 : Int) ^ min (0 : Int).toNat IntKind.i64.bits = 1 := by decide
  unfold shr; rw [this, Int.ediv_one]
theorem set_past (pre : List Int) (j : Nat) (x : Int) (q : List Int) : (pre ++ q).set (pre.length + j) x = pre ++ q.set j x := by
  rw [List.set_append_right _ _ (by omega)]
  congr 2
  omega
theorem put_step (k : Nat) (pre q : List Int) (a v : Int) (i : Nat) (s : Int) (hq : q.length + pre.length ≤ 100000000) (hi : i < 4) (hiq : i < q.length) (hs : wrap64 (24 - wrap64 (8 * (i : Int))) = s) (hs0 : 0 ≤ s) :
    journal_put.l0 (k + 1) (pre ++ q) (pre.length : Int) v (i : Int) = journal_put.l0 k (pre ++ q.set i (shr .i64 v s % 256)) (pre.length : Int) v (wrap64 ((i : Int) + 1)) := by
  have hp := pp_at pre.length i (by omega) hi
  have h4 : (i : Int) < 4 := by omega
  have h5 : (0 : Int) ≤ ((pre.length + i : Nat) : Int) := Int.natCast_nonneg _
  have h6 : ((pre.length + i : Nat) : Int) < ((pre ++ q).length : Int) := by
    rw [List.length_append]
    exact Int.ofNat_lt.2 (Nat.add_lt_add_left hiq _)
  simp only [journal_put.l0]
  rw [if_pos h4, hs, if_pos hs0, hp, if_pos h5, if_pos h6, Int.toNat_natCast, set_past]
theorem put_at (pre mid post : List Int) (hm : mid.length = 4) (v : Int) (h0 : 0 ≤ v) (h1 : v < 4294967296) (hl : pre.length + post.length ≤ 10000000) (k : Nat) (hk : 5 ≤ k) : journal_put.f k (pre ++ (mid ++ post)) (pre.length : Int) v = some (pre ++ (four4 v ++ post)) := by
  obtain ⟨k, rfl⟩ : ∃ m, k = m + 1 + 1 + 1 + 1 + 1 := ⟨k - 5, by omega⟩
  match mid, hm with
  | [a, b, c, d], _ =>
    have hq : ∀ q : List Int, q.length = post.length + 4 → q.length + pre.length ≤ 100000000 := fun q hq => by omega
    unfold journal_put.f
    have e0 := put_step (k + 1 + 1 + 1 + 1) pre ([a, b, c, d] ++ post) 0 v 0 24 (hq _ (by simp)) (by decide) (by simp) pw_24 (by decide)
    have e1 := put_step (k + 1 + 1 + 1) pre ([v / 16777216 % 256, b, c, d] ++ post) 0 v 1 16 (hq _ (by simp)) (by decide) (by simp) pw_16 (by decide)
    have e2 := put_step (k + 1 + 1) pre ([v / 16777216 % 256, v / 65536 % 256, c, d] ++ post) 0 v 2 8 (hq _ (by simp)) (by decide) (by simp) pw_8 (by decide)
    have e3 := put_step (k + 1) pre ([v / 16777216 % 256, v / 65536 % 256, v / 256 % 256, d] ++ post) 0 v 3 0 (hq _ (by simp)) (by decide) (by simp) pw_0 (by decide)
    rw [show ((0 : Nat) : Int) + 1 = 0 + 1 from rfl, pi_1, ps_24] at e0
    rw [show ((1 : Nat) : Int) + 1 = 1 + 1 from rfl, pi_2, ps_16] at e1
    rw [show ((2 : Nat) : Int) + 1 = 2 + 1 from rfl, pi_3, ps_8] at e2
    rw [show ((3 : Nat) : Int) + 1 = 3 + 1 from rfl, pi_4, ps_0] at e3
    refine Eq.trans e0 (Eq.trans e1 (Eq.trans e2 (Eq.trans e3 ?_)))
    simp only [journal_put.l0]
    rw [if_neg (by decide)]
    rfl
theorem put_N (A : Option Addr) (n c : Nat) (pre mid post L : List Int) (i v : Int) (w0 w : World) (hL : pre ++ (mid ++ post) = L) (hi : (pre.length : Int) = i) (hm : mid.length = 4) (h0 : 0 ≤ v) (h1 : v < 4294967296) (hl : pre.length + post.length ≤ 10000000) (hB : Below w0.heap.size w0 w) (ho : R8 w w0.heap.size (.slice A n c) L) :
    Calls Try.prog 32 #[.slice A n c, .int .i64 i, .int .i64 v] w fun e w' => e = .returned (.tuple #[]) ∧ R8 w' w0.heap.size (.slice A n c) (pre ++ (four4 v ++ post)) ∧ Below w0.heap.size w0 w' := by
  subst hL
  subst hi
  refine (journal_put.calls 5 (fun _ => True) (.slice A n c) _ _ v _ w0 w hB ho (put_at pre mid post hm v h0 h1 hl 5 (by decide))).mono ?_
  rintro e w' ⟨rfl, h2, h3, _⟩
  exact ⟨rfl, Kd.R_mono h2 (fun _ _ => trivial), h3⟩
theorem sum_N (A : Option Addr) (n c : Nat) (L : List Int) (w : World) (hn : L.length = n) (hc : n ≤ c) (hC : C8 w A n L) (hok : bytesOk L = true) :
    Calls Try.prog 33 #[.slice A n c] w fun e w' => e = .returned (.int .i64 (sumW L)) ∧ Below w.heap.size w w' := by
  subst hn
  refine wire_Sum.calls A c L _ w hC hc ?_
  have := sumW_range L hok
  unfold wire_Sum.f wire_sum.f
  simp only [Option.bind_some]
  congr 1
  unfold wrap64; omega
section
variable {ops : Array Oper} {o : Oper} {a : Act} {Q : Exit → Act → World → Prop} {rest : List Oper} {W : World}
/-- xs[j:] of a row of one's own: the address told. -/
theorem from8g (hgd : o.guard = none) (x lo : Operand) (ho : o.op = .slice 29 x (some lo) none none) {g n c : Nat} {j : Nat} {kl : IntKind} (hx : a.eval x = .slice (some ⟨g, 0, none⟩) n c) (hlo : a.eval lo = .int kl (j : Int)) (h1 : j ≤ n) (hc : n ≤ c) (hj : j < c)
    (h : wpList Try.prog ops Q rest (a.put o.dst (.slice (some ⟨g, j, none⟩) (n - j) (c - j))) W) : Stop (wpList Try.prog ops Q (o :: rest) a W) := by
  obtain ⟨i0, hi, hzz⟩ := Option.map_eq_some_iff.1 info5'
  simp only [Prod.mk.injEq] at hzz
  have hrun := cut_from (P := Try.prog) 29 5 kl Try.underlying29 hi 1 hzz.2.1 (some ⟨g, 0, none⟩) n c (j : Int) (by omega) (by omega) W
  rw [Int.toNat_natCast, if_neg (by omega), Option.map_some, add0, Nat.mul_one] at hrun
  refine run_stop hgd ?_ h
  have e := run_sliceAt_slice (P := Try.prog) (w := W) 29 (.slice (some ⟨g, 0, none⟩) n c) (some (.int kl (j : Int))) none none hu29
  simp [execOp, ho, hx, hlo, e, hrun, Result.andThen]
/-- copy(d[off:], s) into a row of one's own. -/
theorem copy8_at (w0 : World) (base : Nat) (hgd : o.guard = none) (d s : Operand) (ho : o.op = .call { callee := .builtin .copy, args := #[d, s], argTypes := #[29, 29] })
    {g n c off dl dc : Nat} {A : Option Addr} {m cs : Nat} {xs ys : List Int} (hd : a.eval d = .slice (some ⟨g, off, none⟩) dl dc) (hs : a.eval s = .slice A m cs) (HO : R8 W base (.slice (some ⟨g, 0, none⟩) n c) xs) (HR : C8 W A m ys)
    (HB : Below base w0 W) (hm : m ≤ dl) (hoff : off + m ≤ n)
    (h : ∀ w1, R8 w1 base (.slice (some ⟨g, 0, none⟩) n c) (xs.take off ++ (ys ++ xs.drop (off + m))) → Below base w0 w1 → wpList Try.prog ops Q rest (a.put o.dst (goInt (m : Nat))) w1) :
    Stop (wpList Try.prog ops Q (o :: rest) a W) := by
  have hO := R8_own HO
  have hn : n = xs.length := (Kd.R_reads' HO).1
  have hR := Kd.reads_of_C (enc := Value.int .u8) (d := (0 : Int)) (h1 := fun _ => rfl) HR
  obtain ⟨hl, hmax, hcell⟩ := hR
  obtain ⟨h1, h2⟩ := hO
  have l1 : (encs (Value.int .u8) ys).length = m := by rw [encs_length]; exact hl
  rcases Nat.eq_zero_or_pos m with h0 | h0
  · obtain rfl : ys = [] := List.eq_nil_of_length_eq_zero (by omega)
    refine wpList_copy_nothing hgd d s 29 29 ho 5 Try.underlying29 info5_size _ A dl dc m cs hd hs (by rw [h0]; exact Nat.zero_min _) ?_
    have := h W (by rw [h0]; simpa using HO) HB
    rw [h0] at this
    exact this
  · rcases h2 with ⟨h3, _⟩ | ⟨g', cap, cur, h3, hg, hh, hnc, hcap, hsz, hcur⟩
    · cases h3
    · cases h3
      obtain ⟨ad, rfl, hc⟩ := hcell h0
      have hcur2 : cur.toList.take xs.length = encs (Value.int .u8) xs := by simpa using hcur
      have hmin : Nat.min m dl = m := Nat.min_eq_left hm
      refine wpList_copy_own hgd d s 29 29 ho 5 Try.underlying29 info5_size g off dl dc ad m cs hd hs cur 5 hh (encs (Value.int .u8) ys) (by rw [l1, hmin]) ?_ (by rw [l1]; omega) ?_ ?_
      · intro j u hu
        obtain ⟨hj, hju⟩ := List.getElem?_eq_some_iff.1 hu
        rw [l1] at hj
        rw [hc j (by omega), ← hju]
        have : j < ys.length := by omega
        simp [encs, this]
      · intro u hu
        simp only [encs, List.mem_map] at hu
        obtain ⟨z, _, rfl⟩ := hu
        rfl
      · have hset := setRow_heap W g cur (cur.toList.take off ++ (encs (Value.int .u8) ys ++ cur.toList.drop (off + (encs (Value.int .u8) ys).length))).toArray 5 (0, 0) hh
        have e2 : encs (Value.int .u8) (xs.take off ++ (ys ++ xs.drop (off + m))) = (encs (Value.int .u8) xs).take off ++ (encs (Value.int .u8) ys ++ (encs (Value.int .u8) xs).drop (off + m)) := by simp [encs, List.map_take, List.map_drop]
        have el : (xs.take off ++ (ys ++ xs.drop (off + m))).length = xs.length := by simp only [List.length_append, List.length_take, List.length_drop]; omega
        rw [l1] at hset ⊢
        have hsize : (cur.toList.take off ++ (encs (Value.int .u8) ys ++ cur.toList.drop (off + m))).toArray.size = c * 1 := by
          simp only [List.size_toArray, List.length_append, List.length_take, List.length_drop, l1, Array.length_toList]
          omega
        refine h _ (own_R8 ⟨by simp [encs_length], .inr ⟨g, c, _, ?_, hg, hset, by rw [el, ← hn]; exact hnc, hcap, hsize, ?_⟩⟩) (below_setRow HB hg _)
        · rw [el, ← hn]
        · rw [el, e2, ← hcur2]
          have lc : cur.toList.length = c * 1 := by rw [Array.length_toList]; exact hsz
          have la : (cur.toList.take off).length = off := by rw [List.length_take]; omega
          rw [Nat.mul_one, List.take_append, la, List.take_append, l1, List.take_of_length_le (l := cur.toList.take off) (by rw [la]; omega), List.take_of_length_le (l := encs (Value.int .u8) ys) (by rw [l1]; omega), List.take_take, Nat.min_eq_left (by omega), List.drop_take, Nat.sub_sub]
end
set_option maxHeartbeats 64000000 in
set_option maxRecDepth 100000 in
theorem body_C1 (kd s v k se rq : Int) (A : Option Addr) (c n : Nat) (l : List S40) (vn vp vb st of : Int) (x : ByteArray) (w : World) (hk : kd = 1) (hn : l.length = n) (hC : Kd.C k40 w A n l) (hc : n ≤ c) (r1 : List Int) (r2 : Bool) (hr : recBody kd s v k se rq l vn vp vb st of x = (r1, r2)) :
    Calls Try.prog 31 #[.agg #[.int .i64 kd, .int .i64 s, .int .i64 v, .int .i64 k, .int .i64 se, .int .i64 rq, .slice A n c, .int .i64 vn, .int .i64 vp, .int .i64 vb, .int .i64 st, .int .i64 of, .string x]] w fun e w' => ∃ V, e = .returned (.tuple #[V, .bool r2]) ∧ R8 w' w.heap.size V r1 ∧ Below w.heap.size w w' := by
  have hu24 := Try.underlying24
  have hu26 := Try.underlying26
  have hu28 := Try.underlying28
  have HKK := Aside0.mk hk
  clear hk
  have HN := Aside0.mk hn
  have HC := Aside0.mk hC
  have HCC := Aside0.mk hc
  have HR := Aside0.mk hr
  clear hn hC hc hr
  go_enter Try.func31, Try.ntmps31
  go_upto_region 2 with (fail)
  obtain ⟨p, hp⟩ : ∃ p, p = w.heap.size := ⟨_, rfl⟩
  obtain ⟨q, hq⟩ : ∃ q, q = w.heap.size + 1 := ⟨_, rfl⟩
  obtain ⟨w1, hw1⟩ : ∃ w1, w1 = w.alloc (.cells #[.int .i64 kd, .int .i64 s, .int .i64 v, .int .i64 k, .int .i64 se, .int .i64 rq, .slice A n c, .int .i64 vn, .int .i64 vp, .int .i64 vb, .int .i64 st, .int .i64 of, .string x] 28) := ⟨_, rfl⟩
  obtain ⟨w2, hw2⟩ : ∃ w2, w2 = w1.alloc (.cells #[.int .i64 s, .int .i64 v, .int .i64 k, .int .i64 se, .int .i64 rq, .slice A n c] 24) := ⟨_, rfl⟩
  try simp only [Act.put, sx1, sx2, sx3]
  rw [← hw1, ← hw2]
  try rw [← hq]
  rw [← hp]
  have hz1 : w1.heap.size = w.heap.size + 1 := by rw [hw1]; simp
  have HA1 := Aside0.mk (show Below w.heap.size w w1 by rw [hw1]; exact below_alloc (Below.refl _ _) _)
  have HA := Aside0.mk (show Below w.heap.size w w2 by rw [hw2]; exact below_alloc HA1.out _)
  have HPB := Aside0.mk (show w2.heap[p]? = some (.cells #[.int .i64 kd, .int .i64 s, .int .i64 v, .int .i64 k, .int .i64 se, .int .i64 rq, .slice A n c, .int .i64 vn, .int .i64 vp, .int .i64 vb, .int .i64 st, .int .i64 of, .string x] 28 (0, 0)) by
    rw [hw2]
    refine (Below.heap_alloc _ _ _ (by omega)).trans ?_
    rw [hw1, hp]; exact heap_alloc_new w _)
  have HQB := Aside0.mk (show w2.heap[q]? = some (.cells #[.int .i64 s, .int .i64 v, .int .i64 k, .int .i64 se, .int .i64 rq, .slice A n c] 24 (0, 0)) by rw [hw2, hq, ← hz1]; exact heap_alloc_new w1 _)
  clear hp hq hw1 hw2 hz1 HA1
  have kp0 : w2.cell? ⟨p, 0, none⟩ = some (.int .i64 kd) := blk_cell (HPB.out) 0
  have kp1 : w2.cell? ⟨p, 1, none⟩ = some (.int .i64 s) := blk_cell (HPB.out) 1
  have kp2 : w2.cell? ⟨p, 2, none⟩ = some (.int .i64 v) := blk_cell (HPB.out) 2
  have kp3 : w2.cell? ⟨p, 3, none⟩ = some (.int .i64 k) := blk_cell (HPB.out) 3
  have kp4 : w2.cell? ⟨p, 4, none⟩ = some (.int .i64 se) := blk_cell (HPB.out) 4
  have kp5 : w2.cell? ⟨p, 5, none⟩ = some (.int .i64 rq) := blk_cell (HPB.out) 5
  have kp6 : w2.cell? ⟨p, 6, none⟩ = some (.slice A n c) := blk_cell (HPB.out) 6
  have kp7 : w2.cell? ⟨p, 7, none⟩ = some (.int .i64 vn) := blk_cell (HPB.out) 7
  have kp8 : w2.cell? ⟨p, 8, none⟩ = some (.int .i64 vp) := blk_cell (HPB.out) 8
  have kp9 : w2.cell? ⟨p, 9, none⟩ = some (.int .i64 vb) := blk_cell (HPB.out) 9
  have kp10 : w2.cell? ⟨p, 10, none⟩ = some (.int .i64 st) := blk_cell (HPB.out) 10
  have kp11 : w2.cell? ⟨p, 11, none⟩ = some (.int .i64 of) := blk_cell (HPB.out) 11
  have kp12 : w2.cell? ⟨p, 12, none⟩ = some (.string x) := blk_cell (HPB.out) 12
  have kq0 : w2.cell? ⟨q, 0, none⟩ = some (.int .i64 s) := blk_cell (HQB.out) 0
  have kq1 : w2.cell? ⟨q, 1, none⟩ = some (.int .i64 v) := blk_cell (HQB.out) 1
  have kq2 : w2.cell? ⟨q, 2, none⟩ = some (.int .i64 k) := blk_cell (HQB.out) 2
  have kq3 : w2.cell? ⟨q, 3, none⟩ = some (.int .i64 se) := blk_cell (HQB.out) 3
  have kq4 : w2.cell? ⟨q, 4, none⟩ = some (.int .i64 rq) := blk_cell (HQB.out) 4
  have kq5 : w2.cell? ⟨q, 5, none⟩ = some (.slice A n c) := blk_cell (HQB.out) 5
  go_cut [5] (fun v5 wc => v5 = .bool (blankE s v k se rq l) ∧ w2 = wc)
  case first =>
    by_cases h0 : s = 0
    · have c0 : (s == 0) = true := beq_iff_eq.mpr h0
      have d0 := Aside0.mk h0
      clear h0
      by_cases h1 : v = 0
      · have c1 : (v == 0) = true := beq_iff_eq.mpr h1
        have d1 := Aside0.mk h1
        clear h1
        by_cases h2 : k = 0
        · have c2 : (k == 0) = true := beq_iff_eq.mpr h2
          have d2 := Aside0.mk h2
          clear h2
          by_cases h3 : se = 0
          · have c3 : (se == 0) = true := beq_iff_eq.mpr h3
            have d3 := Aside0.mk h3
            clear h3
            by_cases h4 : rq = 0
            · have c4 : (rq == 0) = true := beq_iff_eq.mpr h4
              have d4 := Aside0.mk h4
              clear h4
              have HF := Aside0.mk (show blankE s v k se rq l = ((n : Int) == 0) by
                unfold blankE
                rw [HN.out, d0.out, d1.out, d2.out, d3.out, d4.out]
                by_cases h : n = 0
                · rw [h]; rfl
                · rw [decide_eq_false h, show ((n : Int) == 0) = false from beq_eq_false_iff_ne.mpr (by omega)]; rfl)
              go_wp2; go_meet
              case rel => exact ⟨by rw [HF.out], rfl⟩
            · have c4 : (rq == 0) = false := beq_eq_false_iff_ne.mpr h4
              have d4 := Aside0.mk h4
              clear h4
              have HF := Aside0.mk (show blankE s v k se rq l = false by unfold blankE; rw [beq_eq_false_iff_ne.mpr d4.out]; simp)
              go_wp2; go_meet
              case rel => exact ⟨by rw [HF.out], rfl⟩
          · have c3 : (se == 0) = false := beq_eq_false_iff_ne.mpr h3
            have d3 := Aside0.mk h3
            clear h3
            have HF := Aside0.mk (show blankE s v k se rq l = false by unfold blankE; rw [beq_eq_false_iff_ne.mpr d3.out]; simp)
            go_wp2; go_meet
            case rel => exact ⟨by rw [HF.out], rfl⟩
        · have c2 : (k == 0) = false := beq_eq_false_iff_ne.mpr h2
          have d2 := Aside0.mk h2
          clear h2
          have HF := Aside0.mk (show blankE s v k se rq l = false by unfold blankE; rw [beq_eq_false_iff_ne.mpr d2.out]; simp)
          go_wp2; go_meet
          case rel => exact ⟨by rw [HF.out], rfl⟩
      · have c1 : (v == 0) = false := beq_eq_false_iff_ne.mpr h1
        have d1 := Aside0.mk h1
        clear h1
        have HF := Aside0.mk (show blankE s v k se rq l = false by unfold blankE; rw [beq_eq_false_iff_ne.mpr d1.out]; simp)
        go_wp2; go_meet
        case rel => exact ⟨by rw [HF.out], rfl⟩
    · have c0 : (s == 0) = false := beq_eq_false_iff_ne.mpr h0
      have d0 := Aside0.mk h0
      clear h0
      have HF := Aside0.mk (show blankE s v k se rq l = false by unfold blankE; rw [beq_eq_false_iff_ne.mpr d0.out]; simp)
      go_wp2; go_meet
      case rel => exact ⟨by rw [HF.out], rfl⟩
  case rest =>
    obtain ⟨rfl, rfl⟩ := hcut
    obtain ⟨eb, heb⟩ : ∃ eb, blankE s v k se rq l = eb := ⟨_, rfl⟩
    rw [heb]
    have HEB := Aside0.mk heb
    clear heb
    go_upto_region 3 with (fail)
    go_cut [6] (fun v6 wc => v6 = .bool (noState of x) ∧ w2 = wc)
    case first =>
      by_cases h0 : x.toList = []
      · have c0 : (x.toList == ([] : List UInt8)) = true := beq_iff_eq.mpr h0
        have c1 : decide (x.toList = []) = true := decide_eq_true h0
        have d0 := Aside0.mk h0
        have HF := Aside0.mk (show noState of x = (of == 0) by unfold noState; rw [decide_eq_true d0.out]; simp)
        clear h0
        go_wp2; go_meet
        case rel => exact ⟨by rw [HF.out], rfl⟩
      · have c0 : (x.toList == ([] : List UInt8)) = false := beq_eq_false_iff_ne.mpr h0
        have c1 : decide (x.toList = []) = false := decide_eq_false h0
        have d0 := Aside0.mk h0
        clear h0
        have HF := Aside0.mk (show noState of x = false by unfold noState; rw [decide_eq_false d0.out]; simp)
        go_wp2; go_meet
        case rel => exact ⟨by rw [HF.out], rfl⟩
    case rest =>
      obtain ⟨rfl, rfl⟩ := hcut
      obtain ⟨sb, hsb⟩ : ∃ sb, noState of x = sb := ⟨_, rfl⟩
      rw [hsb]
      have HSB := Aside0.mk hsb
      clear hsb
      have hk := HKK.out
      have k1 := Aside0.mk (show kd = 1 from hk)
      have e1 : (kd == 1) = true := beq_iff_eq.mpr hk
      clear hk
      have hr := HR.out
      unfold recBody at hr
      rw [if_pos k1.out] at hr
      simp only [Prod.mk.injEq] at hr
      have HR1 := Aside0.mk hr.1
      have HR2 := Aside0.mk hr.2
      clear HR hr
      go_wp2_with fail
      refine (encode_N s v k se rq A c n l w2 HN.out (Kd.C_below HC.out HA.out) HCC.out).mono ?_
      rintro e3 w3 ⟨B, m, cb, rfl, ho, hb⟩
      have HU := Aside0.mk hb
      have HO := Aside0.mk ho
      have hp3 := (hb.block p (blk_lt HPB.out)).trans HPB.out
      clear kp0 kp1 kp2 kp3 kp4 kp5 kp6 kp7 kp8 kp9 kp10 kp11 kp12 kq0 kq1 kq2 kq3 kq4 kq5 ho hb
      have kp7 : w3.cell? ⟨p, 7, none⟩ = some (.int .i64 vn) := blk_cell hp3 7
      have kp8 : w3.cell? ⟨p, 8, none⟩ = some (.int .i64 vp) := blk_cell hp3 8
      have kp9 : w3.cell? ⟨p, 9, none⟩ = some (.int .i64 vb) := blk_cell hp3 9
      have kp10 : w3.cell? ⟨p, 10, none⟩ = some (.int .i64 st) := blk_cell hp3 10
      clear hp3
      obtain ⟨ok, hok⟩ : ∃ ok, entOk s v k se rq l = ok := ⟨_, rfl⟩
      have HOK := Aside0.mk hok
      rw [hok]
      rw [hok] at HO
      clear hok
      have HO2 := Aside0.mk (show R8 w3 w.heap.size (.slice B m cb) (if ok = true then entBytes s v k se rq l else []) from Kd.R_lower HO.out HA.out.size)
      clear HO
      cases ok
      · simp only [Bool.false_eq_true, if_false]
        go_wp2
        refine bodyPost_ret (results_tmp2 rfl _ _ _) rfl ?_
        exact ⟨_, by rw [← HR2.out, HOK.out]; first | rfl | simp, by rw [← HR1.out, HOK.out]; exact HO2.out, below_step HA.out HU.out⟩
      · simp only [if_true]
        go_upto_region 7 with (fail)
        go_cut [2, 3] (fun v2 v3 wc => v2 = .slice B m cb ∧ v3 = .bool (noView vn vp vb && ((st == 0) && sb)) ∧ w3 = wc)
        case first =>
          by_cases h0 : vn = 0
          · have c0 : (vn == 0) = true := beq_iff_eq.mpr h0
            have d0 := Aside0.mk h0
            clear h0
            by_cases h1 : vp = 0
            · have c1 : (vp == 0) = true := beq_iff_eq.mpr h1
              have d1 := Aside0.mk h1
              clear h1
              by_cases h2 : vb = 0
              · have c2 : (vb == 0) = true := beq_iff_eq.mpr h2
                have d2 := Aside0.mk h2
                clear h2
                by_cases h3 : st = 0
                · have c3 : (st == 0) = true := beq_iff_eq.mpr h3
                  have d3 := Aside0.mk h3
                  clear h3
                  have HF := Aside0.mk (show (noView vn vp vb && ((st == 0) && sb)) = sb by unfold noView; rw [beq_iff_eq.mpr d0.out, beq_iff_eq.mpr d1.out, beq_iff_eq.mpr d2.out, beq_iff_eq.mpr d3.out]; simp)
                  go_wp2; go_meet
                  case rel => exact ⟨rfl, by rw [HF.out], rfl⟩
                · have c3 : (st == 0) = false := beq_eq_false_iff_ne.mpr h3
                  have d3 := Aside0.mk h3
                  clear h3
                  have HF := Aside0.mk (show (noView vn vp vb && ((st == 0) && sb)) = false by unfold noView; rw [beq_eq_false_iff_ne.mpr d3.out]; simp)
                  go_wp2; go_meet
                  case rel => exact ⟨rfl, by rw [HF.out], rfl⟩
              · have c2 : (vb == 0) = false := beq_eq_false_iff_ne.mpr h2
                have d2 := Aside0.mk h2
                clear h2
                have HF := Aside0.mk (show (noView vn vp vb && ((st == 0) && sb)) = false by unfold noView; rw [beq_eq_false_iff_ne.mpr d2.out]; simp)
                go_wp2; go_meet
                case rel => exact ⟨rfl, by rw [HF.out], rfl⟩
            · have c1 : (vp == 0) = false := beq_eq_false_iff_ne.mpr h1
              have d1 := Aside0.mk h1
              clear h1
              have HF := Aside0.mk (show (noView vn vp vb && ((st == 0) && sb)) = false by unfold noView; rw [beq_eq_false_iff_ne.mpr d1.out]; simp)
              go_wp2; go_meet
              case rel => exact ⟨rfl, by rw [HF.out], rfl⟩
          · have c0 : (vn == 0) = false := beq_eq_false_iff_ne.mpr h0
            have d0 := Aside0.mk h0
            clear h0
            have HF := Aside0.mk (show (noView vn vp vb && ((st == 0) && sb)) = false by unfold noView; rw [beq_eq_false_iff_ne.mpr d0.out]; simp)
            go_wp2; go_meet
            case rel => exact ⟨rfl, by rw [HF.out], rfl⟩
        case rest =>
          obtain ⟨rfl, rfl, rfl⟩ := hcut
          obtain ⟨fb, hfb⟩ : ∃ fb, (noView vn vp vb && ((st == 0) && sb)) = fb := ⟨_, rfl⟩
          rw [hfb]
          have HFB := Aside0.mk hfb
          clear hfb
          go_wp2
          refine bodyPost_ret (results_tmp2 rfl _ _ _) rfl ?_
          exact ⟨_, by rw [← HR2.out, HOK.out, HSB.out, HFB.out]; first | rfl | simp, by rw [← HR1.out, HOK.out]; exact HO2.out, below_step HA.out HU.out⟩
def rg31.T9 : Bool × List (List Nat × List Nat) := (true, [([], []), ([0], [0]), ([1], [1]), ([], []), ([3], [3]), ([4], [4]), ([], []), ([6], [6]), ([7], [7]), ([2, 5, 8], [2, 5, 8]), ([9], [9]), ([], []), ([11], [11]), ([12, 10], [12]), ([13, 13], [13]), ([14], [14]), ([14, 15], [14, 15]), ([16, 14], [16]), ([17], [17]), ([18, 17], [17, 18]), ([19, 17], [17, 19]), ([17, 20], [17, 20]), ([21, 17], [21]), ([22], [22]), ([22, 23], [22, 23]), ([10, 22, 0, 1, 2, 3, 4, 5, 6, 7, 8, 9, 10], [10]), ([24, 25, 0, 1, 2, 3, 4, 5, 6, 7, 8, 9, 10, 11, 12, 13, 14, 15, 16, 17, 18, 19, 20, 21, 22, 23, 24, 25], [24])])
def rg31.B9 : List Nat := [0, 1, 3, 0, 8, 24, 0, 64, 192, 511, 1023, 0, 2048, 8191, 16383, 32767, 65535, 131071, 262143, 524287, 1048575, 2097151, 4194303, 8388607, 16777215, 8388607, 67108863]
theorem rg31.tab9 : rtab .any (opsOf Try.f31 9) = rg31.T9 := by kernel_rfl
theorem rg31.bits9 : waitsOk rg31.T9.2 rg31.B9 = true := by kernel_rfl
set_option maxHeartbeats 64000000 in
set_option maxRecDepth 100000 in
theorem body_C2 (kd s v k se rq : Int) (A : Option Addr) (c n : Nat) (l : List S40) (vn vp vb st of : Int) (x : ByteArray) (w : World) (hk : kd = 2) (hn : l.length = n) (hC : Kd.C k40 w A n l) (hc : n ≤ c) (r1 : List Int) (r2 : Bool) (hr : recBody kd s v k se rq l vn vp vb st of x = (r1, r2)) :
    Calls Try.prog 31 #[.agg #[.int .i64 kd, .int .i64 s, .int .i64 v, .int .i64 k, .int .i64 se, .int .i64 rq, .slice A n c, .int .i64 vn, .int .i64 vp, .int .i64 vb, .int .i64 st, .int .i64 of, .string x]] w fun e w' => ∃ V, e = .returned (.tuple #[V, .bool r2]) ∧ R8 w' w.heap.size V r1 ∧ Below w.heap.size w w' := by
  have hu24 := Try.underlying24
  have hu26 := Try.underlying26
  have hu28 := Try.underlying28
  have HKK := Aside0.mk hk
  clear hk
  have HN := Aside0.mk hn
  have HC := Aside0.mk hC
  have HCC := Aside0.mk hc
  have HR := Aside0.mk hr
  clear hn hC hc hr
  go_enter Try.func31, Try.ntmps31
  go_upto_region 2 with (fail)
  obtain ⟨p, hp⟩ : ∃ p, p = w.heap.size := ⟨_, rfl⟩
  obtain ⟨q, hq⟩ : ∃ q, q = w.heap.size + 1 := ⟨_, rfl⟩
  obtain ⟨w1, hw1⟩ : ∃ w1, w1 = w.alloc (.cells #[.int .i64 kd, .int .i64 s, .int .i64 v, .int .i64 k, .int .i64 se, .int .i64 rq, .slice A n c, .int .i64 vn, .int .i64 vp, .int .i64 vb, .int .i64 st, .int .i64 of, .string x] 28) := ⟨_, rfl⟩
  obtain ⟨w2, hw2⟩ : ∃ w2, w2 = w1.alloc (.cells #[.int .i64 s, .int .i64 v, .int .i64 k, .int .i64 se, .int .i64 rq, .slice A n c] 24) := ⟨_, rfl⟩
  try simp only [Act.put, sx1, sx2, sx3]
  rw [← hw1, ← hw2]
  try rw [← hq]
  rw [← hp]
  have hz1 : w1.heap.size = w.heap.size + 1 := by rw [hw1]; simp
  have HA1 := Aside0.mk (show Below w.heap.size w w1 by rw [hw1]; exact below_alloc (Below.refl _ _) _)
  have HA := Aside0.mk (show Below w.heap.size w w2 by rw [hw2]; exact below_alloc HA1.out _)
  have HPB := Aside0.mk (show w2.heap[p]? = some (.cells #[.int .i64 kd, .int .i64 s, .int .i64 v, .int .i64 k, .int .i64 se, .int .i64 rq, .slice A n c, .int .i64 vn, .int .i64 vp, .int .i64 vb, .int .i64 st, .int .i64 of, .string x] 28 (0, 0)) by
    rw [hw2]
    refine (Below.heap_alloc _ _ _ (by omega)).trans ?_
    rw [hw1, hp]; exact heap_alloc_new w _)
  have HQB := Aside0.mk (show w2.heap[q]? = some (.cells #[.int .i64 s, .int .i64 v, .int .i64 k, .int .i64 se, .int .i64 rq, .slice A n c] 24 (0, 0)) by rw [hw2, hq, ← hz1]; exact heap_alloc_new w1 _)
  clear hp hq hw1 hw2 hz1 HA1
  have kp0 : w2.cell? ⟨p, 0, none⟩ = some (.int .i64 kd) := blk_cell (HPB.out) 0
  have kp1 : w2.cell? ⟨p, 1, none⟩ = some (.int .i64 s) := blk_cell (HPB.out) 1
  have kp2 : w2.cell? ⟨p, 2, none⟩ = some (.int .i64 v) := blk_cell (HPB.out) 2
  have kp3 : w2.cell? ⟨p, 3, none⟩ = some (.int .i64 k) := blk_cell (HPB.out) 3
  have kp4 : w2.cell? ⟨p, 4, none⟩ = some (.int .i64 se) := blk_cell (HPB.out) 4
  have kp5 : w2.cell? ⟨p, 5, none⟩ = some (.int .i64 rq) := blk_cell (HPB.out) 5
  have kp6 : w2.cell? ⟨p, 6, none⟩ = some (.slice A n c) := blk_cell (HPB.out) 6
  have kp7 : w2.cell? ⟨p, 7, none⟩ = some (.int .i64 vn) := blk_cell (HPB.out) 7
  have kp8 : w2.cell? ⟨p, 8, none⟩ = some (.int .i64 vp) := blk_cell (HPB.out) 8
  have kp9 : w2.cell? ⟨p, 9, none⟩ = some (.int .i64 vb) := blk_cell (HPB.out) 9
  have kp10 : w2.cell? ⟨p, 10, none⟩ = some (.int .i64 st) := blk_cell (HPB.out) 10
  have kp11 : w2.cell? ⟨p, 11, none⟩ = some (.int .i64 of) := blk_cell (HPB.out) 11
  have kp12 : w2.cell? ⟨p, 12, none⟩ = some (.string x) := blk_cell (HPB.out) 12
  have kq0 : w2.cell? ⟨q, 0, none⟩ = some (.int .i64 s) := blk_cell (HQB.out) 0
  have kq1 : w2.cell? ⟨q, 1, none⟩ = some (.int .i64 v) := blk_cell (HQB.out) 1
  have kq2 : w2.cell? ⟨q, 2, none⟩ = some (.int .i64 k) := blk_cell (HQB.out) 2
  have kq3 : w2.cell? ⟨q, 3, none⟩ = some (.int .i64 se) := blk_cell (HQB.out) 3
  have kq4 : w2.cell? ⟨q, 4, none⟩ = some (.int .i64 rq) := blk_cell (HQB.out) 4
  have kq5 : w2.cell? ⟨q, 5, none⟩ = some (.slice A n c) := blk_cell (HQB.out) 5
  go_cut [5] (fun v5 wc => v5 = .bool (blankE s v k se rq l) ∧ w2 = wc)
  case first =>
    by_cases h0 : s = 0
    · have c0 : (s == 0) = true := beq_iff_eq.mpr h0
      have d0 := Aside0.mk h0
      clear h0
      by_cases h1 : v = 0
      · have c1 : (v == 0) = true := beq_iff_eq.mpr h1
        have d1 := Aside0.mk h1
        clear h1
        by_cases h2 : k = 0
        · have c2 : (k == 0) = true := beq_iff_eq.mpr h2
          have d2 := Aside0.mk h2
          clear h2
          by_cases h3 : se = 0
          · have c3 : (se == 0) = true := beq_iff_eq.mpr h3
            have d3 := Aside0.mk h3
            clear h3
            by_cases h4 : rq = 0
            · have c4 : (rq == 0) = true := beq_iff_eq.mpr h4
              have d4 := Aside0.mk h4
              clear h4
              have HF := Aside0.mk (show blankE s v k se rq l = ((n : Int) == 0) by
                unfold blankE
                rw [HN.out, d0.out, d1.out, d2.out, d3.out, d4.out]
                by_cases h : n = 0
                · rw [h]; rfl
                · rw [decide_eq_false h, show ((n : Int) == 0) = false from beq_eq_false_iff_ne.mpr (by omega)]; rfl)
              go_wp2; go_meet
              case rel => exact ⟨by rw [HF.out], rfl⟩
            · have c4 : (rq == 0) = false := beq_eq_false_iff_ne.mpr h4
              have d4 := Aside0.mk h4
              clear h4
              have HF := Aside0.mk (show blankE s v k se rq l = false by unfold blankE; rw [beq_eq_false_iff_ne.mpr d4.out]; simp)
              go_wp2; go_meet
              case rel => exact ⟨by rw [HF.out], rfl⟩
          · have c3 : (se == 0) = false := beq_eq_false_iff_ne.mpr h3
            have d3 := Aside0.mk h3
            clear h3
            have HF := Aside0.mk (show blankE s v k se rq l = false by unfold blankE; rw [beq_eq_false_iff_ne.mpr d3.out]; simp)
            go_wp2; go_meet
            case rel => exact ⟨by rw [HF.out], rfl⟩
        · have c2 : (k == 0) = false := beq_eq_false_iff_ne.mpr h2
          have d2 := Aside0.mk h2
          clear h2
          have HF := Aside0.mk (show blankE s v k se rq l = false by unfold blankE; rw [beq_eq_false_iff_ne.mpr d2.out]; simp)
          go_wp2; go_meet
          case rel => exact ⟨by rw [HF.out], rfl⟩
      · have c1 : (v == 0) = false := beq_eq_false_iff_ne.mpr h1
        have d1 := Aside0.mk h1
        clear h1
        have HF := Aside0.mk (show blankE s v k se rq l = false by unfold blankE; rw [beq_eq_false_iff_ne.mpr d1.out]; simp)
        go_wp2; go_meet
        case rel => exact ⟨by rw [HF.out], rfl⟩
    · have c0 : (s == 0) = false := beq_eq_false_iff_ne.mpr h0
      have d0 := Aside0.mk h0
      clear h0
      have HF := Aside0.mk (show blankE s v k se rq l = false by unfold blankE; rw [beq_eq_false_iff_ne.mpr d0.out]; simp)
      go_wp2; go_meet
      case rel => exact ⟨by rw [HF.out], rfl⟩
  case rest =>
    obtain ⟨rfl, rfl⟩ := hcut
    obtain ⟨eb, heb⟩ : ∃ eb, blankE s v k se rq l = eb := ⟨_, rfl⟩
    rw [heb]
    have HEB := Aside0.mk heb
    clear heb
    go_upto_region 3 with (fail)
    go_cut [6] (fun v6 wc => v6 = .bool (noState of x) ∧ w2 = wc)
    case first =>
      by_cases h0 : x.toList = []
      · have c0 : (x.toList == ([] : List UInt8)) = true := beq_iff_eq.mpr h0
        have c1 : decide (x.toList = []) = true := decide_eq_true h0
        have d0 := Aside0.mk h0
        have HF := Aside0.mk (show noState of x = (of == 0) by unfold noState; rw [decide_eq_true d0.out]; simp)
        clear h0
        go_wp2; go_meet
        case rel => exact ⟨by rw [HF.out], rfl⟩
      · have c0 : (x.toList == ([] : List UInt8)) = false := beq_eq_false_iff_ne.mpr h0
        have c1 : decide (x.toList = []) = false := decide_eq_false h0
        have d0 := Aside0.mk h0
        clear h0
        have HF := Aside0.mk (show noState of x = false by unfold noState; rw [decide_eq_false d0.out]; simp)
        go_wp2; go_meet
        case rel => exact ⟨by rw [HF.out], rfl⟩
    case rest =>
      obtain ⟨rfl, rfl⟩ := hcut
      obtain ⟨sb, hsb⟩ : ∃ sb, noState of x = sb := ⟨_, rfl⟩
      rw [hsb]
      have HSB := Aside0.mk hsb
      clear hsb
      have hk := HKK.out
      have k1 := Aside0.mk (show ¬ kd = 1 by omega)
      have e1 : (kd == 1) = false := beq_eq_false_iff_ne.mpr (by omega)
      have k2 := Aside0.mk (show kd = 2 from hk)
      have e2 : (kd == 2) = true := beq_iff_eq.mpr hk
      clear hk
      have hr := HR.out
      unfold recBody at hr
      rw [if_neg k1.out, if_pos k2.out] at hr
      simp only [Prod.mk.injEq] at hr
      obtain ⟨rfl, rfl⟩ := hr
      clear HR
      obtain ⟨b1, hb1⟩ : ∃ b1, vMay vn vp vb = b1 := ⟨_, rfl⟩
      have HB1 := Aside0.mk hb1
      clear hb1
      have hu1 : True := trivial
      go_wp2
      clear kp0 kp1 kp2 kp3 kp4 kp5 kp6 kp11 kp12 kq0 kq1 kq2 kq3 kq4 kq5
      have K7 := Aside0.mk (show w2.cell? ⟨p, 7, none⟩ = some (.int .i64 vn) from kp7)
      have K8 := Aside0.mk (show w2.cell? ⟨p, 8, none⟩ = some (.int .i64 vp) from kp8)
      have K9 := Aside0.mk (show w2.cell? ⟨p, 9, none⟩ = some (.int .i64 vb) from kp9)
      have K10 := Aside0.mk (show w2.cell? ⟨p, 10, none⟩ = some (.int .i64 st) from kp10)
      replace kp7 : w2.drew.cell? ⟨p, 7, none⟩ = some (.int .i64 vn) := pw_cell_below (below_drew1 (Below.refl w2.heap.size w2)) K7.out
      replace kp8 : w2.drew.cell? ⟨p, 8, none⟩ = some (.int .i64 vp) := pw_cell_below (below_drew1 (Below.refl w2.heap.size w2)) K8.out
      replace kp9 : w2.drew.cell? ⟨p, 9, none⟩ = some (.int .i64 vb) := pw_cell_below (below_drew1 (Below.refl w2.heap.size w2)) K9.out
      replace kp10 : w2.drew.cell? ⟨p, 10, none⟩ = some (.int .i64 st) := pw_cell_below (below_drew1 (Below.refl w2.heap.size w2)) K10.out
      cases b1
      · skip
        refine start_ (n := 27) (S := fun w' => w'.cell? ⟨p, 7, none⟩ = some (.int .i64 vn) ∧ w'.cell? ⟨p, 8, none⟩ = some (.int .i64 vp) ∧ w'.cell? ⟨p, 9, none⟩ = some (.int .i64 vb) ∧ w'.cell? ⟨p, 10, none⟩ = some (.int .i64 st)) (ds := []) bq11 (by kernel_rfl) rfl rfl ⟨kp7, kp8, kp9, kp10⟩ (fun hHeld => ?_)
        refine with_tabW rg31.tab9 rg31.bits9 (fun HT_ HW_ => ?_)
        refine pure_ (i := 0) (N := some 80) (v := ?_) (a' := ?_) bq12 rfl rfl (any_of HT_.out (by kernel_rfl)) (fun _ _ _ h => h) (Or.inl ⟨by rfl, ?_⟩) ?_ ?_
        rotate_left
        · intro w'; go_simp; with_reducible rfl
        rotate_left
        · simp only [sxx]; rfl
        refine pure_ (i := 1) (N := some 81) (v := ?_) (a' := ?_) bq13 rfl rfl (any_of HT_.out (by kernel_rfl)) (fun _ _ _ h => h) (Or.inl ⟨by rfl, ?_⟩) ?_ ?_
        rotate_left
        · intro w'; go_simp; with_reducible rfl
        rotate_left
        · simp only [sxx]; rfl
        refine pure_ (i := 3) (N := some 83) (v := ?_) (a' := ?_) bq14 rfl rfl (any_of HT_.out (by kernel_rfl)) (fun _ _ _ h => h) (Or.inl ⟨by rfl, ?_⟩) ?_ ?_
        rotate_left
        · intro w'; go_simp; with_reducible rfl
        rotate_left
        · simp only [sxx]; rfl
        refine pure_ (i := 4) (N := some 84) (v := ?_) (a' := ?_) bq15 rfl rfl (any_of HT_.out (by kernel_rfl)) (fun _ _ _ h => h) (Or.inl ⟨by rfl, ?_⟩) ?_ ?_
        rotate_left
        · intro w'; go_simp; with_reducible rfl
        rotate_left
        · simp only [sxx]; rfl
        refine pure_ (i := 6) (N := some 86) (v := ?_) (a' := ?_) bq16 rfl rfl (any_of HT_.out (by kernel_rfl)) (fun _ _ _ h => h) (Or.inl ⟨by rfl, ?_⟩) ?_ ?_
        rotate_left
        · intro w'; go_simp; with_reducible rfl
        rotate_left
        · simp only [sxx]; rfl
        refine pure_ (i := 7) (N := some 87) (v := ?_) (a' := ?_) bq17 rfl rfl (any_of HT_.out (by kernel_rfl)) (fun _ _ _ h => h) (Or.inl ⟨by rfl, ?_⟩) ?_ ?_
        rotate_left
        · intro w'; go_simp; with_reducible rfl
        rotate_left
        · simp only [sxx]; rfl
        refine pure_ (i := 11) (N := some 91) (v := ?_) (a' := ?_) bq18 rfl rfl (any_of HT_.out (by kernel_rfl)) (fun _ _ _ h => h) (Or.inl ⟨by rfl, ?_⟩) ?_ ?_
        rotate_left
        · intro w'; go_simp; with_reducible rfl
        rotate_left
        · simp only [sxx]; rfl
        refine take_ (i := 2) (N := some 82) (v := ?_) (a' := ?_) bq19 rfl rfl (take_ofW HT_.out HW_.out (by kernel_rfl)) (fun _ _ _ h => h) (Or.inl ⟨by rfl, ?_⟩) hHeld ?_ ?_
        rotate_left
        · rintro w' ⟨s0, s1, s2, s3⟩
          go_simp; with_reducible rfl
        rotate_left
        · simp only [sxx]; rfl
        refine take_ (i := 5) (N := some 85) (v := ?_) (a' := ?_) bq20 rfl rfl (take_ofW HT_.out HW_.out (by kernel_rfl)) (fun _ _ _ h => h) (Or.inl ⟨by rfl, ?_⟩) hHeld ?_ ?_
        rotate_left
        · rintro w' ⟨s0, s1, s2, s3⟩
          go_simp; with_reducible rfl
        rotate_left
        · simp only [sxx]; rfl
        refine take_ (i := 8) (N := some 88) (v := ?_) (a' := ?_) bq21 rfl rfl (take_ofW HT_.out HW_.out (by kernel_rfl)) (fun _ _ _ h => h) (Or.inl ⟨by rfl, ?_⟩) hHeld ?_ ?_
        rotate_left
        · rintro w' ⟨s0, s1, s2, s3⟩
          go_simp; with_reducible rfl
        rotate_left
        · simp only [sxx]; rfl
        refine take_ (i := 12) (N := some 92) (v := ?_) (a' := ?_) bq22 rfl rfl (take_ofW HT_.out HW_.out (by kernel_rfl)) (fun _ _ _ h => h) (Or.inl ⟨by rfl, ?_⟩) hHeld ?_ ?_
        rotate_left
        · rintro w' ⟨s0, s1, s2, s3⟩
          go_simp; with_reducible rfl
        rotate_left
        · simp only [sxx]; rfl
        refine one_ (i := 9) (N := some 89) bq23 rfl rfl (one_of HT_.out (by kernel_rfl)) (by decide) (fun K hK => ?_)
        refine value_ (w1 := ?_) (v := ?_) (by rfl) rfl ?_ ?_
        rotate_left 2
        · go_simp
          constructor
          · rfl
          · rfl
        refine hK.out _ _ ⟨pw_cell_below (below_alloc (Below.refl _ _) _) kp7, pw_cell_below (below_alloc (Below.refl _ _) _) kp8, pw_cell_below (below_alloc (Below.refl _ _) _) kp9, pw_cell_below (below_alloc (Below.refl _ _) _) kp10⟩ (fun hHeld => ?_)
        clear hK K
        refine norm_ (a' := ?_) ?_ ?_
        rotate_left
        · show Act.put _ (some 89) _ = _
          simp only [sxx]; rfl
        refine one_ (i := 10) (N := some 90) bq24 rfl rfl (one_of HT_.out (by kernel_rfl)) (by decide) (fun K hK => ?_)
        refine goes_ Try.func53 (by kernel_rfl) rfl #[.slice (some ⟨w2.drew.heap.size, 0, none⟩) 3 3] (by rfl) rfl rfl (by simp only [mxx]; rfl) ?_
        with_reducible refine (numbers_N (some ⟨w2.drew.heap.size, 0, none⟩) 3 3 [vn, vp, vb] _ rfl (C_lit64 w2.drew [vn, vp, vb] (by simp)) (by decide) (by simp)).mono ?_
        rintro e u1 ⟨B, m, cb, rfl, hl1, hl2, ho, hb⟩
        refine ⟨_, rfl, ?_⟩
        have HU1 := Aside0.mk (below_step (below_alloc (below_drew1 (Below.refl w2.heap.size w2)) _) hb)
        have HO1 := Aside0.mk (Kd.R_lower ho (Nat.le_trans HA.out.size (below_alloc (below_drew1 (Below.refl w2.heap.size w2)) (.cells (nums .i64 [vn, vp, vb]).toArray 3)).size))
        clear hl1 hl2 ho hb
        refine hK.out _ _ ⟨pw_cell_below HU1.out K7.out, pw_cell_below HU1.out K8.out, pw_cell_below HU1.out K9.out, pw_cell_below HU1.out K10.out⟩ (fun hHeld => ?_)
        clear hK K
        refine norm_ (a' := ?_) ?_ ?_
        rotate_left
        · show Act.put _ (some 90) _ = _
          simp only [sxx]; rfl
        refine one_ (i := 13) (N := some 93) bq25 rfl rfl (one_of HT_.out (by kernel_rfl)) (by decide) (fun K hK => ?_)
        refine goes_ Try.func54 (by kernel_rfl) rfl #[.agg #[.int .i64 vn, .int .i64 vp, .int .i64 vb]] (by rfl) rfl rfl (by simp only [mxx]; rfl) ?_
        with_reducible refine (journal_viewMay.calls vn vp vb _ _ ((vMay_eq vn vp vb).trans (congrArg some HB1.out))).mono ?_
        rintro e u2 ⟨rfl, hb⟩
        refine ⟨_, rfl, ?_⟩
        have HU2 := Aside0.mk (below_step HU1.out hb)
        have HO2 := Aside0.mk (R8_keep HO1.out (fun k_ hk_ => (hb).block k_ (R8_lt HO1.out k_ hk_).2))
        clear hb
        refine hK.out _ _ ⟨pw_cell_below HU2.out K7.out, pw_cell_below HU2.out K8.out, pw_cell_below HU2.out K9.out, pw_cell_below HU2.out K10.out⟩ (fun hHeld => ?_)
        clear hK K
        refine norm_ (a' := ?_) ?_ ?_
        rotate_left
        · show Act.put _ (some 93) _ = _
          simp only [sxx]; rfl
        refine pure_ (i := 14) (N := some 94) (v := ?_) (a' := ?_) bq26 rfl rfl (any_of HT_.out (by kernel_rfl)) (fun _ _ _ h => h) (Or.inl ⟨by rfl, ?_⟩) ?_ ?_
        rotate_left
        · intro w'; go_simp; with_reducible rfl
        rotate_left
        · simp only [sxx]; rfl
        refine pure_ (i := 15) (N := some 95) (v := undef) (a' := ?_) bq27 rfl rfl (any_of HT_.out (by kernel_rfl)) (fun _ _ _ h => h) (Or.inr ⟨by rfl, rfl⟩) ?_ ?_
        rotate_left
        · simp only [sxx]; rfl
        refine pure_ (i := 16) (N := some 96) (v := ?_) (a' := ?_) bq28 rfl rfl (any_of HT_.out (by kernel_rfl)) (fun _ _ _ h => h) (Or.inl ⟨by rfl, ?_⟩) ?_ ?_
        rotate_left
        · intro w'; go_simp; with_reducible rfl
        rotate_left
        · simp only [sxx]; rfl
        refine pure_ (i := 17) (N := some 97) (v := ?_) (a' := ?_) bq29 rfl rfl (any_of HT_.out (by kernel_rfl)) (fun _ _ _ h => h) (Or.inl ⟨by rfl, ?_⟩) ?_ ?_
        rotate_left
        · intro w'; go_simp; with_reducible rfl
        rotate_left
        · simp only [sxx]; rfl
        refine pure_ (i := 18) (N := some 98) (v := undef) (a' := ?_) bq30 rfl rfl (any_of HT_.out (by kernel_rfl)) (fun _ _ _ h => h) (Or.inr ⟨by rfl, rfl⟩) ?_ ?_
        rotate_left
        · simp only [sxx]; rfl
        refine pure_ (i := 19) (N := some 99) (v := undef) (a' := ?_) bq31 rfl rfl (any_of HT_.out (by kernel_rfl)) (fun _ _ _ h => h) (Or.inr ⟨by rfl, rfl⟩) ?_ ?_
        rotate_left
        · simp only [sxx]; rfl
        refine pure_ (i := 20) (N := some 100) (v := undef) (a' := ?_) bq32 rfl rfl (any_of HT_.out (by kernel_rfl)) (fun _ _ _ h => h) (Or.inr ⟨by rfl, rfl⟩) ?_ ?_
        rotate_left
        · simp only [sxx]; rfl
        refine pure_ (i := 21) (N := some 101) (v := ?_) (a' := ?_) bq33 rfl rfl (any_of HT_.out (by kernel_rfl)) (fun _ _ _ h => h) (Or.inl ⟨by rfl, ?_⟩) ?_ ?_
        rotate_left
        · intro w'; go_simp; with_reducible rfl
        rotate_left
        · simp only [sxx]; rfl
        refine pure_ (i := 22) (N := some 102) (v := ?_) (a' := ?_) bq34 rfl rfl (any_of HT_.out (by kernel_rfl)) (fun _ _ _ h => h) (Or.inl ⟨by rfl, ?_⟩) ?_ ?_
        rotate_left
        · intro w'; go_simp; with_reducible rfl
        rotate_left
        · simp only [sxx]; rfl
        refine pure_ (i := 23) (N := some 103) (v := undef) (a' := ?_) bq35 rfl rfl (any_of HT_.out (by kernel_rfl)) (fun _ _ _ h => h) (Or.inr ⟨by rfl, rfl⟩) ?_ ?_
        rotate_left
        · simp only [sxx]; rfl
        refine pure_ (i := 24) (N := some 104) (v := ?_) (a' := ?_) bq36 rfl rfl (any_of HT_.out (by kernel_rfl)) (fun _ _ _ h => h) (Or.inl ⟨by rfl, ?_⟩) ?_ ?_
        rotate_left
        · intro w'; go_simp; with_reducible rfl
        rotate_left
        · simp only [sxx]; rfl
        refine pure_ (i := 25) (N := some 2) (v := ?_) (a' := ?_) bq37 rfl rfl (any_of HT_.out (by kernel_rfl)) (fun _ _ _ h => h) (Or.inl ⟨by rfl, ?_⟩) ?_ ?_
        rotate_left
        · intro w'; go_simp; with_reducible rfl
        rotate_left
        · simp only [sxx]; rfl
        refine pure_ (i := 26) (N := some 3) (v := ?_) (a' := ?_) bq38 rfl rfl (any_of HT_.out (by kernel_rfl)) (fun _ _ _ h => h) (Or.inl ⟨by rfl, ?_⟩) ?_ ?_
        rotate_left
        · intro w'; go_simp; with_reducible rfl
        rotate_left
        · simp only [sxx]; rfl
        refine done_ (done_of HT_.out (by kernel_rfl)) ?_
        clear kp7 kp8 kp9 kp10
        go_wp2
        refine bodyPost_ret (results_tmp2 rfl _ _ _) rfl ?_
        exact ⟨_, by rw [HB1.out, HEB.out, HSB.out]; first | rfl | simp, HO2.out, below_step HA.out HU2.out⟩
      · cases eb
        · skip
          refine start_ (n := 27) (S := fun w' => w'.cell? ⟨p, 7, none⟩ = some (.int .i64 vn) ∧ w'.cell? ⟨p, 8, none⟩ = some (.int .i64 vp) ∧ w'.cell? ⟨p, 9, none⟩ = some (.int .i64 vb) ∧ w'.cell? ⟨p, 10, none⟩ = some (.int .i64 st)) (ds := []) bq11 (by kernel_rfl) rfl rfl ⟨kp7, kp8, kp9, kp10⟩ (fun hHeld => ?_)
          refine with_tabW rg31.tab9 rg31.bits9 (fun HT_ HW_ => ?_)
          refine pure_ (i := 0) (N := some 80) (v := ?_) (a' := ?_) bq12 rfl rfl (any_of HT_.out (by kernel_rfl)) (fun _ _ _ h => h) (Or.inl ⟨by rfl, ?_⟩) ?_ ?_
          rotate_left
          · intro w'; go_simp; with_reducible rfl
          rotate_left
          · simp only [sxx]; rfl
          refine pure_ (i := 1) (N := some 81) (v := ?_) (a' := ?_) bq13 rfl rfl (any_of HT_.out (by kernel_rfl)) (fun _ _ _ h => h) (Or.inl ⟨by rfl, ?_⟩) ?_ ?_
          rotate_left
          · intro w'; go_simp; with_reducible rfl
          rotate_left
          · simp only [sxx]; rfl
          refine pure_ (i := 3) (N := some 83) (v := ?_) (a' := ?_) bq14 rfl rfl (any_of HT_.out (by kernel_rfl)) (fun _ _ _ h => h) (Or.inl ⟨by rfl, ?_⟩) ?_ ?_
          rotate_left
          · intro w'; go_simp; with_reducible rfl
          rotate_left
          · simp only [sxx]; rfl
          refine pure_ (i := 4) (N := some 84) (v := ?_) (a' := ?_) bq15 rfl rfl (any_of HT_.out (by kernel_rfl)) (fun _ _ _ h => h) (Or.inl ⟨by rfl, ?_⟩) ?_ ?_
          rotate_left
          · intro w'; go_simp; with_reducible rfl
          rotate_left
          · simp only [sxx]; rfl
          refine pure_ (i := 6) (N := some 86) (v := ?_) (a' := ?_) bq16 rfl rfl (any_of HT_.out (by kernel_rfl)) (fun _ _ _ h => h) (Or.inl ⟨by rfl, ?_⟩) ?_ ?_
          rotate_left
          · intro w'; go_simp; with_reducible rfl
          rotate_left
          · simp only [sxx]; rfl
          refine pure_ (i := 7) (N := some 87) (v := ?_) (a' := ?_) bq17 rfl rfl (any_of HT_.out (by kernel_rfl)) (fun _ _ _ h => h) (Or.inl ⟨by rfl, ?_⟩) ?_ ?_
          rotate_left
          · intro w'; go_simp; with_reducible rfl
          rotate_left
          · simp only [sxx]; rfl
          refine pure_ (i := 11) (N := some 91) (v := ?_) (a' := ?_) bq18 rfl rfl (any_of HT_.out (by kernel_rfl)) (fun _ _ _ h => h) (Or.inl ⟨by rfl, ?_⟩) ?_ ?_
          rotate_left
          · intro w'; go_simp; with_reducible rfl
          rotate_left
          · simp only [sxx]; rfl
          refine take_ (i := 2) (N := some 82) (v := ?_) (a' := ?_) bq19 rfl rfl (take_ofW HT_.out HW_.out (by kernel_rfl)) (fun _ _ _ h => h) (Or.inl ⟨by rfl, ?_⟩) hHeld ?_ ?_
          rotate_left
          · rintro w' ⟨s0, s1, s2, s3⟩
            go_simp; with_reducible rfl
          rotate_left
          · simp only [sxx]; rfl
          refine take_ (i := 5) (N := some 85) (v := ?_) (a' := ?_) bq20 rfl rfl (take_ofW HT_.out HW_.out (by kernel_rfl)) (fun _ _ _ h => h) (Or.inl ⟨by rfl, ?_⟩) hHeld ?_ ?_
          rotate_left
          · rintro w' ⟨s0, s1, s2, s3⟩
            go_simp; with_reducible rfl
          rotate_left
          · simp only [sxx]; rfl
          refine take_ (i := 8) (N := some 88) (v := ?_) (a' := ?_) bq21 rfl rfl (take_ofW HT_.out HW_.out (by kernel_rfl)) (fun _ _ _ h => h) (Or.inl ⟨by rfl, ?_⟩) hHeld ?_ ?_
          rotate_left
          · rintro w' ⟨s0, s1, s2, s3⟩
            go_simp; with_reducible rfl
          rotate_left
          · simp only [sxx]; rfl
          refine take_ (i := 12) (N := some 92) (v := ?_) (a' := ?_) bq22 rfl rfl (take_ofW HT_.out HW_.out (by kernel_rfl)) (fun _ _ _ h => h) (Or.inl ⟨by rfl, ?_⟩) hHeld ?_ ?_
          rotate_left
          · rintro w' ⟨s0, s1, s2, s3⟩
            go_simp; with_reducible rfl
          rotate_left
          · simp only [sxx]; rfl
          refine one_ (i := 9) (N := some 89) bq23 rfl rfl (one_of HT_.out (by kernel_rfl)) (by decide) (fun K hK => ?_)
          refine value_ (w1 := ?_) (v := ?_) (by rfl) rfl ?_ ?_
          rotate_left 2
          · go_simp
            constructor
            · rfl
            · rfl
          refine hK.out _ _ ⟨pw_cell_below (below_alloc (Below.refl _ _) _) kp7, pw_cell_below (below_alloc (Below.refl _ _) _) kp8, pw_cell_below (below_alloc (Below.refl _ _) _) kp9, pw_cell_below (below_alloc (Below.refl _ _) _) kp10⟩ (fun hHeld => ?_)
          clear hK K
          refine norm_ (a' := ?_) ?_ ?_
          rotate_left
          · show Act.put _ (some 89) _ = _
            simp only [sxx]; rfl
          refine one_ (i := 10) (N := some 90) bq24 rfl rfl (one_of HT_.out (by kernel_rfl)) (by decide) (fun K hK => ?_)
          refine goes_ Try.func53 (by kernel_rfl) rfl #[.slice (some ⟨w2.drew.heap.size, 0, none⟩) 3 3] (by rfl) rfl rfl (by simp only [mxx]; rfl) ?_
          with_reducible refine (numbers_N (some ⟨w2.drew.heap.size, 0, none⟩) 3 3 [vn, vp, vb] _ rfl (C_lit64 w2.drew [vn, vp, vb] (by simp)) (by decide) (by simp)).mono ?_
          rintro e u1 ⟨B, m, cb, rfl, hl1, hl2, ho, hb⟩
          refine ⟨_, rfl, ?_⟩
          have HU1 := Aside0.mk (below_step (below_alloc (below_drew1 (Below.refl w2.heap.size w2)) _) hb)
          have HO1 := Aside0.mk (Kd.R_lower ho (Nat.le_trans HA.out.size (below_alloc (below_drew1 (Below.refl w2.heap.size w2)) (.cells (nums .i64 [vn, vp, vb]).toArray 3)).size))
          clear hl1 hl2 ho hb
          refine hK.out _ _ ⟨pw_cell_below HU1.out K7.out, pw_cell_below HU1.out K8.out, pw_cell_below HU1.out K9.out, pw_cell_below HU1.out K10.out⟩ (fun hHeld => ?_)
          clear hK K
          refine norm_ (a' := ?_) ?_ ?_
          rotate_left
          · show Act.put _ (some 90) _ = _
            simp only [sxx]; rfl
          refine one_ (i := 13) (N := some 93) bq25 rfl rfl (one_of HT_.out (by kernel_rfl)) (by decide) (fun K hK => ?_)
          refine goes_ Try.func54 (by kernel_rfl) rfl #[.agg #[.int .i64 vn, .int .i64 vp, .int .i64 vb]] (by rfl) rfl rfl (by simp only [mxx]; rfl) ?_
          with_reducible refine (journal_viewMay.calls vn vp vb _ _ ((vMay_eq vn vp vb).trans (congrArg some HB1.out))).mono ?_
          rintro e u2 ⟨rfl, hb⟩
          refine ⟨_, rfl, ?_⟩
          have HU2 := Aside0.mk (below_step HU1.out hb)
          have HO2 := Aside0.mk (R8_keep HO1.out (fun k_ hk_ => (hb).block k_ (R8_lt HO1.out k_ hk_).2))
          clear hb
          refine hK.out _ _ ⟨pw_cell_below HU2.out K7.out, pw_cell_below HU2.out K8.out, pw_cell_below HU2.out K9.out, pw_cell_below HU2.out K10.out⟩ (fun hHeld => ?_)
          clear hK K
          refine norm_ (a' := ?_) ?_ ?_
          rotate_left
          · show Act.put _ (some 93) _ = _
            simp only [sxx]; rfl
          refine pure_ (i := 14) (N := some 94) (v := ?_) (a' := ?_) bq26 rfl rfl (any_of HT_.out (by kernel_rfl)) (fun _ _ _ h => h) (Or.inl ⟨by rfl, ?_⟩) ?_ ?_
          rotate_left
          · intro w'; go_simp; with_reducible rfl
          rotate_left
          · simp only [sxx]; rfl
          refine pure_ (i := 15) (N := some 95) (v := ?_) (a' := ?_) bq27 rfl rfl (any_of HT_.out (by kernel_rfl)) (fun _ _ _ h => h) (Or.inl ⟨by rfl, ?_⟩) ?_ ?_
          rotate_left
          · intro w'; go_simp; with_reducible rfl
          rotate_left
          · simp only [sxx]; rfl
          refine pure_ (i := 16) (N := some 96) (v := ?_) (a' := ?_) bq28 rfl rfl (any_of HT_.out (by kernel_rfl)) (fun _ _ _ h => h) (Or.inl ⟨by rfl, ?_⟩) ?_ ?_
          rotate_left
          · intro w'; go_simp; with_reducible rfl
          rotate_left
          · simp only [sxx]; rfl
          refine pure_ (i := 17) (N := some 97) (v := ?_) (a' := ?_) bq29 rfl rfl (any_of HT_.out (by kernel_rfl)) (fun _ _ _ h => h) (Or.inl ⟨by rfl, ?_⟩) ?_ ?_
          rotate_left
          · intro w'; go_simp; with_reducible rfl
          rotate_left
          · simp only [sxx]; rfl
          refine pure_ (i := 18) (N := some 98) (v := undef) (a' := ?_) bq30 rfl rfl (any_of HT_.out (by kernel_rfl)) (fun _ _ _ h => h) (Or.inr ⟨by rfl, rfl⟩) ?_ ?_
          rotate_left
          · simp only [sxx]; rfl
          refine pure_ (i := 19) (N := some 99) (v := undef) (a' := ?_) bq31 rfl rfl (any_of HT_.out (by kernel_rfl)) (fun _ _ _ h => h) (Or.inr ⟨by rfl, rfl⟩) ?_ ?_
          rotate_left
          · simp only [sxx]; rfl
          refine pure_ (i := 20) (N := some 100) (v := undef) (a' := ?_) bq32 rfl rfl (any_of HT_.out (by kernel_rfl)) (fun _ _ _ h => h) (Or.inr ⟨by rfl, rfl⟩) ?_ ?_
          rotate_left
          · simp only [sxx]; rfl
          refine pure_ (i := 21) (N := some 101) (v := ?_) (a' := ?_) bq33 rfl rfl (any_of HT_.out (by kernel_rfl)) (fun _ _ _ h => h) (Or.inl ⟨by rfl, ?_⟩) ?_ ?_
          rotate_left
          · intro w'; go_simp; with_reducible rfl
          rotate_left
          · simp only [sxx]; rfl
          refine pure_ (i := 22) (N := some 102) (v := ?_) (a' := ?_) bq34 rfl rfl (any_of HT_.out (by kernel_rfl)) (fun _ _ _ h => h) (Or.inl ⟨by rfl, ?_⟩) ?_ ?_
          rotate_left
          · intro w'; go_simp; with_reducible rfl
          rotate_left
          · simp only [sxx]; rfl
          refine pure_ (i := 23) (N := some 103) (v := undef) (a' := ?_) bq35 rfl rfl (any_of HT_.out (by kernel_rfl)) (fun _ _ _ h => h) (Or.inr ⟨by rfl, rfl⟩) ?_ ?_
          rotate_left
          · simp only [sxx]; rfl
          refine pure_ (i := 24) (N := some 104) (v := ?_) (a' := ?_) bq36 rfl rfl (any_of HT_.out (by kernel_rfl)) (fun _ _ _ h => h) (Or.inl ⟨by rfl, ?_⟩) ?_ ?_
          rotate_left
          · intro w'; go_simp; with_reducible rfl
          rotate_left
          · simp only [sxx]; rfl
          refine pure_ (i := 25) (N := some 2) (v := ?_) (a' := ?_) bq37 rfl rfl (any_of HT_.out (by kernel_rfl)) (fun _ _ _ h => h) (Or.inl ⟨by rfl, ?_⟩) ?_ ?_
          rotate_left
          · intro w'; go_simp; with_reducible rfl
          rotate_left
          · simp only [sxx]; rfl
          refine pure_ (i := 26) (N := some 3) (v := ?_) (a' := ?_) bq38 rfl rfl (any_of HT_.out (by kernel_rfl)) (fun _ _ _ h => h) (Or.inl ⟨by rfl, ?_⟩) ?_ ?_
          rotate_left
          · intro w'; go_simp; with_reducible rfl
          rotate_left
          · simp only [sxx]; rfl
          refine done_ (done_of HT_.out (by kernel_rfl)) ?_
          clear kp7 kp8 kp9 kp10
          go_wp2
          refine bodyPost_ret (results_tmp2 rfl _ _ _) rfl ?_
          exact ⟨_, by rw [HB1.out, HEB.out, HSB.out]; first | rfl | simp, HO2.out, below_step HA.out HU2.out⟩
        · by_cases hst : st = 0
          · have cst : (st == 0) = true := beq_iff_eq.mpr hst
            have dst := Aside0.mk cst
            clear hst
            skip
            refine start_ (n := 27) (S := fun w' => w'.cell? ⟨p, 7, none⟩ = some (.int .i64 vn) ∧ w'.cell? ⟨p, 8, none⟩ = some (.int .i64 vp) ∧ w'.cell? ⟨p, 9, none⟩ = some (.int .i64 vb) ∧ w'.cell? ⟨p, 10, none⟩ = some (.int .i64 st)) (ds := []) bq11 (by kernel_rfl) rfl rfl ⟨kp7, kp8, kp9, kp10⟩ (fun hHeld => ?_)
            refine with_tabW rg31.tab9 rg31.bits9 (fun HT_ HW_ => ?_)
            refine pure_ (i := 0) (N := some 80) (v := ?_) (a' := ?_) bq12 rfl rfl (any_of HT_.out (by kernel_rfl)) (fun _ _ _ h => h) (Or.inl ⟨by rfl, ?_⟩) ?_ ?_
            rotate_left
            · intro w'; go_simp; with_reducible rfl
            rotate_left
            · simp only [sxx]; rfl
            refine pure_ (i := 1) (N := some 81) (v := ?_) (a' := ?_) bq13 rfl rfl (any_of HT_.out (by kernel_rfl)) (fun _ _ _ h => h) (Or.inl ⟨by rfl, ?_⟩) ?_ ?_
            rotate_left
            · intro w'; go_simp; with_reducible rfl
            rotate_left
            · simp only [sxx]; rfl
            refine pure_ (i := 3) (N := some 83) (v := ?_) (a' := ?_) bq14 rfl rfl (any_of HT_.out (by kernel_rfl)) (fun _ _ _ h => h) (Or.inl ⟨by rfl, ?_⟩) ?_ ?_
            rotate_left
            · intro w'; go_simp; with_reducible rfl
            rotate_left
            · simp only [sxx]; rfl
            refine pure_ (i := 4) (N := some 84) (v := ?_) (a' := ?_) bq15 rfl rfl (any_of HT_.out (by kernel_rfl)) (fun _ _ _ h => h) (Or.inl ⟨by rfl, ?_⟩) ?_ ?_
            rotate_left
            · intro w'; go_simp; with_reducible rfl
            rotate_left
            · simp only [sxx]; rfl
            refine pure_ (i := 6) (N := some 86) (v := ?_) (a' := ?_) bq16 rfl rfl (any_of HT_.out (by kernel_rfl)) (fun _ _ _ h => h) (Or.inl ⟨by rfl, ?_⟩) ?_ ?_
            rotate_left
            · intro w'; go_simp; with_reducible rfl
            rotate_left
            · simp only [sxx]; rfl
            refine pure_ (i := 7) (N := some 87) (v := ?_) (a' := ?_) bq17 rfl rfl (any_of HT_.out (by kernel_rfl)) (fun _ _ _ h => h) (Or.inl ⟨by rfl, ?_⟩) ?_ ?_
            rotate_left
            · intro w'; go_simp; with_reducible rfl
            rotate_left
            · simp only [sxx]; rfl
            refine pure_ (i := 11) (N := some 91) (v := ?_) (a' := ?_) bq18 rfl rfl (any_of HT_.out (by kernel_rfl)) (fun _ _ _ h => h) (Or.inl ⟨by rfl, ?_⟩) ?_ ?_
            rotate_left
            · intro w'; go_simp; with_reducible rfl
            rotate_left
            · simp only [sxx]; rfl
            refine take_ (i := 2) (N := some 82) (v := ?_) (a' := ?_) bq19 rfl rfl (take_ofW HT_.out HW_.out (by kernel_rfl)) (fun _ _ _ h => h) (Or.inl ⟨by rfl, ?_⟩) hHeld ?_ ?_
            rotate_left
            · rintro w' ⟨s0, s1, s2, s3⟩
              go_simp; with_reducible rfl
            rotate_left
            · simp only [sxx]; rfl
            refine take_ (i := 5) (N := some 85) (v := ?_) (a' := ?_) bq20 rfl rfl (take_ofW HT_.out HW_.out (by kernel_rfl)) (fun _ _ _ h => h) (Or.inl ⟨by rfl, ?_⟩) hHeld ?_ ?_
            rotate_left
            · rintro w' ⟨s0, s1, s2, s3⟩
              go_simp; with_reducible rfl
            rotate_left
            · simp only [sxx]; rfl
            refine take_ (i := 8) (N := some 88) (v := ?_) (a' := ?_) bq21 rfl rfl (take_ofW HT_.out HW_.out (by kernel_rfl)) (fun _ _ _ h => h) (Or.inl ⟨by rfl, ?_⟩) hHeld ?_ ?_
            rotate_left
            · rintro w' ⟨s0, s1, s2, s3⟩
              go_simp; with_reducible rfl
            rotate_left
            · simp only [sxx]; rfl
            refine take_ (i := 12) (N := some 92) (v := ?_) (a' := ?_) bq22 rfl rfl (take_ofW HT_.out HW_.out (by kernel_rfl)) (fun _ _ _ h => h) (Or.inl ⟨by rfl, ?_⟩) hHeld ?_ ?_
            rotate_left
            · rintro w' ⟨s0, s1, s2, s3⟩
              go_simp; with_reducible rfl
            rotate_left
            · simp only [sxx]; rfl
            refine one_ (i := 9) (N := some 89) bq23 rfl rfl (one_of HT_.out (by kernel_rfl)) (by decide) (fun K hK => ?_)
            refine value_ (w1 := ?_) (v := ?_) (by rfl) rfl ?_ ?_
            rotate_left 2
            · go_simp
              constructor
              · rfl
              · rfl
            refine hK.out _ _ ⟨pw_cell_below (below_alloc (Below.refl _ _) _) kp7, pw_cell_below (below_alloc (Below.refl _ _) _) kp8, pw_cell_below (below_alloc (Below.refl _ _) _) kp9, pw_cell_below (below_alloc (Below.refl _ _) _) kp10⟩ (fun hHeld => ?_)
            clear hK K
            refine norm_ (a' := ?_) ?_ ?_
            rotate_left
            · show Act.put _ (some 89) _ = _
              simp only [sxx]; rfl
            refine one_ (i := 10) (N := some 90) bq24 rfl rfl (one_of HT_.out (by kernel_rfl)) (by decide) (fun K hK => ?_)
            refine goes_ Try.func53 (by kernel_rfl) rfl #[.slice (some ⟨w2.drew.heap.size, 0, none⟩) 3 3] (by rfl) rfl rfl (by simp only [mxx]; rfl) ?_
            with_reducible refine (numbers_N (some ⟨w2.drew.heap.size, 0, none⟩) 3 3 [vn, vp, vb] _ rfl (C_lit64 w2.drew [vn, vp, vb] (by simp)) (by decide) (by simp)).mono ?_
            rintro e u1 ⟨B, m, cb, rfl, hl1, hl2, ho, hb⟩
            refine ⟨_, rfl, ?_⟩
            have HU1 := Aside0.mk (below_step (below_alloc (below_drew1 (Below.refl w2.heap.size w2)) _) hb)
            have HO1 := Aside0.mk (Kd.R_lower ho (Nat.le_trans HA.out.size (below_alloc (below_drew1 (Below.refl w2.heap.size w2)) (.cells (nums .i64 [vn, vp, vb]).toArray 3)).size))
            clear hl1 hl2 ho hb
            refine hK.out _ _ ⟨pw_cell_below HU1.out K7.out, pw_cell_below HU1.out K8.out, pw_cell_below HU1.out K9.out, pw_cell_below HU1.out K10.out⟩ (fun hHeld => ?_)
            clear hK K
            refine norm_ (a' := ?_) ?_ ?_
            rotate_left
            · show Act.put _ (some 90) _ = _
              simp only [sxx]; rfl
            refine one_ (i := 13) (N := some 93) bq25 rfl rfl (one_of HT_.out (by kernel_rfl)) (by decide) (fun K hK => ?_)
            refine goes_ Try.func54 (by kernel_rfl) rfl #[.agg #[.int .i64 vn, .int .i64 vp, .int .i64 vb]] (by rfl) rfl rfl (by simp only [mxx]; rfl) ?_
            with_reducible refine (journal_viewMay.calls vn vp vb _ _ ((vMay_eq vn vp vb).trans (congrArg some HB1.out))).mono ?_
            rintro e u2 ⟨rfl, hb⟩
            refine ⟨_, rfl, ?_⟩
            have HU2 := Aside0.mk (below_step HU1.out hb)
            have HO2 := Aside0.mk (R8_keep HO1.out (fun k_ hk_ => (hb).block k_ (R8_lt HO1.out k_ hk_).2))
            clear hb
            refine hK.out _ _ ⟨pw_cell_below HU2.out K7.out, pw_cell_below HU2.out K8.out, pw_cell_below HU2.out K9.out, pw_cell_below HU2.out K10.out⟩ (fun hHeld => ?_)
            clear hK K
            refine norm_ (a' := ?_) ?_ ?_
            rotate_left
            · show Act.put _ (some 93) _ = _
              simp only [sxx]; rfl
            refine pure_ (i := 14) (N := some 94) (v := ?_) (a' := ?_) bq26 rfl rfl (any_of HT_.out (by kernel_rfl)) (fun _ _ _ h => h) (Or.inl ⟨by rfl, ?_⟩) ?_ ?_
            rotate_left
            · intro w'; go_simp; with_reducible rfl
            rotate_left
            · simp only [sxx]; rfl
            refine pure_ (i := 15) (N := some 95) (v := ?_) (a' := ?_) bq27 rfl rfl (any_of HT_.out (by kernel_rfl)) (fun _ _ _ h => h) (Or.inl ⟨by rfl, ?_⟩) ?_ ?_
            rotate_left
            · intro w'; go_simp; with_reducible rfl
            rotate_left
            · simp only [sxx]; rfl
            refine pure_ (i := 16) (N := some 96) (v := ?_) (a' := ?_) bq28 rfl rfl (any_of HT_.out (by kernel_rfl)) (fun _ _ _ h => h) (Or.inl ⟨by rfl, ?_⟩) ?_ ?_
            rotate_left
            · intro w'; go_simp; with_reducible rfl
            rotate_left
            · simp only [sxx]; rfl
            refine pure_ (i := 17) (N := some 97) (v := ?_) (a' := ?_) bq29 rfl rfl (any_of HT_.out (by kernel_rfl)) (fun _ _ _ h => h) (Or.inl ⟨by rfl, ?_⟩) ?_ ?_
            rotate_left
            · intro w'; go_simp; with_reducible rfl
            rotate_left
            · simp only [sxx]; rfl
            refine pure_ (i := 18) (N := some 98) (v := ?_) (a' := ?_) bq30 rfl rfl (any_of HT_.out (by kernel_rfl)) (fun _ _ _ h => h) (Or.inl ⟨by rfl, ?_⟩) ?_ ?_
            rotate_left
            · intro w'; go_simp; with_reducible rfl
            rotate_left
            · simp only [sxx]; rfl
            refine take_ (i := 19) (N := some 99) (v := ?_) (a' := ?_) bq31 rfl rfl (take_ofW HT_.out HW_.out (by kernel_rfl)) (fun _ _ _ h => h) (Or.inl ⟨by rfl, ?_⟩) hHeld ?_ ?_
            rotate_left
            · rintro w' ⟨s0, s1, s2, s3⟩
              go_simp; with_reducible rfl
            rotate_left
            · simp only [sxx]; rfl
            refine pure_ (i := 20) (N := some 100) (v := ?_) (a' := ?_) bq32 rfl rfl (any_of HT_.out (by kernel_rfl)) (fun _ _ _ h => h) (Or.inl ⟨by rfl, ?_⟩) ?_ ?_
            rotate_left
            · intro w'; go_simp; with_reducible rfl
            rotate_left
            · simp only [sxx]; rfl
            refine pure_ (i := 21) (N := some 101) (v := ?_) (a' := ?_) bq33 rfl rfl (any_of HT_.out (by kernel_rfl)) (fun _ _ _ h => h) (Or.inl ⟨by rfl, ?_⟩) ?_ ?_
            rotate_left
            · intro w'; go_simp; with_reducible rfl
            rotate_left
            · simp only [sxx]; rfl
            refine pure_ (i := 22) (N := some 102) (v := ?_) (a' := ?_) bq34 rfl rfl (any_of HT_.out (by kernel_rfl)) (fun _ _ _ h => h) (Or.inl ⟨by rfl, ?_⟩) ?_ ?_
            rotate_left
            · intro w'; go_simp; with_reducible rfl
            rotate_left
            · simp only [sxx]; rfl
            refine pure_ (i := 23) (N := some 103) (v := ?_) (a' := ?_) bq35 rfl rfl (any_of HT_.out (by kernel_rfl)) (fun _ _ _ h => h) (Or.inl ⟨by rfl, ?_⟩) ?_ ?_
            rotate_left
            · intro w'; go_simp; with_reducible rfl
            rotate_left
            · simp only [sxx]; rfl
            refine pure_ (i := 24) (N := some 104) (v := ?_) (a' := ?_) bq36 rfl rfl (any_of HT_.out (by kernel_rfl)) (fun _ _ _ h => h) (Or.inl ⟨by rfl, ?_⟩) ?_ ?_
            rotate_left
            · intro w'; go_simp; with_reducible rfl
            rotate_left
            · simp only [sxx]; rfl
            refine pure_ (i := 25) (N := some 2) (v := ?_) (a' := ?_) bq37 rfl rfl (any_of HT_.out (by kernel_rfl)) (fun _ _ _ h => h) (Or.inl ⟨by rfl, ?_⟩) ?_ ?_
            rotate_left
            · intro w'; go_simp; with_reducible rfl
            rotate_left
            · simp only [sxx]; rfl
            refine pure_ (i := 26) (N := some 3) (v := ?_) (a' := ?_) bq38 rfl rfl (any_of HT_.out (by kernel_rfl)) (fun _ _ _ h => h) (Or.inl ⟨by rfl, ?_⟩) ?_ ?_
            rotate_left
            · intro w'; go_simp; with_reducible rfl
            rotate_left
            · simp only [sxx]; rfl
            refine done_ (done_of HT_.out (by kernel_rfl)) ?_
            clear kp7 kp8 kp9 kp10
            go_wp2
            refine bodyPost_ret (results_tmp2 rfl _ _ _) rfl ?_
            exact ⟨_, by rw [HB1.out, HEB.out, HSB.out, dst.out]; first | rfl | simp, HO2.out, below_step HA.out HU2.out⟩
          · have cst : (st == 0) = false := beq_eq_false_iff_ne.mpr hst
            have dst := Aside0.mk cst
            clear hst
            skip
            refine start_ (n := 27) (S := fun w' => w'.cell? ⟨p, 7, none⟩ = some (.int .i64 vn) ∧ w'.cell? ⟨p, 8, none⟩ = some (.int .i64 vp) ∧ w'.cell? ⟨p, 9, none⟩ = some (.int .i64 vb) ∧ w'.cell? ⟨p, 10, none⟩ = some (.int .i64 st)) (ds := []) bq11 (by kernel_rfl) rfl rfl ⟨kp7, kp8, kp9, kp10⟩ (fun hHeld => ?_)
            refine with_tabW rg31.tab9 rg31.bits9 (fun HT_ HW_ => ?_)
            refine pure_ (i := 0) (N := some 80) (v := ?_) (a' := ?_) bq12 rfl rfl (any_of HT_.out (by kernel_rfl)) (fun _ _ _ h => h) (Or.inl ⟨by rfl, ?_⟩) ?_ ?_
            rotate_left
            · intro w'; go_simp; with_reducible rfl
            rotate_left
            · simp only [sxx]; rfl
            refine pure_ (i := 1) (N := some 81) (v := ?_) (a' := ?_) bq13 rfl rfl (any_of HT_.out (by kernel_rfl)) (fun _ _ _ h => h) (Or.inl ⟨by rfl, ?_⟩) ?_ ?_
            rotate_left
            · intro w'; go_simp; with_reducible rfl
            rotate_left
            · simp only [sxx]; rfl
            refine pure_ (i := 3) (N := some 83) (v := ?_) (a' := ?_) bq14 rfl rfl (any_of HT_.out (by kernel_rfl)) (fun _ _ _ h => h) (Or.inl ⟨by rfl, ?_⟩) ?_ ?_
            rotate_left
            · intro w'; go_simp; with_reducible rfl
            rotate_left
            · simp only [sxx]; rfl
            refine pure_ (i := 4) (N := some 84) (v := ?_) (a' := ?_) bq15 rfl rfl (any_of HT_.out (by kernel_rfl)) (fun _ _ _ h => h) (Or.inl ⟨by rfl, ?_⟩) ?_ ?_
            rotate_left
            · intro w'; go_simp; with_reducible rfl
            rotate_left
            · simp only [sxx]; rfl
            refine pure_ (i := 6) (N := some 86) (v := ?_) (a' := ?_) bq16 rfl rfl (any_of HT_.out (by kernel_rfl)) (fun _ _ _ h => h) (Or.inl ⟨by rfl, ?_⟩) ?_ ?_
            rotate_left
            · intro w'; go_simp; with_reducible rfl
            rotate_left
            · simp only [sxx]; rfl
            refine pure_ (i := 7) (N := some 87) (v := ?_) (a' := ?_) bq17 rfl rfl (any_of HT_.out (by kernel_rfl)) (fun _ _ _ h => h) (Or.inl ⟨by rfl, ?_⟩) ?_ ?_
            rotate_left
            · intro w'; go_simp; with_reducible rfl
            rotate_left
            · simp only [sxx]; rfl
            refine pure_ (i := 11) (N := some 91) (v := ?_) (a' := ?_) bq18 rfl rfl (any_of HT_.out (by kernel_rfl)) (fun _ _ _ h => h) (Or.inl ⟨by rfl, ?_⟩) ?_ ?_
            rotate_left
            · intro w'; go_simp; with_reducible rfl
            rotate_left
            · simp only [sxx]; rfl
            refine take_ (i := 2) (N := some 82) (v := ?_) (a' := ?_) bq19 rfl rfl (take_ofW HT_.out HW_.out (by kernel_rfl)) (fun _ _ _ h => h) (Or.inl ⟨by rfl, ?_⟩) hHeld ?_ ?_
            rotate_left
            · rintro w' ⟨s0, s1, s2, s3⟩
              go_simp; with_reducible rfl
            rotate_left
            · simp only [sxx]; rfl
            refine take_ (i := 5) (N := some 85) (v := ?_) (a' := ?_) bq20 rfl rfl (take_ofW HT_.out HW_.out (by kernel_rfl)) (fun _ _ _ h => h) (Or.inl ⟨by rfl, ?_⟩) hHeld ?_ ?_
            rotate_left
            · rintro w' ⟨s0, s1, s2, s3⟩
              go_simp; with_reducible rfl
            rotate_left
            · simp only [sxx]; rfl
            refine take_ (i := 8) (N := some 88) (v := ?_) (a' := ?_) bq21 rfl rfl (take_ofW HT_.out HW_.out (by kernel_rfl)) (fun _ _ _ h => h) (Or.inl ⟨by rfl, ?_⟩) hHeld ?_ ?_
            rotate_left
            · rintro w' ⟨s0, s1, s2, s3⟩
              go_simp; with_reducible rfl
            rotate_left
            · simp only [sxx]; rfl
            refine take_ (i := 12) (N := some 92) (v := ?_) (a' := ?_) bq22 rfl rfl (take_ofW HT_.out HW_.out (by kernel_rfl)) (fun _ _ _ h => h) (Or.inl ⟨by rfl, ?_⟩) hHeld ?_ ?_
            rotate_left
            · rintro w' ⟨s0, s1, s2, s3⟩
              go_simp; with_reducible rfl
            rotate_left
            · simp only [sxx]; rfl
            refine one_ (i := 9) (N := some 89) bq23 rfl rfl (one_of HT_.out (by kernel_rfl)) (by decide) (fun K hK => ?_)
            refine value_ (w1 := ?_) (v := ?_) (by rfl) rfl ?_ ?_
            rotate_left 2
            · go_simp
              constructor
              · rfl
              · rfl
            refine hK.out _ _ ⟨pw_cell_below (below_alloc (Below.refl _ _) _) kp7, pw_cell_below (below_alloc (Below.refl _ _) _) kp8, pw_cell_below (below_alloc (Below.refl _ _) _) kp9, pw_cell_below (below_alloc (Below.refl _ _) _) kp10⟩ (fun hHeld => ?_)
            clear hK K
            refine norm_ (a' := ?_) ?_ ?_
            rotate_left
            · show Act.put _ (some 89) _ = _
              simp only [sxx]; rfl
            refine one_ (i := 10) (N := some 90) bq24 rfl rfl (one_of HT_.out (by kernel_rfl)) (by decide) (fun K hK => ?_)
            refine goes_ Try.func53 (by kernel_rfl) rfl #[.slice (some ⟨w2.drew.heap.size, 0, none⟩) 3 3] (by rfl) rfl rfl (by simp only [mxx]; rfl) ?_
            with_reducible refine (numbers_N (some ⟨w2.drew.heap.size, 0, none⟩) 3 3 [vn, vp, vb] _ rfl (C_lit64 w2.drew [vn, vp, vb] (by simp)) (by decide) (by simp)).mono ?_
            rintro e u1 ⟨B, m, cb, rfl, hl1, hl2, ho, hb⟩
            refine ⟨_, rfl, ?_⟩
            have HU1 := Aside0.mk (below_step (below_alloc (below_drew1 (Below.refl w2.heap.size w2)) _) hb)
            have HO1 := Aside0.mk (Kd.R_lower ho (Nat.le_trans HA.out.size (below_alloc (below_drew1 (Below.refl w2.heap.size w2)) (.cells (nums .i64 [vn, vp, vb]).toArray 3)).size))
            clear hl1 hl2 ho hb
            refine hK.out _ _ ⟨pw_cell_below HU1.out K7.out, pw_cell_below HU1.out K8.out, pw_cell_below HU1.out K9.out, pw_cell_below HU1.out K10.out⟩ (fun hHeld => ?_)
            clear hK K
            refine norm_ (a' := ?_) ?_ ?_
            rotate_left
            · show Act.put _ (some 90) _ = _
              simp only [sxx]; rfl
            refine one_ (i := 13) (N := some 93) bq25 rfl rfl (one_of HT_.out (by kernel_rfl)) (by decide) (fun K hK => ?_)
            refine goes_ Try.func54 (by kernel_rfl) rfl #[.agg #[.int .i64 vn, .int .i64 vp, .int .i64 vb]] (by rfl) rfl rfl (by simp only [mxx]; rfl) ?_
            with_reducible refine (journal_viewMay.calls vn vp vb _ _ ((vMay_eq vn vp vb).trans (congrArg some HB1.out))).mono ?_
            rintro e u2 ⟨rfl, hb⟩
            refine ⟨_, rfl, ?_⟩
            have HU2 := Aside0.mk (below_step HU1.out hb)
            have HO2 := Aside0.mk (R8_keep HO1.out (fun k_ hk_ => (hb).block k_ (R8_lt HO1.out k_ hk_).2))
            clear hb
            refine hK.out _ _ ⟨pw_cell_below HU2.out K7.out, pw_cell_below HU2.out K8.out, pw_cell_below HU2.out K9.out, pw_cell_below HU2.out K10.out⟩ (fun hHeld => ?_)
            clear hK K
            refine norm_ (a' := ?_) ?_ ?_
            rotate_left
            · show Act.put _ (some 93) _ = _
              simp only [sxx]; rfl
            refine pure_ (i := 14) (N := some 94) (v := ?_) (a' := ?_) bq26 rfl rfl (any_of HT_.out (by kernel_rfl)) (fun _ _ _ h => h) (Or.inl ⟨by rfl, ?_⟩) ?_ ?_
            rotate_left
            · intro w'; go_simp; with_reducible rfl
            rotate_left
            · simp only [sxx]; rfl
            refine pure_ (i := 15) (N := some 95) (v := ?_) (a' := ?_) bq27 rfl rfl (any_of HT_.out (by kernel_rfl)) (fun _ _ _ h => h) (Or.inl ⟨by rfl, ?_⟩) ?_ ?_
            rotate_left
            · intro w'; go_simp; with_reducible rfl
            rotate_left
            · simp only [sxx]; rfl
            refine pure_ (i := 16) (N := some 96) (v := ?_) (a' := ?_) bq28 rfl rfl (any_of HT_.out (by kernel_rfl)) (fun _ _ _ h => h) (Or.inl ⟨by rfl, ?_⟩) ?_ ?_
            rotate_left
            · intro w'; go_simp; with_reducible rfl
            rotate_left
            · simp only [sxx]; rfl
            refine pure_ (i := 17) (N := some 97) (v := ?_) (a' := ?_) bq29 rfl rfl (any_of HT_.out (by kernel_rfl)) (fun _ _ _ h => h) (Or.inl ⟨by rfl, ?_⟩) ?_ ?_
            rotate_left
            · intro w'; go_simp; with_reducible rfl
            rotate_left
            · simp only [sxx]; rfl
            refine pure_ (i := 18) (N := some 98) (v := ?_) (a' := ?_) bq30 rfl rfl (any_of HT_.out (by kernel_rfl)) (fun _ _ _ h => h) (Or.inl ⟨by rfl, ?_⟩) ?_ ?_
            rotate_left
            · intro w'; go_simp; with_reducible rfl
            rotate_left
            · simp only [sxx]; rfl
            refine take_ (i := 19) (N := some 99) (v := ?_) (a' := ?_) bq31 rfl rfl (take_ofW HT_.out HW_.out (by kernel_rfl)) (fun _ _ _ h => h) (Or.inl ⟨by rfl, ?_⟩) hHeld ?_ ?_
            rotate_left
            · rintro w' ⟨s0, s1, s2, s3⟩
              go_simp; with_reducible rfl
            rotate_left
            · simp only [sxx]; rfl
            refine pure_ (i := 20) (N := some 100) (v := ?_) (a' := ?_) bq32 rfl rfl (any_of HT_.out (by kernel_rfl)) (fun _ _ _ h => h) (Or.inl ⟨by rfl, ?_⟩) ?_ ?_
            rotate_left
            · intro w'; go_simp; with_reducible rfl
            rotate_left
            · simp only [sxx]; rfl
            refine pure_ (i := 21) (N := some 101) (v := ?_) (a' := ?_) bq33 rfl rfl (any_of HT_.out (by kernel_rfl)) (fun _ _ _ h => h) (Or.inl ⟨by rfl, ?_⟩) ?_ ?_
            rotate_left
            · intro w'; go_simp; with_reducible rfl
            rotate_left
            · simp only [sxx]; rfl
            refine pure_ (i := 22) (N := some 102) (v := ?_) (a' := ?_) bq34 rfl rfl (any_of HT_.out (by kernel_rfl)) (fun _ _ _ h => h) (Or.inl ⟨by rfl, ?_⟩) ?_ ?_
            rotate_left
            · intro w'; go_simp; with_reducible rfl
            rotate_left
            · simp only [sxx]; rfl
            refine pure_ (i := 23) (N := some 103) (v := undef) (a' := ?_) bq35 rfl rfl (any_of HT_.out (by kernel_rfl)) (fun _ _ _ h => h) (Or.inr ⟨by rfl, rfl⟩) ?_ ?_
            rotate_left
            · simp only [sxx]; rfl
            refine pure_ (i := 24) (N := some 104) (v := ?_) (a' := ?_) bq36 rfl rfl (any_of HT_.out (by kernel_rfl)) (fun _ _ _ h => h) (Or.inl ⟨by rfl, ?_⟩) ?_ ?_
            rotate_left
            · intro w'; go_simp; with_reducible rfl
            rotate_left
            · simp only [sxx]; rfl
            refine pure_ (i := 25) (N := some 2) (v := ?_) (a' := ?_) bq37 rfl rfl (any_of HT_.out (by kernel_rfl)) (fun _ _ _ h => h) (Or.inl ⟨by rfl, ?_⟩) ?_ ?_
            rotate_left
            · intro w'; go_simp; with_reducible rfl
            rotate_left
            · simp only [sxx]; rfl
            refine pure_ (i := 26) (N := some 3) (v := ?_) (a' := ?_) bq38 rfl rfl (any_of HT_.out (by kernel_rfl)) (fun _ _ _ h => h) (Or.inl ⟨by rfl, ?_⟩) ?_ ?_
            rotate_left
            · intro w'; go_simp; with_reducible rfl
            rotate_left
            · simp only [sxx]; rfl
            refine done_ (done_of HT_.out (by kernel_rfl)) ?_
            clear kp7 kp8 kp9 kp10
            go_wp2
            refine bodyPost_ret (results_tmp2 rfl _ _ _) rfl ?_
            exact ⟨_, by rw [HB1.out, HEB.out, HSB.out, dst.out]; first | rfl | simp, HO2.out, below_step HA.out HU2.out⟩
def rg31.T11 : Bool × List (List Nat × List Nat) := (true, [([], []), ([0], [0]), ([1], [1]), ([2], [2]), ([3], [3]), ([], []), ([5], [5]), ([6, 4], [6]), ([7, 7], [7]), ([8], [8]), ([8, 9], [8, 9]), ([10, 8], [10]), ([11], [11]), ([12, 11], [11, 12]), ([13, 11], [11, 13]), ([11, 14], [11, 14]), ([15, 11], [15]), ([16], [16]), ([16, 17], [16, 17]), ([4, 16, 0, 1, 2, 3, 4], [4]), ([18, 19, 0, 1, 2, 3, 4, 5, 6, 7, 8, 9, 10, 11, 12, 13, 14, 15, 16, 17, 18, 19], [18])])
def rg31.B11 : List Nat := [0, 1, 3, 7, 15, 0, 32, 127, 255, 511, 1023, 2047, 4095, 8191, 16383, 32767, 65535, 131071, 262143, 131071, 1048575]
theorem rg31.tab11 : rtab .any (opsOf Try.f31 11) = rg31.T11 := by kernel_rfl
theorem rg31.bits11 : waitsOk rg31.T11.2 rg31.B11 = true := by kernel_rfl
set_option maxHeartbeats 64000000 in
set_option maxRecDepth 100000 in
theorem body_C3 (kd s v k se rq : Int) (A : Option Addr) (c n : Nat) (l : List S40) (vn vp vb st of : Int) (x : ByteArray) (w : World) (hk : kd = 3) (hn : l.length = n) (hC : Kd.C k40 w A n l) (hc : n ≤ c) (r1 : List Int) (r2 : Bool) (hr : recBody kd s v k se rq l vn vp vb st of x = (r1, r2)) :
    Calls Try.prog 31 #[.agg #[.int .i64 kd, .int .i64 s, .int .i64 v, .int .i64 k, .int .i64 se, .int .i64 rq, .slice A n c, .int .i64 vn, .int .i64 vp, .int .i64 vb, .int .i64 st, .int .i64 of, .string x]] w fun e w' => ∃ V, e = .returned (.tuple #[V, .bool r2]) ∧ R8 w' w.heap.size V r1 ∧ Below w.heap.size w w' := by
  have hu24 := Try.underlying24
  have hu26 := Try.underlying26
  have hu28 := Try.underlying28
  have HKK := Aside0.mk hk
  clear hk
  have HN := Aside0.mk hn
  have HC := Aside0.mk hC
  have HCC := Aside0.mk hc
  have HR := Aside0.mk hr
  clear hn hC hc hr
  go_enter Try.func31, Try.ntmps31
  go_upto_region 2 with (fail)
  obtain ⟨p, hp⟩ : ∃ p, p = w.heap.size := ⟨_, rfl⟩
  obtain ⟨q, hq⟩ : ∃ q, q = w.heap.size + 1 := ⟨_, rfl⟩
  obtain ⟨w1, hw1⟩ : ∃ w1, w1 = w.alloc (.cells #[.int .i64 kd, .int .i64 s, .int .i64 v, .int .i64 k, .int .i64 se, .int .i64 rq, .slice A n c, .int .i64 vn, .int .i64 vp, .int .i64 vb, .int .i64 st, .int .i64 of, .string x] 28) := ⟨_, rfl⟩
  obtain ⟨w2, hw2⟩ : ∃ w2, w2 = w1.alloc (.cells #[.int .i64 s, .int .i64 v, .int .i64 k, .int .i64 se, .int .i64 rq, .slice A n c] 24) := ⟨_, rfl⟩
  try simp only [Act.put, sx1, sx2, sx3]
  rw [← hw1, ← hw2]
  try rw [← hq]
  rw [← hp]
  have hz1 : w1.heap.size = w.heap.size + 1 := by rw [hw1]; simp
  have HA1 := Aside0.mk (show Below w.heap.size w w1 by rw [hw1]; exact below_alloc (Below.refl _ _) _)
  have HA := Aside0.mk (show Below w.heap.size w w2 by rw [hw2]; exact below_alloc HA1.out _)
  have HPB := Aside0.mk (show w2.heap[p]? = some (.cells #[.int .i64 kd, .int .i64 s, .int .i64 v, .int .i64 k, .int .i64 se, .int .i64 rq, .slice A n c, .int .i64 vn, .int .i64 vp, .int .i64 vb, .int .i64 st, .int .i64 of, .string x] 28 (0, 0)) by
    rw [hw2]
    refine (Below.heap_alloc _ _ _ (by omega)).trans ?_
    rw [hw1, hp]; exact heap_alloc_new w _)
  have HQB := Aside0.mk (show w2.heap[q]? = some (.cells #[.int .i64 s, .int .i64 v, .int .i64 k, .int .i64 se, .int .i64 rq, .slice A n c] 24 (0, 0)) by rw [hw2, hq, ← hz1]; exact heap_alloc_new w1 _)
  clear hp hq hw1 hw2 hz1 HA1
  have kp0 : w2.cell? ⟨p, 0, none⟩ = some (.int .i64 kd) := blk_cell (HPB.out) 0
  have kp1 : w2.cell? ⟨p, 1, none⟩ = some (.int .i64 s) := blk_cell (HPB.out) 1
  have kp2 : w2.cell? ⟨p, 2, none⟩ = some (.int .i64 v) := blk_cell (HPB.out) 2
  have kp3 : w2.cell? ⟨p, 3, none⟩ = some (.int .i64 k) := blk_cell (HPB.out) 3
  have kp4 : w2.cell? ⟨p, 4, none⟩ = some (.int .i64 se) := blk_cell (HPB.out) 4
  have kp5 : w2.cell? ⟨p, 5, none⟩ = some (.int .i64 rq) := blk_cell (HPB.out) 5
  have kp6 : w2.cell? ⟨p, 6, none⟩ = some (.slice A n c) := blk_cell (HPB.out) 6
  have kp7 : w2.cell? ⟨p, 7, none⟩ = some (.int .i64 vn) := blk_cell (HPB.out) 7
  have kp8 : w2.cell? ⟨p, 8, none⟩ = some (.int .i64 vp) := blk_cell (HPB.out) 8
  have kp9 : w2.cell? ⟨p, 9, none⟩ = some (.int .i64 vb) := blk_cell (HPB.out) 9
  have kp10 : w2.cell? ⟨p, 10, none⟩ = some (.int .i64 st) := blk_cell (HPB.out) 10
  have kp11 : w2.cell? ⟨p, 11, none⟩ = some (.int .i64 of) := blk_cell (HPB.out) 11
  have kp12 : w2.cell? ⟨p, 12, none⟩ = some (.string x) := blk_cell (HPB.out) 12
  have kq0 : w2.cell? ⟨q, 0, none⟩ = some (.int .i64 s) := blk_cell (HQB.out) 0
  have kq1 : w2.cell? ⟨q, 1, none⟩ = some (.int .i64 v) := blk_cell (HQB.out) 1
  have kq2 : w2.cell? ⟨q, 2, none⟩ = some (.int .i64 k) := blk_cell (HQB.out) 2
  have kq3 : w2.cell? ⟨q, 3, none⟩ = some (.int .i64 se) := blk_cell (HQB.out) 3
  have kq4 : w2.cell? ⟨q, 4, none⟩ = some (.int .i64 rq) := blk_cell (HQB.out) 4
  have kq5 : w2.cell? ⟨q, 5, none⟩ = some (.slice A n c) := blk_cell (HQB.out) 5
  go_cut [5] (fun v5 wc => v5 = .bool (blankE s v k se rq l) ∧ w2 = wc)
  case first =>
    by_cases h0 : s = 0
    · have c0 : (s == 0) = true := beq_iff_eq.mpr h0
      have d0 := Aside0.mk h0
      clear h0
      by_cases h1 : v = 0
      · have c1 : (v == 0) = true := beq_iff_eq.mpr h1
        have d1 := Aside0.mk h1
        clear h1
        by_cases h2 : k = 0
        · have c2 : (k == 0) = true := beq_iff_eq.mpr h2
          have d2 := Aside0.mk h2
          clear h2
          by_cases h3 : se = 0
          · have c3 : (se == 0) = true := beq_iff_eq.mpr h3
            have d3 := Aside0.mk h3
            clear h3
            by_cases h4 : rq = 0
            · have c4 : (rq == 0) = true := beq_iff_eq.mpr h4
              have d4 := Aside0.mk h4
              clear h4
              have HF := Aside0.mk (show blankE s v k se rq l = ((n : Int) == 0) by
                unfold blankE
                rw [HN.out, d0.out, d1.out, d2.out, d3.out, d4.out]
                by_cases h : n = 0
                · rw [h]; rfl
                · rw [decide_eq_false h, show ((n : Int) == 0) = false from beq_eq_false_iff_ne.mpr (by omega)]; rfl)
              go_wp2; go_meet
              case rel => exact ⟨by rw [HF.out], rfl⟩
            · have c4 : (rq == 0) = false := beq_eq_false_iff_ne.mpr h4
              have d4 := Aside0.mk h4
              clear h4
              have HF := Aside0.mk (show blankE s v k se rq l = false by unfold blankE; rw [beq_eq_false_iff_ne.mpr d4.out]; simp)
              go_wp2; go_meet
              case rel => exact ⟨by rw [HF.out], rfl⟩
          · have c3 : (se == 0) = false := beq_eq_false_iff_ne.mpr h3
            have d3 := Aside0.mk h3
            clear h3
            have HF := Aside0.mk (show blankE s v k se rq l = false by unfold blankE; rw [beq_eq_false_iff_ne.mpr d3.out]; simp)
            go_wp2; go_meet
            case rel => exact ⟨by rw [HF.out], rfl⟩
        · have c2 : (k == 0) = false := beq_eq_false_iff_ne.mpr h2
          have d2 := Aside0.mk h2
          clear h2
          have HF := Aside0.mk (show blankE s v k se rq l = false by unfold blankE; rw [beq_eq_false_iff_ne.mpr d2.out]; simp)
          go_wp2; go_meet
          case rel => exact ⟨by rw [HF.out], rfl⟩
      · have c1 : (v == 0) = false := beq_eq_false_iff_ne.mpr h1
        have d1 := Aside0.mk h1
        clear h1
        have HF := Aside0.mk (show blankE s v k se rq l = false by unfold blankE; rw [beq_eq_false_iff_ne.mpr d1.out]; simp)
        go_wp2; go_meet
        case rel => exact ⟨by rw [HF.out], rfl⟩
    · have c0 : (s == 0) = false := beq_eq_false_iff_ne.mpr h0
      have d0 := Aside0.mk h0
      clear h0
      have HF := Aside0.mk (show blankE s v k se rq l = false by unfold blankE; rw [beq_eq_false_iff_ne.mpr d0.out]; simp)
      go_wp2; go_meet
      case rel => exact ⟨by rw [HF.out], rfl⟩
  case rest =>
    obtain ⟨rfl, rfl⟩ := hcut
    obtain ⟨eb, heb⟩ : ∃ eb, blankE s v k se rq l = eb := ⟨_, rfl⟩
    rw [heb]
    have HEB := Aside0.mk heb
    clear heb
    go_upto_region 3 with (fail)
    go_cut [6] (fun v6 wc => v6 = .bool (noState of x) ∧ w2 = wc)
    case first =>
      by_cases h0 : x.toList = []
      · have c0 : (x.toList == ([] : List UInt8)) = true := beq_iff_eq.mpr h0
        have c1 : decide (x.toList = []) = true := decide_eq_true h0
        have d0 := Aside0.mk h0
        have HF := Aside0.mk (show noState of x = (of == 0) by unfold noState; rw [decide_eq_true d0.out]; simp)
        clear h0
        go_wp2; go_meet
        case rel => exact ⟨by rw [HF.out], rfl⟩
      · have c0 : (x.toList == ([] : List UInt8)) = false := beq_eq_false_iff_ne.mpr h0
        have c1 : decide (x.toList = []) = false := decide_eq_false h0
        have d0 := Aside0.mk h0
        clear h0
        have HF := Aside0.mk (show noState of x = false by unfold noState; rw [decide_eq_false d0.out]; simp)
        go_wp2; go_meet
        case rel => exact ⟨by rw [HF.out], rfl⟩
    case rest =>
      obtain ⟨rfl, rfl⟩ := hcut
      obtain ⟨sb, hsb⟩ : ∃ sb, noState of x = sb := ⟨_, rfl⟩
      rw [hsb]
      have HSB := Aside0.mk hsb
      clear hsb
      have hk := HKK.out
      have k1 := Aside0.mk (show ¬ kd = 1 by omega)
      have e1 : (kd == 1) = false := beq_eq_false_iff_ne.mpr (by omega)
      have k2 := Aside0.mk (show ¬ kd = 2 by omega)
      have e2 : (kd == 2) = false := beq_eq_false_iff_ne.mpr (by omega)
      have k3 := Aside0.mk (show kd = 3 from hk)
      have e3 : (kd == 3) = true := beq_iff_eq.mpr hk
      clear hk
      have hr := HR.out
      unfold recBody at hr
      rw [if_neg k1.out, if_neg k2.out, if_pos k3.out] at hr
      simp only [Prod.mk.injEq] at hr
      obtain ⟨rfl, rfl⟩ := hr
      clear HR
      obtain ⟨b1, hb1⟩ : ∃ b1, nMay vn vp vb = b1 := ⟨_, rfl⟩
      have HB1 := Aside0.mk hb1
      clear hb1
      have hu1 : True := trivial
      go_wp2
      clear kp0 kp1 kp2 kp3 kp4 kp5 kp6 kp11 kp12 kq0 kq1 kq2 kq3 kq4 kq5
      have K7 := Aside0.mk (show w2.cell? ⟨p, 7, none⟩ = some (.int .i64 vn) from kp7)
      have K8 := Aside0.mk (show w2.cell? ⟨p, 8, none⟩ = some (.int .i64 vp) from kp8)
      have K9 := Aside0.mk (show w2.cell? ⟨p, 9, none⟩ = some (.int .i64 vb) from kp9)
      have K10 := Aside0.mk (show w2.cell? ⟨p, 10, none⟩ = some (.int .i64 st) from kp10)
      replace kp7 : w2.drew.cell? ⟨p, 7, none⟩ = some (.int .i64 vn) := pw_cell_below (below_drew1 (Below.refl w2.heap.size w2)) K7.out
      replace kp8 : w2.drew.cell? ⟨p, 8, none⟩ = some (.int .i64 vp) := pw_cell_below (below_drew1 (Below.refl w2.heap.size w2)) K8.out
      replace kp9 : w2.drew.cell? ⟨p, 9, none⟩ = some (.int .i64 vb) := pw_cell_below (below_drew1 (Below.refl w2.heap.size w2)) K9.out
      replace kp10 : w2.drew.cell? ⟨p, 10, none⟩ = some (.int .i64 st) := pw_cell_below (below_drew1 (Below.refl w2.heap.size w2)) K10.out
      cases b1
      · skip
        refine start_ (n := 21) (S := fun w' => w'.cell? ⟨p, 7, none⟩ = some (.int .i64 vn) ∧ w'.cell? ⟨p, 8, none⟩ = some (.int .i64 vp) ∧ w'.cell? ⟨p, 9, none⟩ = some (.int .i64 vb) ∧ w'.cell? ⟨p, 10, none⟩ = some (.int .i64 st)) (ds := []) bq39 (by kernel_rfl) rfl rfl ⟨kp7, kp8, kp9, kp10⟩ (fun hHeld => ?_)
        refine with_tabW rg31.tab11 rg31.bits11 (fun HT_ HW_ => ?_)
        refine pure_ (i := 0) (N := some 107) (v := ?_) (a' := ?_) bq40 rfl rfl (any_of HT_.out (by kernel_rfl)) (fun _ _ _ h => h) (Or.inl ⟨by rfl, ?_⟩) ?_ ?_
        rotate_left
        · intro w'; go_simp; with_reducible rfl
        rotate_left
        · simp only [sxx]; rfl
        refine pure_ (i := 1) (N := some 108) (v := ?_) (a' := ?_) bq41 rfl rfl (any_of HT_.out (by kernel_rfl)) (fun _ _ _ h => h) (Or.inl ⟨by rfl, ?_⟩) ?_ ?_
        rotate_left
        · intro w'; go_simp; with_reducible rfl
        rotate_left
        · simp only [sxx]; rfl
        refine pure_ (i := 5) (N := some 112) (v := ?_) (a' := ?_) bq42 rfl rfl (any_of HT_.out (by kernel_rfl)) (fun _ _ _ h => h) (Or.inl ⟨by rfl, ?_⟩) ?_ ?_
        rotate_left
        · intro w'; go_simp; with_reducible rfl
        rotate_left
        · simp only [sxx]; rfl
        refine take_ (i := 2) (N := some 109) (v := ?_) (a' := ?_) bq43 rfl rfl (take_ofW HT_.out HW_.out (by kernel_rfl)) (fun _ _ _ h => h) (Or.inl ⟨by rfl, ?_⟩) hHeld ?_ ?_
        rotate_left
        · rintro w' ⟨s0, s1, s2, s3⟩
          go_simp; with_reducible rfl
        rotate_left
        · simp only [sxx]; rfl
        refine take_ (i := 6) (N := some 113) (v := ?_) (a' := ?_) bq44 rfl rfl (take_ofW HT_.out HW_.out (by kernel_rfl)) (fun _ _ _ h => h) (Or.inl ⟨by rfl, ?_⟩) hHeld ?_ ?_
        rotate_left
        · rintro w' ⟨s0, s1, s2, s3⟩
          go_simp; with_reducible rfl
        rotate_left
        · simp only [sxx]; rfl
        refine one_ (i := 3) (N := some 110) bq45 rfl rfl (one_of HT_.out (by kernel_rfl)) (by decide) (fun K hK => ?_)
        refine value_ (w1 := ?_) (v := ?_) (by rfl) rfl ?_ ?_
        rotate_left 2
        · go_simp
          constructor
          · rfl
          · rfl
        refine hK.out _ _ ⟨pw_cell_below (below_alloc (Below.refl _ _) _) kp7, pw_cell_below (below_alloc (Below.refl _ _) _) kp8, pw_cell_below (below_alloc (Below.refl _ _) _) kp9, pw_cell_below (below_alloc (Below.refl _ _) _) kp10⟩ (fun hHeld => ?_)
        clear hK K
        refine norm_ (a' := ?_) ?_ ?_
        rotate_left
        · show Act.put _ (some 110) _ = _
          simp only [sxx]; rfl
        refine one_ (i := 4) (N := some 111) bq46 rfl rfl (one_of HT_.out (by kernel_rfl)) (by decide) (fun K hK => ?_)
        refine goes_ Try.func53 (by kernel_rfl) rfl #[.slice (some ⟨w2.drew.heap.size, 0, none⟩) 1 1] (by rfl) rfl rfl (by simp only [mxx]; rfl) ?_
        with_reducible refine (numbers_N (some ⟨w2.drew.heap.size, 0, none⟩) 1 1 [vn] _ rfl (C_lit64 w2.drew [vn] (by simp)) (by decide) (by simp)).mono ?_
        rintro e u1 ⟨B, m, cb, rfl, hl1, hl2, ho, hb⟩
        refine ⟨_, rfl, ?_⟩
        have HU1 := Aside0.mk (below_step (below_alloc (below_drew1 (Below.refl w2.heap.size w2)) _) hb)
        have HO1 := Aside0.mk (Kd.R_lower ho (Nat.le_trans HA.out.size (below_alloc (below_drew1 (Below.refl w2.heap.size w2)) (.cells (nums .i64 [vn]).toArray 3)).size))
        clear hl1 hl2 ho hb
        refine hK.out _ _ ⟨pw_cell_below HU1.out K7.out, pw_cell_below HU1.out K8.out, pw_cell_below HU1.out K9.out, pw_cell_below HU1.out K10.out⟩ (fun hHeld => ?_)
        clear hK K
        refine norm_ (a' := ?_) ?_ ?_
        rotate_left
        · show Act.put _ (some 111) _ = _
          simp only [sxx]; rfl
        refine one_ (i := 7) (N := some 114) bq47 rfl rfl (one_of HT_.out (by kernel_rfl)) (by decide) (fun K hK => ?_)
        refine goes_ Try.func55 (by kernel_rfl) rfl #[.agg #[.int .i64 vn, .int .i64 vp, .int .i64 vb]] (by rfl) rfl rfl (by simp only [mxx]; rfl) ?_
        with_reducible refine (journal_numMay.calls vn vp vb _ _ ((nMay_eq vn vp vb).trans (congrArg some HB1.out))).mono ?_
        rintro e u2 ⟨rfl, hb⟩
        refine ⟨_, rfl, ?_⟩
        have HU2 := Aside0.mk (below_step HU1.out hb)
        have HO2 := Aside0.mk (R8_keep HO1.out (fun k_ hk_ => (hb).block k_ (R8_lt HO1.out k_ hk_).2))
        clear hb
        refine hK.out _ _ ⟨pw_cell_below HU2.out K7.out, pw_cell_below HU2.out K8.out, pw_cell_below HU2.out K9.out, pw_cell_below HU2.out K10.out⟩ (fun hHeld => ?_)
        clear hK K
        refine norm_ (a' := ?_) ?_ ?_
        rotate_left
        · show Act.put _ (some 114) _ = _
          simp only [sxx]; rfl
        refine pure_ (i := 8) (N := some 115) (v := ?_) (a' := ?_) bq48 rfl rfl (any_of HT_.out (by kernel_rfl)) (fun _ _ _ h => h) (Or.inl ⟨by rfl, ?_⟩) ?_ ?_
        rotate_left
        · intro w'; go_simp; with_reducible rfl
        rotate_left
        · simp only [sxx]; rfl
        refine pure_ (i := 9) (N := some 116) (v := undef) (a' := ?_) bq49 rfl rfl (any_of HT_.out (by kernel_rfl)) (fun _ _ _ h => h) (Or.inr ⟨by rfl, rfl⟩) ?_ ?_
        rotate_left
        · simp only [sxx]; rfl
        refine pure_ (i := 10) (N := some 117) (v := ?_) (a' := ?_) bq50 rfl rfl (any_of HT_.out (by kernel_rfl)) (fun _ _ _ h => h) (Or.inl ⟨by rfl, ?_⟩) ?_ ?_
        rotate_left
        · intro w'; go_simp; with_reducible rfl
        rotate_left
        · simp only [sxx]; rfl
        refine pure_ (i := 11) (N := some 118) (v := ?_) (a' := ?_) bq51 rfl rfl (any_of HT_.out (by kernel_rfl)) (fun _ _ _ h => h) (Or.inl ⟨by rfl, ?_⟩) ?_ ?_
        rotate_left
        · intro w'; go_simp; with_reducible rfl
        rotate_left
        · simp only [sxx]; rfl
        refine pure_ (i := 12) (N := some 119) (v := undef) (a' := ?_) bq52 rfl rfl (any_of HT_.out (by kernel_rfl)) (fun _ _ _ h => h) (Or.inr ⟨by rfl, rfl⟩) ?_ ?_
        rotate_left
        · simp only [sxx]; rfl
        refine pure_ (i := 13) (N := some 120) (v := undef) (a' := ?_) bq53 rfl rfl (any_of HT_.out (by kernel_rfl)) (fun _ _ _ h => h) (Or.inr ⟨by rfl, rfl⟩) ?_ ?_
        rotate_left
        · simp only [sxx]; rfl
        refine pure_ (i := 14) (N := some 121) (v := undef) (a' := ?_) bq54 rfl rfl (any_of HT_.out (by kernel_rfl)) (fun _ _ _ h => h) (Or.inr ⟨by rfl, rfl⟩) ?_ ?_
        rotate_left
        · simp only [sxx]; rfl
        refine pure_ (i := 15) (N := some 122) (v := ?_) (a' := ?_) bq55 rfl rfl (any_of HT_.out (by kernel_rfl)) (fun _ _ _ h => h) (Or.inl ⟨by rfl, ?_⟩) ?_ ?_
        rotate_left
        · intro w'; go_simp; with_reducible rfl
        rotate_left
        · simp only [sxx]; rfl
        refine pure_ (i := 16) (N := some 123) (v := ?_) (a' := ?_) bq56 rfl rfl (any_of HT_.out (by kernel_rfl)) (fun _ _ _ h => h) (Or.inl ⟨by rfl, ?_⟩) ?_ ?_
        rotate_left
        · intro w'; go_simp; with_reducible rfl
        rotate_left
        · simp only [sxx]; rfl
        refine pure_ (i := 17) (N := some 124) (v := undef) (a' := ?_) bq57 rfl rfl (any_of HT_.out (by kernel_rfl)) (fun _ _ _ h => h) (Or.inr ⟨by rfl, rfl⟩) ?_ ?_
        rotate_left
        · simp only [sxx]; rfl
        refine pure_ (i := 18) (N := some 125) (v := ?_) (a' := ?_) bq58 rfl rfl (any_of HT_.out (by kernel_rfl)) (fun _ _ _ h => h) (Or.inl ⟨by rfl, ?_⟩) ?_ ?_
        rotate_left
        · intro w'; go_simp; with_reducible rfl
        rotate_left
        · simp only [sxx]; rfl
        refine pure_ (i := 19) (N := some 2) (v := ?_) (a' := ?_) bq59 rfl rfl (any_of HT_.out (by kernel_rfl)) (fun _ _ _ h => h) (Or.inl ⟨by rfl, ?_⟩) ?_ ?_
        rotate_left
        · intro w'; go_simp; with_reducible rfl
        rotate_left
        · simp only [sxx]; rfl
        refine pure_ (i := 20) (N := some 3) (v := ?_) (a' := ?_) bq60 rfl rfl (any_of HT_.out (by kernel_rfl)) (fun _ _ _ h => h) (Or.inl ⟨by rfl, ?_⟩) ?_ ?_
        rotate_left
        · intro w'; go_simp; with_reducible rfl
        rotate_left
        · simp only [sxx]; rfl
        refine done_ (done_of HT_.out (by kernel_rfl)) ?_
        clear kp7 kp8 kp9 kp10
        go_wp2
        refine bodyPost_ret (results_tmp2 rfl _ _ _) rfl ?_
        exact ⟨_, by rw [HB1.out, HEB.out, HSB.out]; first | rfl | simp, HO2.out, below_step HA.out HU2.out⟩
      · cases eb
        · skip
          refine start_ (n := 21) (S := fun w' => w'.cell? ⟨p, 7, none⟩ = some (.int .i64 vn) ∧ w'.cell? ⟨p, 8, none⟩ = some (.int .i64 vp) ∧ w'.cell? ⟨p, 9, none⟩ = some (.int .i64 vb) ∧ w'.cell? ⟨p, 10, none⟩ = some (.int .i64 st)) (ds := []) bq39 (by kernel_rfl) rfl rfl ⟨kp7, kp8, kp9, kp10⟩ (fun hHeld => ?_)
          refine with_tabW rg31.tab11 rg31.bits11 (fun HT_ HW_ => ?_)
          refine pure_ (i := 0) (N := some 107) (v := ?_) (a' := ?_) bq40 rfl rfl (any_of HT_.out (by kernel_rfl)) (fun _ _ _ h => h) (Or.inl ⟨by rfl, ?_⟩) ?_ ?_
          rotate_left
          · intro w'; go_simp; with_reducible rfl
          rotate_left
          · simp only [sxx]; rfl
          refine pure_ (i := 1) (N := some 108) (v := ?_) (a' := ?_) bq41 rfl rfl (any_of HT_.out (by kernel_rfl)) (fun _ _ _ h => h) (Or.inl ⟨by rfl, ?_⟩) ?_ ?_
          rotate_left
          · intro w'; go_simp; with_reducible rfl
          rotate_left
          · simp only [sxx]; rfl
          refine pure_ (i := 5) (N := some 112) (v := ?_) (a' := ?_) bq42 rfl rfl (any_of HT_.out (by kernel_rfl)) (fun _ _ _ h => h) (Or.inl ⟨by rfl, ?_⟩) ?_ ?_
          rotate_left
          · intro w'; go_simp; with_reducible rfl
          rotate_left
          · simp only [sxx]; rfl
          refine take_ (i := 2) (N := some 109) (v := ?_) (a' := ?_) bq43 rfl rfl (take_ofW HT_.out HW_.out (by kernel_rfl)) (fun _ _ _ h => h) (Or.inl ⟨by rfl, ?_⟩) hHeld ?_ ?_
          rotate_left
          · rintro w' ⟨s0, s1, s2, s3⟩
            go_simp; with_reducible rfl
          rotate_left
          · simp only [sxx]; rfl
          refine take_ (i := 6) (N := some 113) (v := ?_) (a' := ?_) bq44 rfl rfl (take_ofW HT_.out HW_.out (by kernel_rfl)) (fun _ _ _ h => h) (Or.inl ⟨by rfl, ?_⟩) hHeld ?_ ?_
          rotate_left
          · rintro w' ⟨s0, s1, s2, s3⟩
            go_simp; with_reducible rfl
          rotate_left
          · simp only [sxx]; rfl
          refine one_ (i := 3) (N := some 110) bq45 rfl rfl (one_of HT_.out (by kernel_rfl)) (by decide) (fun K hK => ?_)
          refine value_ (w1 := ?_) (v := ?_) (by rfl) rfl ?_ ?_
          rotate_left 2
          · go_simp
            constructor
            · rfl
            · rfl
          refine hK.out _ _ ⟨pw_cell_below (below_alloc (Below.refl _ _) _) kp7, pw_cell_below (below_alloc (Below.refl _ _) _) kp8, pw_cell_below (below_alloc (Below.refl _ _) _) kp9, pw_cell_below (below_alloc (Below.refl _ _) _) kp10⟩ (fun hHeld => ?_)
          clear hK K
          refine norm_ (a' := ?_) ?_ ?_
          rotate_left
          · show Act.put _ (some 110) _ = _
            simp only [sxx]; rfl
          refine one_ (i := 4) (N := some 111) bq46 rfl rfl (one_of HT_.out (by kernel_rfl)) (by decide) (fun K hK => ?_)
          refine goes_ Try.func53 (by kernel_rfl) rfl #[.slice (some ⟨w2.drew.heap.size, 0, none⟩) 1 1] (by rfl) rfl rfl (by simp only [mxx]; rfl) ?_
          with_reducible refine (numbers_N (some ⟨w2.drew.heap.size, 0, none⟩) 1 1 [vn] _ rfl (C_lit64 w2.drew [vn] (by simp)) (by decide) (by simp)).mono ?_
          rintro e u1 ⟨B, m, cb, rfl, hl1, hl2, ho, hb⟩
          refine ⟨_, rfl, ?_⟩
          have HU1 := Aside0.mk (below_step (below_alloc (below_drew1 (Below.refl w2.heap.size w2)) _) hb)
          have HO1 := Aside0.mk (Kd.R_lower ho (Nat.le_trans HA.out.size (below_alloc (below_drew1 (Below.refl w2.heap.size w2)) (.cells (nums .i64 [vn]).toArray 3)).size))
          clear hl1 hl2 ho hb
          refine hK.out _ _ ⟨pw_cell_below HU1.out K7.out, pw_cell_below HU1.out K8.out, pw_cell_below HU1.out K9.out, pw_cell_below HU1.out K10.out⟩ (fun hHeld => ?_)
          clear hK K
          refine norm_ (a' := ?_) ?_ ?_
          rotate_left
          · show Act.put _ (some 111) _ = _
            simp only [sxx]; rfl
          refine one_ (i := 7) (N := some 114) bq47 rfl rfl (one_of HT_.out (by kernel_rfl)) (by decide) (fun K hK => ?_)
          refine goes_ Try.func55 (by kernel_rfl) rfl #[.agg #[.int .i64 vn, .int .i64 vp, .int .i64 vb]] (by rfl) rfl rfl (by simp only [mxx]; rfl) ?_
          with_reducible refine (journal_numMay.calls vn vp vb _ _ ((nMay_eq vn vp vb).trans (congrArg some HB1.out))).mono ?_
          rintro e u2 ⟨rfl, hb⟩
          refine ⟨_, rfl, ?_⟩
          have HU2 := Aside0.mk (below_step HU1.out hb)
          have HO2 := Aside0.mk (R8_keep HO1.out (fun k_ hk_ => (hb).block k_ (R8_lt HO1.out k_ hk_).2))
          clear hb
          refine hK.out _ _ ⟨pw_cell_below HU2.out K7.out, pw_cell_below HU2.out K8.out, pw_cell_below HU2.out K9.out, pw_cell_below HU2.out K10.out⟩ (fun hHeld => ?_)
          clear hK K
          refine norm_ (a' := ?_) ?_ ?_
          rotate_left
          · show Act.put _ (some 114) _ = _
            simp only [sxx]; rfl
          refine pure_ (i := 8) (N := some 115) (v := ?_) (a' := ?_) bq48 rfl rfl (any_of HT_.out (by kernel_rfl)) (fun _ _ _ h => h) (Or.inl ⟨by rfl, ?_⟩) ?_ ?_
          rotate_left
          · intro w'; go_simp; with_reducible rfl
          rotate_left
          · simp only [sxx]; rfl
          refine pure_ (i := 9) (N := some 116) (v := ?_) (a' := ?_) bq49 rfl rfl (any_of HT_.out (by kernel_rfl)) (fun _ _ _ h => h) (Or.inl ⟨by rfl, ?_⟩) ?_ ?_
          rotate_left
          · intro w'; go_simp; with_reducible rfl
          rotate_left
          · simp only [sxx]; rfl
          refine pure_ (i := 10) (N := some 117) (v := ?_) (a' := ?_) bq50 rfl rfl (any_of HT_.out (by kernel_rfl)) (fun _ _ _ h => h) (Or.inl ⟨by rfl, ?_⟩) ?_ ?_
          rotate_left
          · intro w'; go_simp; with_reducible rfl
          rotate_left
          · simp only [sxx]; rfl
          refine pure_ (i := 11) (N := some 118) (v := ?_) (a' := ?_) bq51 rfl rfl (any_of HT_.out (by kernel_rfl)) (fun _ _ _ h => h) (Or.inl ⟨by rfl, ?_⟩) ?_ ?_
          rotate_left
          · intro w'; go_simp; with_reducible rfl
          rotate_left
          · simp only [sxx]; rfl
          refine pure_ (i := 12) (N := some 119) (v := undef) (a' := ?_) bq52 rfl rfl (any_of HT_.out (by kernel_rfl)) (fun _ _ _ h => h) (Or.inr ⟨by rfl, rfl⟩) ?_ ?_
          rotate_left
          · simp only [sxx]; rfl
          refine pure_ (i := 13) (N := some 120) (v := undef) (a' := ?_) bq53 rfl rfl (any_of HT_.out (by kernel_rfl)) (fun _ _ _ h => h) (Or.inr ⟨by rfl, rfl⟩) ?_ ?_
          rotate_left
          · simp only [sxx]; rfl
          refine pure_ (i := 14) (N := some 121) (v := undef) (a' := ?_) bq54 rfl rfl (any_of HT_.out (by kernel_rfl)) (fun _ _ _ h => h) (Or.inr ⟨by rfl, rfl⟩) ?_ ?_
          rotate_left
          · simp only [sxx]; rfl
          refine pure_ (i := 15) (N := some 122) (v := ?_) (a' := ?_) bq55 rfl rfl (any_of HT_.out (by kernel_rfl)) (fun _ _ _ h => h) (Or.inl ⟨by rfl, ?_⟩) ?_ ?_
          rotate_left
          · intro w'; go_simp; with_reducible rfl
          rotate_left
          · simp only [sxx]; rfl
          refine pure_ (i := 16) (N := some 123) (v := ?_) (a' := ?_) bq56 rfl rfl (any_of HT_.out (by kernel_rfl)) (fun _ _ _ h => h) (Or.inl ⟨by rfl, ?_⟩) ?_ ?_
          rotate_left
          · intro w'; go_simp; with_reducible rfl
          rotate_left
          · simp only [sxx]; rfl
          refine pure_ (i := 17) (N := some 124) (v := undef) (a' := ?_) bq57 rfl rfl (any_of HT_.out (by kernel_rfl)) (fun _ _ _ h => h) (Or.inr ⟨by rfl, rfl⟩) ?_ ?_
          rotate_left
          · simp only [sxx]; rfl
          refine pure_ (i := 18) (N := some 125) (v := ?_) (a' := ?_) bq58 rfl rfl (any_of HT_.out (by kernel_rfl)) (fun _ _ _ h => h) (Or.inl ⟨by rfl, ?_⟩) ?_ ?_
          rotate_left
          · intro w'; go_simp; with_reducible rfl
          rotate_left
          · simp only [sxx]; rfl
          refine pure_ (i := 19) (N := some 2) (v := ?_) (a' := ?_) bq59 rfl rfl (any_of HT_.out (by kernel_rfl)) (fun _ _ _ h => h) (Or.inl ⟨by rfl, ?_⟩) ?_ ?_
          rotate_left
          · intro w'; go_simp; with_reducible rfl
          rotate_left
          · simp only [sxx]; rfl
          refine pure_ (i := 20) (N := some 3) (v := ?_) (a' := ?_) bq60 rfl rfl (any_of HT_.out (by kernel_rfl)) (fun _ _ _ h => h) (Or.inl ⟨by rfl, ?_⟩) ?_ ?_
          rotate_left
          · intro w'; go_simp; with_reducible rfl
          rotate_left
          · simp only [sxx]; rfl
          refine done_ (done_of HT_.out (by kernel_rfl)) ?_
          clear kp7 kp8 kp9 kp10
          go_wp2
          refine bodyPost_ret (results_tmp2 rfl _ _ _) rfl ?_
          exact ⟨_, by rw [HB1.out, HEB.out, HSB.out]; first | rfl | simp, HO2.out, below_step HA.out HU2.out⟩
        · by_cases hst : st = 0
          · have cst : (st == 0) = true := beq_iff_eq.mpr hst
            have dst := Aside0.mk cst
            clear hst
            skip
            refine start_ (n := 21) (S := fun w' => w'.cell? ⟨p, 7, none⟩ = some (.int .i64 vn) ∧ w'.cell? ⟨p, 8, none⟩ = some (.int .i64 vp) ∧ w'.cell? ⟨p, 9, none⟩ = some (.int .i64 vb) ∧ w'.cell? ⟨p, 10, none⟩ = some (.int .i64 st)) (ds := []) bq39 (by kernel_rfl) rfl rfl ⟨kp7, kp8, kp9, kp10⟩ (fun hHeld => ?_)
            refine with_tabW rg31.tab11 rg31.bits11 (fun HT_ HW_ => ?_)
            refine pure_ (i := 0) (N := some 107) (v := ?_) (a' := ?_) bq40 rfl rfl (any_of HT_.out (by kernel_rfl)) (fun _ _ _ h => h) (Or.inl ⟨by rfl, ?_⟩) ?_ ?_
            rotate_left
            · intro w'; go_simp; with_reducible rfl
            rotate_left
            · simp only [sxx]; rfl
            refine pure_ (i := 1) (N := some 108) (v := ?_) (a' := ?_) bq41 rfl rfl (any_of HT_.out (by kernel_rfl)) (fun _ _ _ h => h) (Or.inl ⟨by rfl, ?_⟩) ?_ ?_
            rotate_left
            · intro w'; go_simp; with_reducible rfl
            rotate_left
            · simp only [sxx]; rfl
            refine pure_ (i := 5) (N := some 112) (v := ?_) (a' := ?_) bq42 rfl rfl (any_of HT_.out (by kernel_rfl)) (fun _ _ _ h => h) (Or.inl ⟨by rfl, ?_⟩) ?_ ?_
            rotate_left
            · intro w'; go_simp; with_reducible rfl
            rotate_left
            · simp only [sxx]; rfl
            refine take_ (i := 2) (N := some 109) (v := ?_) (a' := ?_) bq43 rfl rfl (take_ofW HT_.out HW_.out (by kernel_rfl)) (fun _ _ _ h => h) (Or.inl ⟨by rfl, ?_⟩) hHeld ?_ ?_
            rotate_left
            · rintro w' ⟨s0, s1, s2, s3⟩
              go_simp; with_reducible rfl
            rotate_left
            · simp only [sxx]; rfl
            refine take_ (i := 6) (N := some 113) (v := ?_) (a' := ?_) bq44 rfl rfl (take_ofW HT_.out HW_.out (by kernel_rfl)) (fun _ _ _ h => h) (Or.inl ⟨by rfl, ?_⟩) hHeld ?_ ?_
            rotate_left
            · rintro w' ⟨s0, s1, s2, s3⟩
              go_simp; with_reducible rfl
            rotate_left
            · simp only [sxx]; rfl
            refine one_ (i := 3) (N := some 110) bq45 rfl rfl (one_of HT_.out (by kernel_rfl)) (by decide) (fun K hK => ?_)
            refine value_ (w1 := ?_) (v := ?_) (by rfl) rfl ?_ ?_
            rotate_left 2
            · go_simp
              constructor
              · rfl
              · rfl
            refine hK.out _ _ ⟨pw_cell_below (below_alloc (Below.refl _ _) _) kp7, pw_cell_below (below_alloc (Below.refl _ _) _) kp8, pw_cell_below (below_alloc (Below.refl _ _) _) kp9, pw_cell_below (below_alloc (Below.refl _ _) _) kp10⟩ (fun hHeld => ?_)
            clear hK K
            refine norm_ (a' := ?_) ?_ ?_
            rotate_left
            · show Act.put _ (some 110) _ = _
              simp only [sxx]; rfl
            refine one_ (i := 4) (N := some 111) bq46 rfl rfl (one_of HT_.out (by kernel_rfl)) (by decide) (fun K hK => ?_)
            refine goes_ Try.func53 (by kernel_rfl) rfl #[.slice (some ⟨w2.drew.heap.size, 0, none⟩) 1 1] (by rfl) rfl rfl (by simp only [mxx]; rfl) ?_
            with_reducible refine (numbers_N (some ⟨w2.drew.heap.size, 0, none⟩) 1 1 [vn] _ rfl (C_lit64 w2.drew [vn] (by simp)) (by decide) (by simp)).mono ?_
            rintro e u1 ⟨B, m, cb, rfl, hl1, hl2, ho, hb⟩
            refine ⟨_, rfl, ?_⟩
            have HU1 := Aside0.mk (below_step (below_alloc (below_drew1 (Below.refl w2.heap.size w2)) _) hb)
            have HO1 := Aside0.mk (Kd.R_lower ho (Nat.le_trans HA.out.size (below_alloc (below_drew1 (Below.refl w2.heap.size w2)) (.cells (nums .i64 [vn]).toArray 3)).size))
            clear hl1 hl2 ho hb
            refine hK.out _ _ ⟨pw_cell_below HU1.out K7.out, pw_cell_below HU1.out K8.out, pw_cell_below HU1.out K9.out, pw_cell_below HU1.out K10.out⟩ (fun hHeld => ?_)
            clear hK K
            refine norm_ (a' := ?_) ?_ ?_
            rotate_left
            · show Act.put _ (some 111) _ = _
              simp only [sxx]; rfl
            refine one_ (i := 7) (N := some 114) bq47 rfl rfl (one_of HT_.out (by kernel_rfl)) (by decide) (fun K hK => ?_)
            refine goes_ Try.func55 (by kernel_rfl) rfl #[.agg #[.int .i64 vn, .int .i64 vp, .int .i64 vb]] (by rfl) rfl rfl (by simp only [mxx]; rfl) ?_
            with_reducible refine (journal_numMay.calls vn vp vb _ _ ((nMay_eq vn vp vb).trans (congrArg some HB1.out))).mono ?_
            rintro e u2 ⟨rfl, hb⟩
            refine ⟨_, rfl, ?_⟩
            have HU2 := Aside0.mk (below_step HU1.out hb)
            have HO2 := Aside0.mk (R8_keep HO1.out (fun k_ hk_ => (hb).block k_ (R8_lt HO1.out k_ hk_).2))
            clear hb
            refine hK.out _ _ ⟨pw_cell_below HU2.out K7.out, pw_cell_below HU2.out K8.out, pw_cell_below HU2.out K9.out, pw_cell_below HU2.out K10.out⟩ (fun hHeld => ?_)
            clear hK K
            refine norm_ (a' := ?_) ?_ ?_
            rotate_left
            · show Act.put _ (some 114) _ = _
              simp only [sxx]; rfl
            refine pure_ (i := 8) (N := some 115) (v := ?_) (a' := ?_) bq48 rfl rfl (any_of HT_.out (by kernel_rfl)) (fun _ _ _ h => h) (Or.inl ⟨by rfl, ?_⟩) ?_ ?_
            rotate_left
            · intro w'; go_simp; with_reducible rfl
            rotate_left
            · simp only [sxx]; rfl
            refine pure_ (i := 9) (N := some 116) (v := ?_) (a' := ?_) bq49 rfl rfl (any_of HT_.out (by kernel_rfl)) (fun _ _ _ h => h) (Or.inl ⟨by rfl, ?_⟩) ?_ ?_
            rotate_left
            · intro w'; go_simp; with_reducible rfl
            rotate_left
            · simp only [sxx]; rfl
            refine pure_ (i := 10) (N := some 117) (v := ?_) (a' := ?_) bq50 rfl rfl (any_of HT_.out (by kernel_rfl)) (fun _ _ _ h => h) (Or.inl ⟨by rfl, ?_⟩) ?_ ?_
            rotate_left
            · intro w'; go_simp; with_reducible rfl
            rotate_left
            · simp only [sxx]; rfl
            refine pure_ (i := 11) (N := some 118) (v := ?_) (a' := ?_) bq51 rfl rfl (any_of HT_.out (by kernel_rfl)) (fun _ _ _ h => h) (Or.inl ⟨by rfl, ?_⟩) ?_ ?_
            rotate_left
            · intro w'; go_simp; with_reducible rfl
            rotate_left
            · simp only [sxx]; rfl
            refine pure_ (i := 12) (N := some 119) (v := ?_) (a' := ?_) bq52 rfl rfl (any_of HT_.out (by kernel_rfl)) (fun _ _ _ h => h) (Or.inl ⟨by rfl, ?_⟩) ?_ ?_
            rotate_left
            · intro w'; go_simp; with_reducible rfl
            rotate_left
            · simp only [sxx]; rfl
            refine take_ (i := 13) (N := some 120) (v := ?_) (a' := ?_) bq53 rfl rfl (take_ofW HT_.out HW_.out (by kernel_rfl)) (fun _ _ _ h => h) (Or.inl ⟨by rfl, ?_⟩) hHeld ?_ ?_
            rotate_left
            · rintro w' ⟨s0, s1, s2, s3⟩
              go_simp; with_reducible rfl
            rotate_left
            · simp only [sxx]; rfl
            refine pure_ (i := 14) (N := some 121) (v := ?_) (a' := ?_) bq54 rfl rfl (any_of HT_.out (by kernel_rfl)) (fun _ _ _ h => h) (Or.inl ⟨by rfl, ?_⟩) ?_ ?_
            rotate_left
            · intro w'; go_simp; with_reducible rfl
            rotate_left
            · simp only [sxx]; rfl
            refine pure_ (i := 15) (N := some 122) (v := ?_) (a' := ?_) bq55 rfl rfl (any_of HT_.out (by kernel_rfl)) (fun _ _ _ h => h) (Or.inl ⟨by rfl, ?_⟩) ?_ ?_
            rotate_left
            · intro w'; go_simp; with_reducible rfl
            rotate_left
            · simp only [sxx]; rfl
            refine pure_ (i := 16) (N := some 123) (v := ?_) (a' := ?_) bq56 rfl rfl (any_of HT_.out (by kernel_rfl)) (fun _ _ _ h => h) (Or.inl ⟨by rfl, ?_⟩) ?_ ?_
            rotate_left
            · intro w'; go_simp; with_reducible rfl
            rotate_left
            · simp only [sxx]; rfl
            refine pure_ (i := 17) (N := some 124) (v := ?_) (a' := ?_) bq57 rfl rfl (any_of HT_.out (by kernel_rfl)) (fun _ _ _ h => h) (Or.inl ⟨by rfl, ?_⟩) ?_ ?_
            rotate_left
            · intro w'; go_simp; with_reducible rfl
            rotate_left
            · simp only [sxx]; rfl
            refine pure_ (i := 18) (N := some 125) (v := ?_) (a' := ?_) bq58 rfl rfl (any_of HT_.out (by kernel_rfl)) (fun _ _ _ h => h) (Or.inl ⟨by rfl, ?_⟩) ?_ ?_
            rotate_left
            · intro w'; go_simp; with_reducible rfl
            rotate_left
            · simp only [sxx]; rfl
            refine pure_ (i := 19) (N := some 2) (v := ?_) (a' := ?_) bq59 rfl rfl (any_of HT_.out (by kernel_rfl)) (fun _ _ _ h => h) (Or.inl ⟨by rfl, ?_⟩) ?_ ?_
            rotate_left
            · intro w'; go_simp; with_reducible rfl
            rotate_left
            · simp only [sxx]; rfl
            refine pure_ (i := 20) (N := some 3) (v := ?_) (a' := ?_) bq60 rfl rfl (any_of HT_.out (by kernel_rfl)) (fun _ _ _ h => h) (Or.inl ⟨by rfl, ?_⟩) ?_ ?_
            rotate_left
            · intro w'; go_simp; with_reducible rfl
            rotate_left
            · simp only [sxx]; rfl
            refine done_ (done_of HT_.out (by kernel_rfl)) ?_
            clear kp7 kp8 kp9 kp10
            go_wp2
            refine bodyPost_ret (results_tmp2 rfl _ _ _) rfl ?_
            exact ⟨_, by rw [HB1.out, HEB.out, HSB.out, dst.out]; first | rfl | simp, HO2.out, below_step HA.out HU2.out⟩
          · have cst : (st == 0) = false := beq_eq_false_iff_ne.mpr hst
            have dst := Aside0.mk cst
            clear hst
            skip
            refine start_ (n := 21) (S := fun w' => w'.cell? ⟨p, 7, none⟩ = some (.int .i64 vn) ∧ w'.cell? ⟨p, 8, none⟩ = some (.int .i64 vp) ∧ w'.cell? ⟨p, 9, none⟩ = some (.int .i64 vb) ∧ w'.cell? ⟨p, 10, none⟩ = some (.int .i64 st)) (ds := []) bq39 (by kernel_rfl) rfl rfl ⟨kp7, kp8, kp9, kp10⟩ (fun hHeld => ?_)
            refine with_tabW rg31.tab11 rg31.bits11 (fun HT_ HW_ => ?_)
            refine pure_ (i := 0) (N := some 107) (v := ?_) (a' := ?_) bq40 rfl rfl (any_of HT_.out (by kernel_rfl)) (fun _ _ _ h => h) (Or.inl ⟨by rfl, ?_⟩) ?_ ?_
            rotate_left
            · intro w'; go_simp; with_reducible rfl
            rotate_left
            · simp only [sxx]; rfl
            refine pure_ (i := 1) (N := some 108) (v := ?_) (a' := ?_) bq41 rfl rfl (any_of HT_.out (by kernel_rfl)) (fun _ _ _ h => h) (Or.inl ⟨by rfl, ?_⟩) ?_ ?_
            rotate_left
            · intro w'; go_simp; with_reducible rfl
            rotate_left
            · simp only [sxx]; rfl
            refine pure_ (i := 5) (N := some 112) (v := ?_) (a' := ?_) bq42 rfl rfl (any_of HT_.out (by kernel_rfl)) (fun _ _ _ h => h) (Or.inl ⟨by rfl, ?_⟩) ?_ ?_
            rotate_left
            · intro w'; go_simp; with_reducible rfl
            rotate_left
            · simp only [sxx]; rfl
            refine take_ (i := 2) (N := some 109) (v := ?_) (a' := ?_) bq43 rfl rfl (take_ofW HT_.out HW_.out (by kernel_rfl)) (fun _ _ _ h => h) (Or.inl ⟨by rfl, ?_⟩) hHeld ?_ ?_
            rotate_left
            · rintro w' ⟨s0, s1, s2, s3⟩
              go_simp; with_reducible rfl
            rotate_left
            · simp only [sxx]; rfl
            refine take_ (i := 6) (N := some 113) (v := ?_) (a' := ?_) bq44 rfl rfl (take_ofW HT_.out HW_.out (by kernel_rfl)) (fun _ _ _ h => h) (Or.inl ⟨by rfl, ?_⟩) hHeld ?_ ?_
            rotate_left
            · rintro w' ⟨s0, s1, s2, s3⟩
              go_simp; with_reducible rfl
            rotate_left
            · simp only [sxx]; rfl
            refine one_ (i := 3) (N := some 110) bq45 rfl rfl (one_of HT_.out (by kernel_rfl)) (by decide) (fun K hK => ?_)
            refine value_ (w1 := ?_) (v := ?_) (by rfl) rfl ?_ ?_
            rotate_left 2
            · go_simp
              constructor
              · rfl
              · rfl
            refine hK.out _ _ ⟨pw_cell_below (below_alloc (Below.refl _ _) _) kp7, pw_cell_below (below_alloc (Below.refl _ _) _) kp8, pw_cell_below (below_alloc (Below.refl _ _) _) kp9, pw_cell_below (below_alloc (Below.refl _ _) _) kp10⟩ (fun hHeld => ?_)
            clear hK K
            refine norm_ (a' := ?_) ?_ ?_
            rotate_left
            · show Act.put _ (some 110) _ = _
              simp only [sxx]; rfl
            refine one_ (i := 4) (N := some 111) bq46 rfl rfl (one_of HT_.out (by kernel_rfl)) (by decide) (fun K hK => ?_)
            refine goes_ Try.func53 (by kernel_rfl) rfl #[.slice (some ⟨w2.drew.heap.size, 0, none⟩) 1 1] (by rfl) rfl rfl (by simp only [mxx]; rfl) ?_
            with_reducible refine (numbers_N (some ⟨w2.drew.heap.size, 0, none⟩) 1 1 [vn] _ rfl (C_lit64 w2.drew [vn] (by simp)) (by decide) (by simp)).mono ?_
            rintro e u1 ⟨B, m, cb, rfl, hl1, hl2, ho, hb⟩
            refine ⟨_, rfl, ?_⟩
            have HU1 := Aside0.mk (below_step (below_alloc (below_drew1 (Below.refl w2.heap.size w2)) _) hb)
            have HO1 := Aside0.mk (Kd.R_lower ho (Nat.le_trans HA.out.size (below_alloc (below_drew1 (Below.refl w2.heap.size w2)) (.cells (nums .i64 [vn]).toArray 3)).size))
            clear hl1 hl2 ho hb
            refine hK.out _ _ ⟨pw_cell_below HU1.out K7.out, pw_cell_below HU1.out K8.out, pw_cell_below HU1.out K9.out, pw_cell_below HU1.out K10.out⟩ (fun hHeld => ?_)
            clear hK K
            refine norm_ (a' := ?_) ?_ ?_
            rotate_left
            · show Act.put _ (some 111) _ = _
              simp only [sxx]; rfl
            refine one_ (i := 7) (N := some 114) bq47 rfl rfl (one_of HT_.out (by kernel_rfl)) (by decide) (fun K hK => ?_)
            refine goes_ Try.func55 (by kernel_rfl) rfl #[.agg #[.int .i64 vn, .int .i64 vp, .int .i64 vb]] (by rfl) rfl rfl (by simp only [mxx]; rfl) ?_
            with_reducible refine (journal_numMay.calls vn vp vb _ _ ((nMay_eq vn vp vb).trans (congrArg some HB1.out))).mono ?_
            rintro e u2 ⟨rfl, hb⟩
            refine ⟨_, rfl, ?_⟩
            have HU2 := Aside0.mk (below_step HU1.out hb)
            have HO2 := Aside0.mk (R8_keep HO1.out (fun k_ hk_ => (hb).block k_ (R8_lt HO1.out k_ hk_).2))
            clear hb
            refine hK.out _ _ ⟨pw_cell_below HU2.out K7.out, pw_cell_below HU2.out K8.out, pw_cell_below HU2.out K9.out, pw_cell_below HU2.out K10.out⟩ (fun hHeld => ?_)
            clear hK K
            refine norm_ (a' := ?_) ?_ ?_
            rotate_left
            · show Act.put _ (some 114) _ = _
              simp only [sxx]; rfl
            refine pure_ (i := 8) (N := some 115) (v := ?_) (a' := ?_) bq48 rfl rfl (any_of HT_.out (by kernel_rfl)) (fun _ _ _ h => h) (Or.inl ⟨by rfl, ?_⟩) ?_ ?_
            rotate_left
            · intro w'; go_simp; with_reducible rfl
            rotate_left
            · simp only [sxx]; rfl
            refine pure_ (i := 9) (N := some 116) (v := ?_) (a' := ?_) bq49 rfl rfl (any_of HT_.out (by kernel_rfl)) (fun _ _ _ h => h) (Or.inl ⟨by rfl, ?_⟩) ?_ ?_
            rotate_left
            · intro w'; go_simp; with_reducible rfl
            rotate_left
            · simp only [sxx]; rfl
            refine pure_ (i := 10) (N := some 117) (v := ?_) (a' := ?_) bq50 rfl rfl (any_of HT_.out (by kernel_rfl)) (fun _ _ _ h => h) (Or.inl ⟨by rfl, ?_⟩) ?_ ?_
            rotate_left
            · intro w'; go_simp; with_reducible rfl
            rotate_left
            · simp only [sxx]; rfl
            refine pure_ (i := 11) (N := some 118) (v := ?_) (a' := ?_) bq51 rfl rfl (any_of HT_.out (by kernel_rfl)) (fun _ _ _ h => h) (Or.inl ⟨by rfl, ?_⟩) ?_ ?_
            rotate_left
            · intro w'; go_simp; with_reducible rfl
            rotate_left
            · simp only [sxx]; rfl
            refine pure_ (i := 12) (N := some 119) (v := ?_) (a' := ?_) bq52 rfl rfl (any_of HT_.out (by kernel_rfl)) (fun _ _ _ h => h) (Or.inl ⟨by rfl, ?_⟩) ?_ ?_
            rotate_left
            · intro w'; go_simp; with_reducible rfl
            rotate_left
            · simp only [sxx]; rfl
            refine take_ (i := 13) (N := some 120) (v := ?_) (a' := ?_) bq53 rfl rfl (take_ofW HT_.out HW_.out (by kernel_rfl)) (fun _ _ _ h => h) (Or.inl ⟨by rfl, ?_⟩) hHeld ?_ ?_
            rotate_left
            · rintro w' ⟨s0, s1, s2, s3⟩
              go_simp; with_reducible rfl
            rotate_left
            · simp only [sxx]; rfl
            refine pure_ (i := 14) (N := some 121) (v := ?_) (a' := ?_) bq54 rfl rfl (any_of HT_.out (by kernel_rfl)) (fun _ _ _ h => h) (Or.inl ⟨by rfl, ?_⟩) ?_ ?_
            rotate_left
            · intro w'; go_simp; with_reducible rfl
            rotate_left
            · simp only [sxx]; rfl
            refine pure_ (i := 15) (N := some 122) (v := ?_) (a' := ?_) bq55 rfl rfl (any_of HT_.out (by kernel_rfl)) (fun _ _ _ h => h) (Or.inl ⟨by rfl, ?_⟩) ?_ ?_
            rotate_left
            · intro w'; go_simp; with_reducible rfl
            rotate_left
            · simp only [sxx]; rfl
            refine pure_ (i := 16) (N := some 123) (v := ?_) (a' := ?_) bq56 rfl rfl (any_of HT_.out (by kernel_rfl)) (fun _ _ _ h => h) (Or.inl ⟨by rfl, ?_⟩) ?_ ?_
            rotate_left
            · intro w'; go_simp; with_reducible rfl
            rotate_left
            · simp only [sxx]; rfl
            refine pure_ (i := 17) (N := some 124) (v := undef) (a' := ?_) bq57 rfl rfl (any_of HT_.out (by kernel_rfl)) (fun _ _ _ h => h) (Or.inr ⟨by rfl, rfl⟩) ?_ ?_
            rotate_left
            · simp only [sxx]; rfl
            refine pure_ (i := 18) (N := some 125) (v := ?_) (a' := ?_) bq58 rfl rfl (any_of HT_.out (by kernel_rfl)) (fun _ _ _ h => h) (Or.inl ⟨by rfl, ?_⟩) ?_ ?_
            rotate_left
            · intro w'; go_simp; with_reducible rfl
            rotate_left
            · simp only [sxx]; rfl
            refine pure_ (i := 19) (N := some 2) (v := ?_) (a' := ?_) bq59 rfl rfl (any_of HT_.out (by kernel_rfl)) (fun _ _ _ h => h) (Or.inl ⟨by rfl, ?_⟩) ?_ ?_
            rotate_left
            · intro w'; go_simp; with_reducible rfl
            rotate_left
            · simp only [sxx]; rfl
            refine pure_ (i := 20) (N := some 3) (v := ?_) (a' := ?_) bq60 rfl rfl (any_of HT_.out (by kernel_rfl)) (fun _ _ _ h => h) (Or.inl ⟨by rfl, ?_⟩) ?_ ?_
            rotate_left
            · intro w'; go_simp; with_reducible rfl
            rotate_left
            · simp only [sxx]; rfl
            refine done_ (done_of HT_.out (by kernel_rfl)) ?_
            clear kp7 kp8 kp9 kp10
            go_wp2
            refine bodyPost_ret (results_tmp2 rfl _ _ _) rfl ?_
            exact ⟨_, by rw [HB1.out, HEB.out, HSB.out, dst.out]; first | rfl | simp, HO2.out, below_step HA.out HU2.out⟩
set_option maxHeartbeats 64000000 in
set_option maxRecDepth 100000 in
theorem body_C4 (kd s v k se rq : Int) (A : Option Addr) (c n : Nat) (l : List S40) (vn vp vb st of : Int) (x : ByteArray) (w : World) (hk : kd = 4) (hn : l.length = n) (hC : Kd.C k40 w A n l) (hc : n ≤ c) (r1 : List Int) (r2 : Bool) (hr : recBody kd s v k se rq l vn vp vb st of x = (r1, r2)) :
    Calls Try.prog 31 #[.agg #[.int .i64 kd, .int .i64 s, .int .i64 v, .int .i64 k, .int .i64 se, .int .i64 rq, .slice A n c, .int .i64 vn, .int .i64 vp, .int .i64 vb, .int .i64 st, .int .i64 of, .string x]] w fun e w' => ∃ V, e = .returned (.tuple #[V, .bool r2]) ∧ R8 w' w.heap.size V r1 ∧ Below w.heap.size w w' := by
  have hu24 := Try.underlying24
  have hu26 := Try.underlying26
  have hu28 := Try.underlying28
  have HKK := Aside0.mk hk
  clear hk
  have HN := Aside0.mk hn
  have HC := Aside0.mk hC
  have HCC := Aside0.mk hc
  have HR := Aside0.mk hr
  clear hn hC hc hr
  go_enter Try.func31, Try.ntmps31
  go_upto_region 2 with (fail)
  obtain ⟨p, hp⟩ : ∃ p, p = w.heap.size := ⟨_, rfl⟩
  obtain ⟨q, hq⟩ : ∃ q, q = w.heap.size + 1 := ⟨_, rfl⟩
  obtain ⟨w1, hw1⟩ : ∃ w1, w1 = w.alloc (.cells #[.int .i64 kd, .int .i64 s, .int .i64 v, .int .i64 k, .int .i64 se, .int .i64 rq, .slice A n c, .int .i64 vn, .int .i64 vp, .int .i64 vb, .int .i64 st, .int .i64 of, .string x] 28) := ⟨_, rfl⟩
  obtain ⟨w2, hw2⟩ : ∃ w2, w2 = w1.alloc (.cells #[.int .i64 s, .int .i64 v, .int .i64 k, .int .i64 se, .int .i64 rq, .slice A n c] 24) := ⟨_, rfl⟩
  try simp only [Act.put, sx1, sx2, sx3]
  rw [← hw1, ← hw2]
  try rw [← hq]
  rw [← hp]
  have hz1 : w1.heap.size = w.heap.size + 1 := by rw [hw1]; simp
  have HA1 := Aside0.mk (show Below w.heap.size w w1 by rw [hw1]; exact below_alloc (Below.refl _ _) _)
  have HA := Aside0.mk (show Below w.heap.size w w2 by rw [hw2]; exact below_alloc HA1.out _)
  have HPB := Aside0.mk (show w2.heap[p]? = some (.cells #[.int .i64 kd, .int .i64 s, .int .i64 v, .int .i64 k, .int .i64 se, .int .i64 rq, .slice A n c, .int .i64 vn, .int .i64 vp, .int .i64 vb, .int .i64 st, .int .i64 of, .string x] 28 (0, 0)) by
    rw [hw2]
    refine (Below.heap_alloc _ _ _ (by omega)).trans ?_
    rw [hw1, hp]; exact heap_alloc_new w _)
  have HQB := Aside0.mk (show w2.heap[q]? = some (.cells #[.int .i64 s, .int .i64 v, .int .i64 k, .int .i64 se, .int .i64 rq, .slice A n c] 24 (0, 0)) by rw [hw2, hq, ← hz1]; exact heap_alloc_new w1 _)
  clear hp hq hw1 hw2 hz1 HA1
  have kp0 : w2.cell? ⟨p, 0, none⟩ = some (.int .i64 kd) := blk_cell (HPB.out) 0
  have kp1 : w2.cell? ⟨p, 1, none⟩ = some (.int .i64 s) := blk_cell (HPB.out) 1
  have kp2 : w2.cell? ⟨p, 2, none⟩ = some (.int .i64 v) := blk_cell (HPB.out) 2
  have kp3 : w2.cell? ⟨p, 3, none⟩ = some (.int .i64 k) := blk_cell (HPB.out) 3
  have kp4 : w2.cell? ⟨p, 4, none⟩ = some (.int .i64 se) := blk_cell (HPB.out) 4
  have kp5 : w2.cell? ⟨p, 5, none⟩ = some (.int .i64 rq) := blk_cell (HPB.out) 5
  have kp6 : w2.cell? ⟨p, 6, none⟩ = some (.slice A n c) := blk_cell (HPB.out) 6
  have kp7 : w2.cell? ⟨p, 7, none⟩ = some (.int .i64 vn) := blk_cell (HPB.out) 7
  have kp8 : w2.cell? ⟨p, 8, none⟩ = some (.int .i64 vp) := blk_cell (HPB.out) 8
  have kp9 : w2.cell? ⟨p, 9, none⟩ = some (.int .i64 vb) := blk_cell (HPB.out) 9
  have kp10 : w2.cell? ⟨p, 10, none⟩ = some (.int .i64 st) := blk_cell (HPB.out) 10
  have kp11 : w2.cell? ⟨p, 11, none⟩ = some (.int .i64 of) := blk_cell (HPB.out) 11
  have kp12 : w2.cell? ⟨p, 12, none⟩ = some (.string x) := blk_cell (HPB.out) 12
  have kq0 : w2.cell? ⟨q, 0, none⟩ = some (.int .i64 s) := blk_cell (HQB.out) 0
  have kq1 : w2.cell? ⟨q, 1, none⟩ = some (.int .i64 v) := blk_cell (HQB.out) 1
  have kq2 : w2.cell? ⟨q, 2, none⟩ = some (.int .i64 k) := blk_cell (HQB.out) 2
  have kq3 : w2.cell? ⟨q, 3, none⟩ = some (.int .i64 se) := blk_cell (HQB.out) 3
  have kq4 : w2.cell? ⟨q, 4, none⟩ = some (.int .i64 rq) := blk_cell (HQB.out) 4
  have kq5 : w2.cell? ⟨q, 5, none⟩ = some (.slice A n c) := blk_cell (HQB.out) 5
  go_cut [5] (fun v5 wc => v5 = .bool (blankE s v k se rq l) ∧ w2 = wc)
  case first =>
    by_cases h0 : s = 0
    · have c0 : (s == 0) = true := beq_iff_eq.mpr h0
      have d0 := Aside0.mk h0
      clear h0
      by_cases h1 : v = 0
      · have c1 : (v == 0) = true := beq_iff_eq.mpr h1
        have d1 := Aside0.mk h1
        clear h1
        by_cases h2 : k = 0
        · have c2 : (k == 0) = true := beq_iff_eq.mpr h2
          have d2 := Aside0.mk h2
          clear h2
          by_cases h3 : se = 0
          · have c3 : (se == 0) = true := beq_iff_eq.mpr h3
            have d3 := Aside0.mk h3
            clear h3
            by_cases h4 : rq = 0
            · have c4 : (rq == 0) = true := beq_iff_eq.mpr h4
              have d4 := Aside0.mk h4
              clear h4
              have HF := Aside0.mk (show blankE s v k se rq l = ((n : Int) == 0) by
                unfold blankE
                rw [HN.out, d0.out, d1.out, d2.out, d3.out, d4.out]
                by_cases h : n = 0
                · rw [h]; rfl
                · rw [decide_eq_false h, show ((n : Int) == 0) = false from beq_eq_false_iff_ne.mpr (by omega)]; rfl)
              go_wp2; go_meet
              case rel => exact ⟨by rw [HF.out], rfl⟩
            · have c4 : (rq == 0) = false := beq_eq_false_iff_ne.mpr h4
              have d4 := Aside0.mk h4
              clear h4
              have HF := Aside0.mk (show blankE s v k se rq l = false by unfold blankE; rw [beq_eq_false_iff_ne.mpr d4.out]; simp)
              go_wp2; go_meet
              case rel => exact ⟨by rw [HF.out], rfl⟩
          · have c3 : (se == 0) = false := beq_eq_false_iff_ne.mpr h3
            have d3 := Aside0.mk h3
            clear h3
            have HF := Aside0.mk (show blankE s v k se rq l = false by unfold blankE; rw [beq_eq_false_iff_ne.mpr d3.out]; simp)
            go_wp2; go_meet
            case rel => exact ⟨by rw [HF.out], rfl⟩
        · have c2 : (k == 0) = false := beq_eq_false_iff_ne.mpr h2
          have d2 := Aside0.mk h2
          clear h2
          have HF := Aside0.mk (show blankE s v k se rq l = false by unfold blankE; rw [beq_eq_false_iff_ne.mpr d2.out]; simp)
          go_wp2; go_meet
          case rel => exact ⟨by rw [HF.out], rfl⟩
      · have c1 : (v == 0) = false := beq_eq_false_iff_ne.mpr h1
        have d1 := Aside0.mk h1
        clear h1
        have HF := Aside0.mk (show blankE s v k se rq l = false by unfold blankE; rw [beq_eq_false_iff_ne.mpr d1.out]; simp)
        go_wp2; go_meet
        case rel => exact ⟨by rw [HF.out], rfl⟩
    · have c0 : (s == 0) = false := beq_eq_false_iff_ne.mpr h0
      have d0 := Aside0.mk h0
      clear h0
      have HF := Aside0.mk (show blankE s v k se rq l = false by unfold blankE; rw [beq_eq_false_iff_ne.mpr d0.out]; simp)
      go_wp2; go_meet
      case rel => exact ⟨by rw [HF.out], rfl⟩
  case rest =>
    obtain ⟨rfl, rfl⟩ := hcut
    obtain ⟨eb, heb⟩ : ∃ eb, blankE s v k se rq l = eb := ⟨_, rfl⟩
    rw [heb]
    have HEB := Aside0.mk heb
    clear heb
    go_upto_region 3 with (fail)
    go_cut [6] (fun v6 wc => v6 = .bool (noState of x) ∧ w2 = wc)
    case first =>
      by_cases h0 : x.toList = []
      · have c0 : (x.toList == ([] : List UInt8)) = true := beq_iff_eq.mpr h0
        have c1 : decide (x.toList = []) = true := decide_eq_true h0
        have d0 := Aside0.mk h0
        have HF := Aside0.mk (show noState of x = (of == 0) by unfold noState; rw [decide_eq_true d0.out]; simp)
        clear h0
        go_wp2; go_meet
        case rel => exact ⟨by rw [HF.out], rfl⟩
      · have c0 : (x.toList == ([] : List UInt8)) = false := beq_eq_false_iff_ne.mpr h0
        have c1 : decide (x.toList = []) = false := decide_eq_false h0
        have d0 := Aside0.mk h0
        clear h0
        have HF := Aside0.mk (show noState of x = false by unfold noState; rw [decide_eq_false d0.out]; simp)
        go_wp2; go_meet
        case rel => exact ⟨by rw [HF.out], rfl⟩
    case rest =>
      obtain ⟨rfl, rfl⟩ := hcut
      obtain ⟨sb, hsb⟩ : ∃ sb, noState of x = sb := ⟨_, rfl⟩
      rw [hsb]
      have HSB := Aside0.mk hsb
      clear hsb
      have hk := HKK.out
      have k1 := Aside0.mk (show ¬ kd = 1 by omega)
      have e1 : (kd == 1) = false := beq_eq_false_iff_ne.mpr (by omega)
      have k2 := Aside0.mk (show ¬ kd = 2 by omega)
      have e2 : (kd == 2) = false := beq_eq_false_iff_ne.mpr (by omega)
      have k3 := Aside0.mk (show ¬ kd = 3 by omega)
      have e3 : (kd == 3) = false := beq_eq_false_iff_ne.mpr (by omega)
      have k4 := Aside0.mk (show kd = 4 from hk)
      have e4 : (kd == 4) = true := beq_iff_eq.mpr hk
      clear hk
      have hr := HR.out
      unfold recBody at hr
      rw [if_neg k1.out, if_neg k2.out, if_neg k3.out, if_pos k4.out] at hr
      simp only [Prod.mk.injEq] at hr
      obtain ⟨rfl, rfl⟩ := hr
      clear HR
      go_wp2_with fail
      clear kq0 kq1 kq2 kq3 kq4 kq5
      refine (numbers_N (some ⟨w2.heap.size, 0, none⟩) 2 2 [st, of] _ rfl (C_lit64 w2 [st, of] (by simp)) (by decide) (by simp)).mono ?_
      rintro e3 w3 ⟨B3, m3, d3, rfl, hl1, hl2, ho, hb⟩
      have HU3 := Aside0.mk (below_step (below_alloc (Below.refl w2.heap.size w2) _) hb)
      have HO3 := Aside0.mk (show R8 w3 w.heap.size (.slice B3 m3 d3) (numsEnc [st, of]) from Kd.R_lower ho (Nat.le_trans HA.out.size (below_alloc (Below.refl w2.heap.size w2) (.cells (nums .i64 [st, of]).toArray 3)).size))
      have HLN3 := Aside0.mk hl1
      clear hl1 hl2 ho hb
      clear kp0 kp1 kp2 kp3 kp4 kp5 kp6 kp7 kp8 kp9 kp10 kp11 kp12
      have kp0 : w3.cell? ⟨p, 0, none⟩ = some (.int .i64 kd) := blk_cell ((HU3.out.block p (blk_lt HPB.out)).trans HPB.out) 0
      have kp1 : w3.cell? ⟨p, 1, none⟩ = some (.int .i64 s) := blk_cell ((HU3.out.block p (blk_lt HPB.out)).trans HPB.out) 1
      have kp2 : w3.cell? ⟨p, 2, none⟩ = some (.int .i64 v) := blk_cell ((HU3.out.block p (blk_lt HPB.out)).trans HPB.out) 2
      have kp3 : w3.cell? ⟨p, 3, none⟩ = some (.int .i64 k) := blk_cell ((HU3.out.block p (blk_lt HPB.out)).trans HPB.out) 3
      have kp4 : w3.cell? ⟨p, 4, none⟩ = some (.int .i64 se) := blk_cell ((HU3.out.block p (blk_lt HPB.out)).trans HPB.out) 4
      have kp5 : w3.cell? ⟨p, 5, none⟩ = some (.int .i64 rq) := blk_cell ((HU3.out.block p (blk_lt HPB.out)).trans HPB.out) 5
      have kp6 : w3.cell? ⟨p, 6, none⟩ = some (.slice A n c) := blk_cell ((HU3.out.block p (blk_lt HPB.out)).trans HPB.out) 6
      have kp7 : w3.cell? ⟨p, 7, none⟩ = some (.int .i64 vn) := blk_cell ((HU3.out.block p (blk_lt HPB.out)).trans HPB.out) 7
      have kp8 : w3.cell? ⟨p, 8, none⟩ = some (.int .i64 vp) := blk_cell ((HU3.out.block p (blk_lt HPB.out)).trans HPB.out) 8
      have kp9 : w3.cell? ⟨p, 9, none⟩ = some (.int .i64 vb) := blk_cell ((HU3.out.block p (blk_lt HPB.out)).trans HPB.out) 9
      have kp10 : w3.cell? ⟨p, 10, none⟩ = some (.int .i64 st) := blk_cell ((HU3.out.block p (blk_lt HPB.out)).trans HPB.out) 10
      have kp11 : w3.cell? ⟨p, 11, none⟩ = some (.int .i64 of) := blk_cell ((HU3.out.block p (blk_lt HPB.out)).trans HPB.out) 11
      have kp12 : w3.cell? ⟨p, 12, none⟩ = some (.string x) := blk_cell ((HU3.out.block p (blk_lt HPB.out)).trans HPB.out) 12
      go_upto_region 15 with (fail)
      go_cut [10] (fun v10 wc => v10 = .bool (noView vn vp vb) ∧ w3 = wc)
      case first =>
        by_cases h0 : vn = 0
        · have c0 : (vn == 0) = true := beq_iff_eq.mpr h0
          have d0 := Aside0.mk h0
          clear h0
          by_cases h1 : vp = 0
          · have c1 : (vp == 0) = true := beq_iff_eq.mpr h1
            have d1 := Aside0.mk h1
            clear h1
            by_cases h2 : vb = 0
            · have c2 : (vb == 0) = true := beq_iff_eq.mpr h2
              have d2 := Aside0.mk h2
              clear h2
              have HF := Aside0.mk (show noView vn vp vb = true by unfold noView; rw [beq_iff_eq.mpr d0.out, beq_iff_eq.mpr d1.out, beq_iff_eq.mpr d2.out]; simp)
              go_wp2; go_meet
              case rel => exact ⟨by rw [HF.out], rfl⟩
            · have c2 : (vb == 0) = false := beq_eq_false_iff_ne.mpr h2
              have d2 := Aside0.mk h2
              clear h2
              have HF := Aside0.mk (show noView vn vp vb = false by unfold noView; rw [beq_eq_false_iff_ne.mpr d2.out]; simp)
              go_wp2; go_meet
              case rel => exact ⟨by rw [HF.out], rfl⟩
          · have c1 : (vp == 0) = false := beq_eq_false_iff_ne.mpr h1
            have d1 := Aside0.mk h1
            clear h1
            have HF := Aside0.mk (show noView vn vp vb = false by unfold noView; rw [beq_eq_false_iff_ne.mpr d1.out]; simp)
            go_wp2; go_meet
            case rel => exact ⟨by rw [HF.out], rfl⟩
        · have c0 : (vn == 0) = false := beq_eq_false_iff_ne.mpr h0
          have d0 := Aside0.mk h0
          clear h0
          have HF := Aside0.mk (show noView vn vp vb = false by unfold noView; rw [beq_eq_false_iff_ne.mpr d0.out]; simp)
          go_wp2; go_meet
          case rel => exact ⟨by rw [HF.out], rfl⟩
      case' rest =>
        obtain ⟨rfl, rfl⟩ := hcut
      go_wp2_with fail
      refine (numbers_N (some ⟨w3.heap.size, 0, none⟩) 3 3 [vn, st, of] _ rfl (C_lit64 w3 [vn, st, of] (by simp)) (by decide) (by simp)).mono ?_
      rintro e4 w4 ⟨B4, m4, d4, rfl, hl1, hl2, ho, hb⟩
      have HU4 := Aside0.mk (below_step (below_alloc HU3.out _) hb)
      have HO4 := Aside0.mk (show R8 w4 w.heap.size (.slice B4 m4 d4) (numsEnc [vn, st, of]) from Kd.R_lower ho (Nat.le_trans (Nat.le_trans HA.out.size HU3.out.size) (below_alloc (Below.refl w3.heap.size w3) (.cells (nums .i64 [vn, st, of]).toArray 3)).size))
      have HLN4 := Aside0.mk hl1
      clear hl1 hl2 ho hb
      clear kp0 kp1 kp2 kp3 kp4 kp5 kp6 kp7 kp8 kp9 kp10 kp11 kp12
      have kp0 : w4.cell? ⟨p, 0, none⟩ = some (.int .i64 kd) := blk_cell ((HU4.out.block p (blk_lt HPB.out)).trans HPB.out) 0
      have kp1 : w4.cell? ⟨p, 1, none⟩ = some (.int .i64 s) := blk_cell ((HU4.out.block p (blk_lt HPB.out)).trans HPB.out) 1
      have kp2 : w4.cell? ⟨p, 2, none⟩ = some (.int .i64 v) := blk_cell ((HU4.out.block p (blk_lt HPB.out)).trans HPB.out) 2
      have kp3 : w4.cell? ⟨p, 3, none⟩ = some (.int .i64 k) := blk_cell ((HU4.out.block p (blk_lt HPB.out)).trans HPB.out) 3
      have kp4 : w4.cell? ⟨p, 4, none⟩ = some (.int .i64 se) := blk_cell ((HU4.out.block p (blk_lt HPB.out)).trans HPB.out) 4
      have kp5 : w4.cell? ⟨p, 5, none⟩ = some (.int .i64 rq) := blk_cell ((HU4.out.block p (blk_lt HPB.out)).trans HPB.out) 5
      have kp6 : w4.cell? ⟨p, 6, none⟩ = some (.slice A n c) := blk_cell ((HU4.out.block p (blk_lt HPB.out)).trans HPB.out) 6
      have kp7 : w4.cell? ⟨p, 7, none⟩ = some (.int .i64 vn) := blk_cell ((HU4.out.block p (blk_lt HPB.out)).trans HPB.out) 7
      have kp8 : w4.cell? ⟨p, 8, none⟩ = some (.int .i64 vp) := blk_cell ((HU4.out.block p (blk_lt HPB.out)).trans HPB.out) 8
      have kp9 : w4.cell? ⟨p, 9, none⟩ = some (.int .i64 vb) := blk_cell ((HU4.out.block p (blk_lt HPB.out)).trans HPB.out) 9
      have kp10 : w4.cell? ⟨p, 10, none⟩ = some (.int .i64 st) := blk_cell ((HU4.out.block p (blk_lt HPB.out)).trans HPB.out) 10
      have kp11 : w4.cell? ⟨p, 11, none⟩ = some (.int .i64 of) := blk_cell ((HU4.out.block p (blk_lt HPB.out)).trans HPB.out) 11
      have kp12 : w4.cell? ⟨p, 12, none⟩ = some (.string x) := blk_cell ((HU4.out.block p (blk_lt HPB.out)).trans HPB.out) 12
      obtain ⟨t1, ht1⟩ : ∃ t1, nMay vn vp vb = t1 := ⟨_, rfl⟩
      have HT1 := Aside0.mk ht1
      clear ht1
      go_wp2_with fail
      refine (journal_numMay.calls vn vp vb t1 _ ((nMay_eq vn vp vb).trans (congrArg some HT1.out))).mono ?_
      rintro e5 w5 ⟨rfl, hb⟩
      have HU5 := Aside0.mk (below_step HU4.out hb)
      have HO5 := Aside0.mk (R8_keep HO4.out (fun k_ hk_ => hb.block k_ (R8_lt HO4.out k_ hk_).2))
      clear hb
      clear kp0 kp1 kp2 kp3 kp4 kp5 kp6 kp7 kp8 kp9 kp10 kp11 kp12
      have kp0 : w5.cell? ⟨p, 0, none⟩ = some (.int .i64 kd) := blk_cell ((HU5.out.block p (blk_lt HPB.out)).trans HPB.out) 0
      have kp1 : w5.cell? ⟨p, 1, none⟩ = some (.int .i64 s) := blk_cell ((HU5.out.block p (blk_lt HPB.out)).trans HPB.out) 1
      have kp2 : w5.cell? ⟨p, 2, none⟩ = some (.int .i64 v) := blk_cell ((HU5.out.block p (blk_lt HPB.out)).trans HPB.out) 2
      have kp3 : w5.cell? ⟨p, 3, none⟩ = some (.int .i64 k) := blk_cell ((HU5.out.block p (blk_lt HPB.out)).trans HPB.out) 3
      have kp4 : w5.cell? ⟨p, 4, none⟩ = some (.int .i64 se) := blk_cell ((HU5.out.block p (blk_lt HPB.out)).trans HPB.out) 4
      have kp5 : w5.cell? ⟨p, 5, none⟩ = some (.int .i64 rq) := blk_cell ((HU5.out.block p (blk_lt HPB.out)).trans HPB.out) 5
      have kp6 : w5.cell? ⟨p, 6, none⟩ = some (.slice A n c) := blk_cell ((HU5.out.block p (blk_lt HPB.out)).trans HPB.out) 6
      have kp7 : w5.cell? ⟨p, 7, none⟩ = some (.int .i64 vn) := blk_cell ((HU5.out.block p (blk_lt HPB.out)).trans HPB.out) 7
      have kp8 : w5.cell? ⟨p, 8, none⟩ = some (.int .i64 vp) := blk_cell ((HU5.out.block p (blk_lt HPB.out)).trans HPB.out) 8
      have kp9 : w5.cell? ⟨p, 9, none⟩ = some (.int .i64 vb) := blk_cell ((HU5.out.block p (blk_lt HPB.out)).trans HPB.out) 9
      have kp10 : w5.cell? ⟨p, 10, none⟩ = some (.int .i64 st) := blk_cell ((HU5.out.block p (blk_lt HPB.out)).trans HPB.out) 10
      have kp11 : w5.cell? ⟨p, 11, none⟩ = some (.int .i64 of) := blk_cell ((HU5.out.block p (blk_lt HPB.out)).trans HPB.out) 11
      have kp12 : w5.cell? ⟨p, 12, none⟩ = some (.string x) := blk_cell ((HU5.out.block p (blk_lt HPB.out)).trans HPB.out) 12
      go_wp2_with fail
      refine (jtext_N x w5).mono ?_
      rintro e6 w6 ⟨B6, m6, d6, rfl, hl1, ho, hb⟩
      have HU6 := Aside0.mk (below_step HU5.out hb)
      have HT6 := Aside0.mk (R8_C ho)
      have HO6 := Aside0.mk (R8_keep HO5.out (fun k_ hk_ => hb.block k_ (R8_lt HO5.out k_ hk_).2))
      have HL6 := Aside0.mk hl1
      clear hl1 ho hb
      clear kp0 kp1 kp2 kp3 kp4 kp5 kp6 kp7 kp8 kp9 kp10 kp11 kp12
      have kp0 : w6.cell? ⟨p, 0, none⟩ = some (.int .i64 kd) := blk_cell ((HU6.out.block p (blk_lt HPB.out)).trans HPB.out) 0
      have kp1 : w6.cell? ⟨p, 1, none⟩ = some (.int .i64 s) := blk_cell ((HU6.out.block p (blk_lt HPB.out)).trans HPB.out) 1
      have kp2 : w6.cell? ⟨p, 2, none⟩ = some (.int .i64 v) := blk_cell ((HU6.out.block p (blk_lt HPB.out)).trans HPB.out) 2
      have kp3 : w6.cell? ⟨p, 3, none⟩ = some (.int .i64 k) := blk_cell ((HU6.out.block p (blk_lt HPB.out)).trans HPB.out) 3
      have kp4 : w6.cell? ⟨p, 4, none⟩ = some (.int .i64 se) := blk_cell ((HU6.out.block p (blk_lt HPB.out)).trans HPB.out) 4
      have kp5 : w6.cell? ⟨p, 5, none⟩ = some (.int .i64 rq) := blk_cell ((HU6.out.block p (blk_lt HPB.out)).trans HPB.out) 5
      have kp6 : w6.cell? ⟨p, 6, none⟩ = some (.slice A n c) := blk_cell ((HU6.out.block p (blk_lt HPB.out)).trans HPB.out) 6
      have kp7 : w6.cell? ⟨p, 7, none⟩ = some (.int .i64 vn) := blk_cell ((HU6.out.block p (blk_lt HPB.out)).trans HPB.out) 7
      have kp8 : w6.cell? ⟨p, 8, none⟩ = some (.int .i64 vp) := blk_cell ((HU6.out.block p (blk_lt HPB.out)).trans HPB.out) 8
      have kp9 : w6.cell? ⟨p, 9, none⟩ = some (.int .i64 vb) := blk_cell ((HU6.out.block p (blk_lt HPB.out)).trans HPB.out) 9
      have kp10 : w6.cell? ⟨p, 10, none⟩ = some (.int .i64 st) := blk_cell ((HU6.out.block p (blk_lt HPB.out)).trans HPB.out) 10
      have kp11 : w6.cell? ⟨p, 11, none⟩ = some (.int .i64 of) := blk_cell ((HU6.out.block p (blk_lt HPB.out)).trans HPB.out) 11
      have kp12 : w6.cell? ⟨p, 12, none⟩ = some (.string x) := blk_cell ((HU6.out.block p (blk_lt HPB.out)).trans HPB.out) 12
      obtain ⟨E6, hE6⟩ : ∃ E6, (textEnc x).2 = E6 := ⟨_, rfl⟩
      rw [hE6]
      clear hE6
      go_wp2_with (with_reducible refine stop_append rfl ?_)
      refine app8 (v := .slice B4 m4 d4) w6 w.heap.size rfl _ _ rfl rfl rfl HO6.out HT6.out (Below.refl w6.heap.size w6 |>.mono (Nat.le_trans HA.out.size HU6.out.size)) (Nat.le_trans HA.out.size HU6.out.size) (by have h1 := HLN4.out; have h2 := HL6.out; have h3 := textEnc_len (s := x); have h4 := numsEnc_len [vn, st, of]; simp only [List.length_cons, List.length_nil] at h4; omega) ?_
      intro v7 w7 ho hb hg hat
      have hpw6 := (HU6.out.block p (blk_lt HPB.out)).trans HPB.out
      have hp7 := (hg.block p (blk_lt hpw6) (fun e => absurd (typed_ne ⟨_, hpw6⟩ (own_type (R8_own HO6.out) p e.symm)) (by decide))).trans hpw6
      have HU7 := Aside0.mk (below_grown HU6.out HA.out hg HO6.out)
      have HO7 := Aside0.mk ho
      clear kp0 kp1 kp2 kp3 kp4 kp5 kp6 kp7 kp8 kp9 kp10 kp11 kp12 ho hb hg hat hpw6
      have kp10 : w7.cell? ⟨p, 10, none⟩ = some (.int .i64 st) := blk_cell hp7 10
      have kp11 : w7.cell? ⟨p, 11, none⟩ = some (.int .i64 of) := blk_cell hp7 11
      clear hp7
      obtain ⟨t2, ht2⟩ : ∃ t2, numOk st = t2 := ⟨_, rfl⟩
      have HT2 := Aside0.mk ht2
      obtain ⟨t3, ht3⟩ : ∃ t3, numOk of = t3 := ⟨_, rfl⟩
      have HT3 := Aside0.mk ht3
      clear ht2 ht3
      cases t1
      · go_wp2
        refine bodyPost_ret (results_tmp2 rfl _ _ _) rfl ?_
        exact ⟨_, by rw [HT1.out, HEB.out, HT2.out, HT3.out]; first | rfl | simp, HO7.out, HU7.out⟩
      · cases eb
        · go_wp2
          refine bodyPost_ret (results_tmp2 rfl _ _ _) rfl ?_
          exact ⟨_, by rw [HT1.out, HEB.out, HT2.out, HT3.out]; first | rfl | simp, HO7.out, HU7.out⟩
        · go_wp2_with fail
          refine (journal_number.calls st _ _ ((jnumber_eq st).trans (congrArg some HT2.out))).mono ?_
          rintro e8 w8 ⟨rfl, hd⟩
          have HU8 := Aside0.mk (HU7.out.trans (hd.below.mono (Nat.le_trans HU7.out.size (Nat.le_refl _))))
          have HO8 := Aside0.mk (R8_keep HO7.out (fun k_ hk_ => hd.below.block k_ (R8_lt HO7.out k_ hk_).2))
          replace kp11 := pw_cell_below hd.below kp11
          clear kp10 hd
          cases t2
          · go_wp2
            refine bodyPost_ret (results_tmp2 rfl _ _ _) rfl ?_
            exact ⟨_, by rw [HT1.out, HEB.out, HT2.out, HT3.out]; first | rfl | simp, HO8.out, HU8.out⟩
          · go_wp2_with fail
            refine (journal_number.calls of _ _ ((jnumber_eq of).trans (congrArg some HT3.out))).mono ?_
            rintro e9 w9 ⟨rfl, hd⟩
            have HU9 := Aside0.mk (HU8.out.trans (hd.below.mono (Nat.le_trans HU8.out.size (Nat.le_refl _))))
            have HO9 := Aside0.mk (R8_keep HO8.out (fun k_ hk_ => hd.below.block k_ (R8_lt HO8.out k_ hk_).2))
            clear kp11 hd
            go_wp2
            refine bodyPost_ret (results_tmp2 rfl _ _ _) rfl ?_
            exact ⟨_, by rw [HT1.out, HEB.out, HT2.out, HT3.out]; first | rfl | simp, HO9.out, HU9.out⟩
set_option maxHeartbeats 64000000 in
set_option maxRecDepth 100000 in
theorem body_C5 (kd s v k se rq : Int) (A : Option Addr) (c n : Nat) (l : List S40) (vn vp vb st of : Int) (x : ByteArray) (w : World) (hk : kd = 5) (hn : l.length = n) (hC : Kd.C k40 w A n l) (hc : n ≤ c) (r1 : List Int) (r2 : Bool) (hr : recBody kd s v k se rq l vn vp vb st of x = (r1, r2)) :
    Calls Try.prog 31 #[.agg #[.int .i64 kd, .int .i64 s, .int .i64 v, .int .i64 k, .int .i64 se, .int .i64 rq, .slice A n c, .int .i64 vn, .int .i64 vp, .int .i64 vb, .int .i64 st, .int .i64 of, .string x]] w fun e w' => ∃ V, e = .returned (.tuple #[V, .bool r2]) ∧ R8 w' w.heap.size V r1 ∧ Below w.heap.size w w' := by
  have hu24 := Try.underlying24
  have hu26 := Try.underlying26
  have hu28 := Try.underlying28
  have HKK := Aside0.mk hk
  clear hk
  have HN := Aside0.mk hn
  have HC := Aside0.mk hC
  have HCC := Aside0.mk hc
  have HR := Aside0.mk hr
  clear hn hC hc hr
  go_enter Try.func31, Try.ntmps31
  go_upto_region 2 with (fail)
  obtain ⟨p, hp⟩ : ∃ p, p = w.heap.size := ⟨_, rfl⟩
  obtain ⟨q, hq⟩ : ∃ q, q = w.heap.size + 1 := ⟨_, rfl⟩
  obtain ⟨w1, hw1⟩ : ∃ w1, w1 = w.alloc (.cells #[.int .i64 kd, .int .i64 s, .int .i64 v, .int .i64 k, .int .i64 se, .int .i64 rq, .slice A n c, .int .i64 vn, .int .i64 vp, .int .i64 vb, .int .i64 st, .int .i64 of, .string x] 28) := ⟨_, rfl⟩
  obtain ⟨w2, hw2⟩ : ∃ w2, w2 = w1.alloc (.cells #[.int .i64 s, .int .i64 v, .int .i64 k, .int .i64 se, .int .i64 rq, .slice A n c] 24) := ⟨_, rfl⟩
  try simp only [Act.put, sx1, sx2, sx3]
  rw [← hw1, ← hw2]
  try rw [← hq]
  rw [← hp]
  have hz1 : w1.heap.size = w.heap.size + 1 := by rw [hw1]; simp
  have HA1 := Aside0.mk (show Below w.heap.size w w1 by rw [hw1]; exact below_alloc (Below.refl _ _) _)
  have HA := Aside0.mk (show Below w.heap.size w w2 by rw [hw2]; exact below_alloc HA1.out _)
  have HPB := Aside0.mk (show w2.heap[p]? = some (.cells #[.int .i64 kd, .int .i64 s, .int .i64 v, .int .i64 k, .int .i64 se, .int .i64 rq, .slice A n c, .int .i64 vn, .int .i64 vp, .int .i64 vb, .int .i64 st, .int .i64 of, .string x] 28 (0, 0)) by
    rw [hw2]
    refine (Below.heap_alloc _ _ _ (by omega)).trans ?_
    rw [hw1, hp]; exact heap_alloc_new w _)
  have HQB := Aside0.mk (show w2.heap[q]? = some (.cells #[.int .i64 s, .int .i64 v, .int .i64 k, .int .i64 se, .int .i64 rq, .slice A n c] 24 (0, 0)) by rw [hw2, hq, ← hz1]; exact heap_alloc_new w1 _)
  clear hp hq hw1 hw2 hz1 HA1
  have kp0 : w2.cell? ⟨p, 0, none⟩ = some (.int .i64 kd) := blk_cell (HPB.out) 0
  have kp1 : w2.cell? ⟨p, 1, none⟩ = some (.int .i64 s) := blk_cell (HPB.out) 1
  have kp2 : w2.cell? ⟨p, 2, none⟩ = some (.int .i64 v) := blk_cell (HPB.out) 2
  have kp3 : w2.cell? ⟨p, 3, none⟩ = some (.int .i64 k) := blk_cell (HPB.out) 3
  have kp4 : w2.cell? ⟨p, 4, none⟩ = some (.int .i64 se) := blk_cell (HPB.out) 4
  have kp5 : w2.cell? ⟨p, 5, none⟩ = some (.int .i64 rq) := blk_cell (HPB.out) 5
  have kp6 : w2.cell? ⟨p, 6, none⟩ = some (.slice A n c) := blk_cell (HPB.out) 6
  have kp7 : w2.cell? ⟨p, 7, none⟩ = some (.int .i64 vn) := blk_cell (HPB.out) 7
  have kp8 : w2.cell? ⟨p, 8, none⟩ = some (.int .i64 vp) := blk_cell (HPB.out) 8
  have kp9 : w2.cell? ⟨p, 9, none⟩ = some (.int .i64 vb) := blk_cell (HPB.out) 9
  have kp10 : w2.cell? ⟨p, 10, none⟩ = some (.int .i64 st) := blk_cell (HPB.out) 10
  have kp11 : w2.cell? ⟨p, 11, none⟩ = some (.int .i64 of) := blk_cell (HPB.out) 11
  have kp12 : w2.cell? ⟨p, 12, none⟩ = some (.string x) := blk_cell (HPB.out) 12
  have kq0 : w2.cell? ⟨q, 0, none⟩ = some (.int .i64 s) := blk_cell (HQB.out) 0
  have kq1 : w2.cell? ⟨q, 1, none⟩ = some (.int .i64 v) := blk_cell (HQB.out) 1
  have kq2 : w2.cell? ⟨q, 2, none⟩ = some (.int .i64 k) := blk_cell (HQB.out) 2
  have kq3 : w2.cell? ⟨q, 3, none⟩ = some (.int .i64 se) := blk_cell (HQB.out) 3
  have kq4 : w2.cell? ⟨q, 4, none⟩ = some (.int .i64 rq) := blk_cell (HQB.out) 4
  have kq5 : w2.cell? ⟨q, 5, none⟩ = some (.slice A n c) := blk_cell (HQB.out) 5
  go_cut [5] (fun v5 wc => v5 = .bool (blankE s v k se rq l) ∧ w2 = wc)
  case first =>
    by_cases h0 : s = 0
    · have c0 : (s == 0) = true := beq_iff_eq.mpr h0
      have d0 := Aside0.mk h0
      clear h0
      by_cases h1 : v = 0
      · have c1 : (v == 0) = true := beq_iff_eq.mpr h1
        have d1 := Aside0.mk h1
        clear h1
        by_cases h2 : k = 0
        · have c2 : (k == 0) = true := beq_iff_eq.mpr h2
          have d2 := Aside0.mk h2
          clear h2
          by_cases h3 : se = 0
          · have c3 : (se == 0) = true := beq_iff_eq.mpr h3
            have d3 := Aside0.mk h3
            clear h3
            by_cases h4 : rq = 0
            · have c4 : (rq == 0) = true := beq_iff_eq.mpr h4
              have d4 := Aside0.mk h4
              clear h4
              have HF := Aside0.mk (show blankE s v k se rq l = ((n : Int) == 0) by
                unfold blankE
                rw [HN.out, d0.out, d1.out, d2.out, d3.out, d4.out]
                by_cases h : n = 0
                · rw [h]; rfl
                · rw [decide_eq_false h, show ((n : Int) == 0) = false from beq_eq_false_iff_ne.mpr (by omega)]; rfl)
              go_wp2; go_meet
              case rel => exact ⟨by rw [HF.out], rfl⟩
            · have c4 : (rq == 0) = false := beq_eq_false_iff_ne.mpr h4
              have d4 := Aside0.mk h4
              clear h4
              have HF := Aside0.mk (show blankE s v k se rq l = false by unfold blankE; rw [beq_eq_false_iff_ne.mpr d4.out]; simp)
              go_wp2; go_meet
              case rel => exact ⟨by rw [HF.out], rfl⟩
          · have c3 : (se == 0) = false := beq_eq_false_iff_ne.mpr h3
            have d3 := Aside0.mk h3
            clear h3
            have HF := Aside0.mk (show blankE s v k se rq l = false by unfold blankE; rw [beq_eq_false_iff_ne.mpr d3.out]; simp)
            go_wp2; go_meet
            case rel => exact ⟨by rw [HF.out], rfl⟩
        · have c2 : (k == 0) = false := beq_eq_false_iff_ne.mpr h2
          have d2 := Aside0.mk h2
          clear h2
          have HF := Aside0.mk (show blankE s v k se rq l = false by unfold blankE; rw [beq_eq_false_iff_ne.mpr d2.out]; simp)
          go_wp2; go_meet
          case rel => exact ⟨by rw [HF.out], rfl⟩
      · have c1 : (v == 0) = false := beq_eq_false_iff_ne.mpr h1
        have d1 := Aside0.mk h1
        clear h1
        have HF := Aside0.mk (show blankE s v k se rq l = false by unfold blankE; rw [beq_eq_false_iff_ne.mpr d1.out]; simp)
        go_wp2; go_meet
        case rel => exact ⟨by rw [HF.out], rfl⟩
    · have c0 : (s == 0) = false := beq_eq_false_iff_ne.mpr h0
      have d0 := Aside0.mk h0
      clear h0
      have HF := Aside0.mk (show blankE s v k se rq l = false by unfold blankE; rw [beq_eq_false_iff_ne.mpr d0.out]; simp)
      go_wp2; go_meet
      case rel => exact ⟨by rw [HF.out], rfl⟩
  case rest =>
    obtain ⟨rfl, rfl⟩ := hcut
    obtain ⟨eb, heb⟩ : ∃ eb, blankE s v k se rq l = eb := ⟨_, rfl⟩
    rw [heb]
    have HEB := Aside0.mk heb
    clear heb
    go_upto_region 3 with (fail)
    go_cut [6] (fun v6 wc => v6 = .bool (noState of x) ∧ w2 = wc)
    case first =>
      by_cases h0 : x.toList = []
      · have c0 : (x.toList == ([] : List UInt8)) = true := beq_iff_eq.mpr h0
        have c1 : decide (x.toList = []) = true := decide_eq_true h0
        have d0 := Aside0.mk h0
        have HF := Aside0.mk (show noState of x = (of == 0) by unfold noState; rw [decide_eq_true d0.out]; simp)
        clear h0
        go_wp2; go_meet
        case rel => exact ⟨by rw [HF.out], rfl⟩
      · have c0 : (x.toList == ([] : List UInt8)) = false := beq_eq_false_iff_ne.mpr h0
        have c1 : decide (x.toList = []) = false := decide_eq_false h0
        have d0 := Aside0.mk h0
        clear h0
        have HF := Aside0.mk (show noState of x = false by unfold noState; rw [decide_eq_false d0.out]; simp)
        go_wp2; go_meet
        case rel => exact ⟨by rw [HF.out], rfl⟩
    case rest =>
      obtain ⟨rfl, rfl⟩ := hcut
      obtain ⟨sb, hsb⟩ : ∃ sb, noState of x = sb := ⟨_, rfl⟩
      rw [hsb]
      have HSB := Aside0.mk hsb
      clear hsb
      have hk := HKK.out
      have k1 := Aside0.mk (show ¬ kd = 1 by omega)
      have e1 : (kd == 1) = false := beq_eq_false_iff_ne.mpr (by omega)
      have k2 := Aside0.mk (show ¬ kd = 2 by omega)
      have e2 : (kd == 2) = false := beq_eq_false_iff_ne.mpr (by omega)
      have k3 := Aside0.mk (show ¬ kd = 3 by omega)
      have e3 : (kd == 3) = false := beq_eq_false_iff_ne.mpr (by omega)
      have k4 := Aside0.mk (show ¬ kd = 4 by omega)
      have e4 : (kd == 4) = false := beq_eq_false_iff_ne.mpr (by omega)
      have k5 := Aside0.mk (show kd = 5 from hk)
      have e5 : (kd == 5) = true := beq_iff_eq.mpr hk
      clear hk
      have hr := HR.out
      unfold recBody at hr
      rw [if_neg k1.out, if_neg k2.out, if_neg k3.out, if_neg k4.out, if_pos k5.out] at hr
      simp only [Prod.mk.injEq] at hr
      obtain ⟨rfl, rfl⟩ := hr
      clear HR
      go_wp2_with fail
      clear kq0 kq1 kq2 kq3 kq4 kq5
      refine (numbers_N (some ⟨w2.heap.size, 0, none⟩) 2 2 [st, of] _ rfl (C_lit64 w2 [st, of] (by simp)) (by decide) (by simp)).mono ?_
      rintro e3 w3 ⟨B3, m3, d3, rfl, hl1, hl2, ho, hb⟩
      have HU3 := Aside0.mk (below_step (below_alloc (Below.refl w2.heap.size w2) _) hb)
      have HO3 := Aside0.mk (show R8 w3 w.heap.size (.slice B3 m3 d3) (numsEnc [st, of]) from Kd.R_lower ho (Nat.le_trans HA.out.size (below_alloc (Below.refl w2.heap.size w2) (.cells (nums .i64 [st, of]).toArray 3)).size))
      have HLN3 := Aside0.mk hl1
      clear hl1 hl2 ho hb
      clear kp0 kp1 kp2 kp3 kp4 kp5 kp6 kp7 kp8 kp9 kp10 kp11 kp12
      have kp0 : w3.cell? ⟨p, 0, none⟩ = some (.int .i64 kd) := blk_cell ((HU3.out.block p (blk_lt HPB.out)).trans HPB.out) 0
      have kp1 : w3.cell? ⟨p, 1, none⟩ = some (.int .i64 s) := blk_cell ((HU3.out.block p (blk_lt HPB.out)).trans HPB.out) 1
      have kp2 : w3.cell? ⟨p, 2, none⟩ = some (.int .i64 v) := blk_cell ((HU3.out.block p (blk_lt HPB.out)).trans HPB.out) 2
      have kp3 : w3.cell? ⟨p, 3, none⟩ = some (.int .i64 k) := blk_cell ((HU3.out.block p (blk_lt HPB.out)).trans HPB.out) 3
      have kp4 : w3.cell? ⟨p, 4, none⟩ = some (.int .i64 se) := blk_cell ((HU3.out.block p (blk_lt HPB.out)).trans HPB.out) 4
      have kp5 : w3.cell? ⟨p, 5, none⟩ = some (.int .i64 rq) := blk_cell ((HU3.out.block p (blk_lt HPB.out)).trans HPB.out) 5
      have kp6 : w3.cell? ⟨p, 6, none⟩ = some (.slice A n c) := blk_cell ((HU3.out.block p (blk_lt HPB.out)).trans HPB.out) 6
      have kp7 : w3.cell? ⟨p, 7, none⟩ = some (.int .i64 vn) := blk_cell ((HU3.out.block p (blk_lt HPB.out)).trans HPB.out) 7
      have kp8 : w3.cell? ⟨p, 8, none⟩ = some (.int .i64 vp) := blk_cell ((HU3.out.block p (blk_lt HPB.out)).trans HPB.out) 8
      have kp9 : w3.cell? ⟨p, 9, none⟩ = some (.int .i64 vb) := blk_cell ((HU3.out.block p (blk_lt HPB.out)).trans HPB.out) 9
      have kp10 : w3.cell? ⟨p, 10, none⟩ = some (.int .i64 st) := blk_cell ((HU3.out.block p (blk_lt HPB.out)).trans HPB.out) 10
      have kp11 : w3.cell? ⟨p, 11, none⟩ = some (.int .i64 of) := blk_cell ((HU3.out.block p (blk_lt HPB.out)).trans HPB.out) 11
      have kp12 : w3.cell? ⟨p, 12, none⟩ = some (.string x) := blk_cell ((HU3.out.block p (blk_lt HPB.out)).trans HPB.out) 12
      go_upto_region 15 with (fail)
      go_cut [10] (fun v10 wc => v10 = .bool (noView vn vp vb) ∧ w3 = wc)
      case first =>
        by_cases h0 : vn = 0
        · have c0 : (vn == 0) = true := beq_iff_eq.mpr h0
          have d0 := Aside0.mk h0
          clear h0
          by_cases h1 : vp = 0
          · have c1 : (vp == 0) = true := beq_iff_eq.mpr h1
            have d1 := Aside0.mk h1
            clear h1
            by_cases h2 : vb = 0
            · have c2 : (vb == 0) = true := beq_iff_eq.mpr h2
              have d2 := Aside0.mk h2
              clear h2
              have HF := Aside0.mk (show noView vn vp vb = true by unfold noView; rw [beq_iff_eq.mpr d0.out, beq_iff_eq.mpr d1.out, beq_iff_eq.mpr d2.out]; simp)
              go_wp2; go_meet
              case rel => exact ⟨by rw [HF.out], rfl⟩
            · have c2 : (vb == 0) = false := beq_eq_false_iff_ne.mpr h2
              have d2 := Aside0.mk h2
              clear h2
              have HF := Aside0.mk (show noView vn vp vb = false by unfold noView; rw [beq_eq_false_iff_ne.mpr d2.out]; simp)
              go_wp2; go_meet
              case rel => exact ⟨by rw [HF.out], rfl⟩
          · have c1 : (vp == 0) = false := beq_eq_false_iff_ne.mpr h1
            have d1 := Aside0.mk h1
            clear h1
            have HF := Aside0.mk (show noView vn vp vb = false by unfold noView; rw [beq_eq_false_iff_ne.mpr d1.out]; simp)
            go_wp2; go_meet
            case rel => exact ⟨by rw [HF.out], rfl⟩
        · have c0 : (vn == 0) = false := beq_eq_false_iff_ne.mpr h0
          have d0 := Aside0.mk h0
          clear h0
          have HF := Aside0.mk (show noView vn vp vb = false by unfold noView; rw [beq_eq_false_iff_ne.mpr d0.out]; simp)
          go_wp2; go_meet
          case rel => exact ⟨by rw [HF.out], rfl⟩
      case' rest =>
        obtain ⟨rfl, rfl⟩ := hcut
      obtain ⟨t1, ht1⟩ : ∃ t1, noView vn vp vb = t1 := ⟨_, rfl⟩
      rw [ht1]
      have HT1 := Aside0.mk ht1
      have HO5 := HO3
      clear ht1
      go_wp2_with fail
      refine (jtext_N x w3).mono ?_
      rintro e6 w6 ⟨B6, m6, d6, rfl, hl1, ho, hb⟩
      have HU6 := Aside0.mk (below_step HU3.out hb)
      have HT6 := Aside0.mk (R8_C ho)
      have HO6 := Aside0.mk (R8_keep HO5.out (fun k_ hk_ => hb.block k_ (R8_lt HO5.out k_ hk_).2))
      have HL6 := Aside0.mk hl1
      clear hl1 ho hb
      clear kp0 kp1 kp2 kp3 kp4 kp5 kp6 kp7 kp8 kp9 kp10 kp11 kp12
      have kp0 : w6.cell? ⟨p, 0, none⟩ = some (.int .i64 kd) := blk_cell ((HU6.out.block p (blk_lt HPB.out)).trans HPB.out) 0
      have kp1 : w6.cell? ⟨p, 1, none⟩ = some (.int .i64 s) := blk_cell ((HU6.out.block p (blk_lt HPB.out)).trans HPB.out) 1
      have kp2 : w6.cell? ⟨p, 2, none⟩ = some (.int .i64 v) := blk_cell ((HU6.out.block p (blk_lt HPB.out)).trans HPB.out) 2
      have kp3 : w6.cell? ⟨p, 3, none⟩ = some (.int .i64 k) := blk_cell ((HU6.out.block p (blk_lt HPB.out)).trans HPB.out) 3
      have kp4 : w6.cell? ⟨p, 4, none⟩ = some (.int .i64 se) := blk_cell ((HU6.out.block p (blk_lt HPB.out)).trans HPB.out) 4
      have kp5 : w6.cell? ⟨p, 5, none⟩ = some (.int .i64 rq) := blk_cell ((HU6.out.block p (blk_lt HPB.out)).trans HPB.out) 5
      have kp6 : w6.cell? ⟨p, 6, none⟩ = some (.slice A n c) := blk_cell ((HU6.out.block p (blk_lt HPB.out)).trans HPB.out) 6
      have kp7 : w6.cell? ⟨p, 7, none⟩ = some (.int .i64 vn) := blk_cell ((HU6.out.block p (blk_lt HPB.out)).trans HPB.out) 7
      have kp8 : w6.cell? ⟨p, 8, none⟩ = some (.int .i64 vp) := blk_cell ((HU6.out.block p (blk_lt HPB.out)).trans HPB.out) 8
      have kp9 : w6.cell? ⟨p, 9, none⟩ = some (.int .i64 vb) := blk_cell ((HU6.out.block p (blk_lt HPB.out)).trans HPB.out) 9
      have kp10 : w6.cell? ⟨p, 10, none⟩ = some (.int .i64 st) := blk_cell ((HU6.out.block p (blk_lt HPB.out)).trans HPB.out) 10
      have kp11 : w6.cell? ⟨p, 11, none⟩ = some (.int .i64 of) := blk_cell ((HU6.out.block p (blk_lt HPB.out)).trans HPB.out) 11
      have kp12 : w6.cell? ⟨p, 12, none⟩ = some (.string x) := blk_cell ((HU6.out.block p (blk_lt HPB.out)).trans HPB.out) 12
      obtain ⟨E6, hE6⟩ : ∃ E6, (textEnc x).2 = E6 := ⟨_, rfl⟩
      rw [hE6]
      clear hE6
      go_wp2_with (with_reducible refine stop_append rfl ?_)
      refine app8 (v := .slice B3 m3 d3) w6 w.heap.size rfl _ _ rfl rfl rfl HO6.out HT6.out (Below.refl w6.heap.size w6 |>.mono (Nat.le_trans HA.out.size HU6.out.size)) (Nat.le_trans HA.out.size HU6.out.size) (by have h1 := HLN3.out; have h2 := HL6.out; have h3 := textEnc_len (s := x); have h4 := numsEnc_len [st, of]; simp only [List.length_cons, List.length_nil] at h4; omega) ?_
      intro v7 w7 ho hb hg hat
      have hpw6 := (HU6.out.block p (blk_lt HPB.out)).trans HPB.out
      have hp7 := (hg.block p (blk_lt hpw6) (fun e => absurd (typed_ne ⟨_, hpw6⟩ (own_type (R8_own HO6.out) p e.symm)) (by decide))).trans hpw6
      have HU7 := Aside0.mk (below_grown HU6.out HA.out hg HO6.out)
      have HO7 := Aside0.mk ho
      clear kp0 kp1 kp2 kp3 kp4 kp5 kp6 kp7 kp8 kp9 kp10 kp11 kp12 ho hb hg hat hpw6
      have kp10 : w7.cell? ⟨p, 10, none⟩ = some (.int .i64 st) := blk_cell hp7 10
      have kp11 : w7.cell? ⟨p, 11, none⟩ = some (.int .i64 of) := blk_cell hp7 11
      clear hp7
      obtain ⟨t2, ht2⟩ : ∃ t2, numOk st = t2 := ⟨_, rfl⟩
      have HT2 := Aside0.mk ht2
      obtain ⟨t3, ht3⟩ : ∃ t3, numOk of = t3 := ⟨_, rfl⟩
      have HT3 := Aside0.mk ht3
      clear ht2 ht3
      cases t1
      · go_wp2
        refine bodyPost_ret (results_tmp2 rfl _ _ _) rfl ?_
        exact ⟨_, by rw [HT1.out, HEB.out, HT2.out, HT3.out]; first | rfl | simp, HO7.out, HU7.out⟩
      · cases eb
        · go_wp2
          refine bodyPost_ret (results_tmp2 rfl _ _ _) rfl ?_
          exact ⟨_, by rw [HT1.out, HEB.out, HT2.out, HT3.out]; first | rfl | simp, HO7.out, HU7.out⟩
        · go_wp2_with fail
          refine (journal_number.calls st _ _ ((jnumber_eq st).trans (congrArg some HT2.out))).mono ?_
          rintro e8 w8 ⟨rfl, hd⟩
          have HU8 := Aside0.mk (HU7.out.trans (hd.below.mono (Nat.le_trans HU7.out.size (Nat.le_refl _))))
          have HO8 := Aside0.mk (R8_keep HO7.out (fun k_ hk_ => hd.below.block k_ (R8_lt HO7.out k_ hk_).2))
          replace kp11 := pw_cell_below hd.below kp11
          clear kp10 hd
          cases t2
          · go_wp2
            refine bodyPost_ret (results_tmp2 rfl _ _ _) rfl ?_
            exact ⟨_, by rw [HT1.out, HEB.out, HT2.out, HT3.out]; first | rfl | simp, HO8.out, HU8.out⟩
          · go_wp2_with fail
            refine (journal_number.calls of _ _ ((jnumber_eq of).trans (congrArg some HT3.out))).mono ?_
            rintro e9 w9 ⟨rfl, hd⟩
            have HU9 := Aside0.mk (HU8.out.trans (hd.below.mono (Nat.le_trans HU8.out.size (Nat.le_refl _))))
            have HO9 := Aside0.mk (R8_keep HO8.out (fun k_ hk_ => hd.below.block k_ (R8_lt HO8.out k_ hk_).2))
            clear kp11 hd
            go_wp2
            refine bodyPost_ret (results_tmp2 rfl _ _ _) rfl ?_
            exact ⟨_, by rw [HT1.out, HEB.out, HT2.out, HT3.out]; first | rfl | simp, HO9.out, HU9.out⟩
def rg31.T22 : Bool × List (List Nat × List Nat) := (true, [([], []), ([0], [0]), ([1], [1]), ([2], [2]), ([], []), ([4], [4]), ([5, 3], [5]), ([6, 6], [6]), ([7], [7]), ([7, 8], [7, 8]), ([9, 7], [9]), ([10], [10]), ([10, 11], [10, 11]), ([12, 10], [12]), ([13], [13]), ([14, 13], [13, 14]), ([13], [13]), ([15, 16, 13], [13, 15, 16]), ([13, 17], [13, 17]), ([3, 13, 0, 1, 2, 3], [3]), ([18, 19, 0, 1, 2, 3, 4, 5, 6, 7, 8, 9, 10, 11, 12, 13, 14, 15, 16, 17, 18, 19], [18])])
def rg31.B22 : List Nat := [0, 1, 3, 7, 0, 16, 63, 127, 255, 511, 1023, 2047, 4095, 8191, 16383, 32767, 16383, 131071, 262143, 16383, 1048575]
theorem rg31.tab22 : rtab .any (opsOf Try.f31 22) = rg31.T22 := by kernel_rfl
theorem rg31.bits22 : waitsOk rg31.T22.2 rg31.B22 = true := by kernel_rfl
set_option maxHeartbeats 64000000 in
set_option maxRecDepth 100000 in
theorem body_C6 (kd s v k se rq : Int) (A : Option Addr) (c n : Nat) (l : List S40) (vn vp vb st of : Int) (x : ByteArray) (w : World) (hk : kd = 6) (hn : l.length = n) (hC : Kd.C k40 w A n l) (hc : n ≤ c) (r1 : List Int) (r2 : Bool) (hr : recBody kd s v k se rq l vn vp vb st of x = (r1, r2)) :
    Calls Try.prog 31 #[.agg #[.int .i64 kd, .int .i64 s, .int .i64 v, .int .i64 k, .int .i64 se, .int .i64 rq, .slice A n c, .int .i64 vn, .int .i64 vp, .int .i64 vb, .int .i64 st, .int .i64 of, .string x]] w fun e w' => ∃ V, e = .returned (.tuple #[V, .bool r2]) ∧ R8 w' w.heap.size V r1 ∧ Below w.heap.size w w' := by
  have hu24 := Try.underlying24
  have hu26 := Try.underlying26
  have hu28 := Try.underlying28
  have HKK := Aside0.mk hk
  clear hk
  have HN := Aside0.mk hn
  have HC := Aside0.mk hC
  have HCC := Aside0.mk hc
  have HR := Aside0.mk hr
  clear hn hC hc hr
  go_enter Try.func31, Try.ntmps31
  go_upto_region 2 with (fail)
  obtain ⟨p, hp⟩ : ∃ p, p = w.heap.size := ⟨_, rfl⟩
  obtain ⟨q, hq⟩ : ∃ q, q = w.heap.size + 1 := ⟨_, rfl⟩
  obtain ⟨w1, hw1⟩ : ∃ w1, w1 = w.alloc (.cells #[.int .i64 kd, .int .i64 s, .int .i64 v, .int .i64 k, .int .i64 se, .int .i64 rq, .slice A n c, .int .i64 vn, .int .i64 vp, .int .i64 vb, .int .i64 st, .int .i64 of, .string x] 28) := ⟨_, rfl⟩
  obtain ⟨w2, hw2⟩ : ∃ w2, w2 = w1.alloc (.cells #[.int .i64 s, .int .i64 v, .int .i64 k, .int .i64 se, .int .i64 rq, .slice A n c] 24) := ⟨_, rfl⟩
  try simp only [Act.put, sx1, sx2, sx3]
  rw [← hw1, ← hw2]
  try rw [← hq]
  rw [← hp]
  have hz1 : w1.heap.size = w.heap.size + 1 := by rw [hw1]; simp
  have HA1 := Aside0.mk (show Below w.heap.size w w1 by rw [hw1]; exact below_alloc (Below.refl _ _) _)
  have HA := Aside0.mk (show Below w.heap.size w w2 by rw [hw2]; exact below_alloc HA1.out _)
  have HPB := Aside0.mk (show w2.heap[p]? = some (.cells #[.int .i64 kd, .int .i64 s, .int .i64 v, .int .i64 k, .int .i64 se, .int .i64 rq, .slice A n c, .int .i64 vn, .int .i64 vp, .int .i64 vb, .int .i64 st, .int .i64 of, .string x] 28 (0, 0)) by
    rw [hw2]
    refine (Below.heap_alloc _ _ _ (by omega)).trans ?_
    rw [hw1, hp]; exact heap_alloc_new w _)
  have HQB := Aside0.mk (show w2.heap[q]? = some (.cells #[.int .i64 s, .int .i64 v, .int .i64 k, .int .i64 se, .int .i64 rq, .slice A n c] 24 (0, 0)) by rw [hw2, hq, ← hz1]; exact heap_alloc_new w1 _)
  clear hp hq hw1 hw2 hz1 HA1
  have kp0 : w2.cell? ⟨p, 0, none⟩ = some (.int .i64 kd) := blk_cell (HPB.out) 0
  have kp1 : w2.cell? ⟨p, 1, none⟩ = some (.int .i64 s) := blk_cell (HPB.out) 1
  have kp2 : w2.cell? ⟨p, 2, none⟩ = some (.int .i64 v) := blk_cell (HPB.out) 2
  have kp3 : w2.cell? ⟨p, 3, none⟩ = some (.int .i64 k) := blk_cell (HPB.out) 3
  have kp4 : w2.cell? ⟨p, 4, none⟩ = some (.int .i64 se) := blk_cell (HPB.out) 4
  have kp5 : w2.cell? ⟨p, 5, none⟩ = some (.int .i64 rq) := blk_cell (HPB.out) 5
  have kp6 : w2.cell? ⟨p, 6, none⟩ = some (.slice A n c) := blk_cell (HPB.out) 6
  have kp7 : w2.cell? ⟨p, 7, none⟩ = some (.int .i64 vn) := blk_cell (HPB.out) 7
  have kp8 : w2.cell? ⟨p, 8, none⟩ = some (.int .i64 vp) := blk_cell (HPB.out) 8
  have kp9 : w2.cell? ⟨p, 9, none⟩ = some (.int .i64 vb) := blk_cell (HPB.out) 9
  have kp10 : w2.cell? ⟨p, 10, none⟩ = some (.int .i64 st) := blk_cell (HPB.out) 10
  have kp11 : w2.cell? ⟨p, 11, none⟩ = some (.int .i64 of) := blk_cell (HPB.out) 11
  have kp12 : w2.cell? ⟨p, 12, none⟩ = some (.string x) := blk_cell (HPB.out) 12
  have kq0 : w2.cell? ⟨q, 0, none⟩ = some (.int .i64 s) := blk_cell (HQB.out) 0
  have kq1 : w2.cell? ⟨q, 1, none⟩ = some (.int .i64 v) := blk_cell (HQB.out) 1
  have kq2 : w2.cell? ⟨q, 2, none⟩ = some (.int .i64 k) := blk_cell (HQB.out) 2
  have kq3 : w2.cell? ⟨q, 3, none⟩ = some (.int .i64 se) := blk_cell (HQB.out) 3
  have kq4 : w2.cell? ⟨q, 4, none⟩ = some (.int .i64 rq) := blk_cell (HQB.out) 4
  have kq5 : w2.cell? ⟨q, 5, none⟩ = some (.slice A n c) := blk_cell (HQB.out) 5
  go_cut [5] (fun v5 wc => v5 = .bool (blankE s v k se rq l) ∧ w2 = wc)
  case first =>
    by_cases h0 : s = 0
    · have c0 : (s == 0) = true := beq_iff_eq.mpr h0
      have d0 := Aside0.mk h0
      clear h0
      by_cases h1 : v = 0
      · have c1 : (v == 0) = true := beq_iff_eq.mpr h1
        have d1 := Aside0.mk h1
        clear h1
        by_cases h2 : k = 0
        · have c2 : (k == 0) = true := beq_iff_eq.mpr h2
          have d2 := Aside0.mk h2
          clear h2
          by_cases h3 : se = 0
          · have c3 : (se == 0) = true := beq_iff_eq.mpr h3
            have d3 := Aside0.mk h3
            clear h3
            by_cases h4 : rq = 0
            · have c4 : (rq == 0) = true := beq_iff_eq.mpr h4
              have d4 := Aside0.mk h4
              clear h4
              have HF := Aside0.mk (show blankE s v k se rq l = ((n : Int) == 0) by
                unfold blankE
                rw [HN.out, d0.out, d1.out, d2.out, d3.out, d4.out]
                by_cases h : n = 0
                · rw [h]; rfl
                · rw [decide_eq_false h, show ((n : Int) == 0) = false from beq_eq_false_iff_ne.mpr (by omega)]; rfl)
              go_wp2; go_meet
              case rel => exact ⟨by rw [HF.out], rfl⟩
            · have c4 : (rq == 0) = false := beq_eq_false_iff_ne.mpr h4
              have d4 := Aside0.mk h4
              clear h4
              have HF := Aside0.mk (show blankE s v k se rq l = false by unfold blankE; rw [beq_eq_false_iff_ne.mpr d4.out]; simp)
              go_wp2; go_meet
              case rel => exact ⟨by rw [HF.out], rfl⟩
          · have c3 : (se == 0) = false := beq_eq_false_iff_ne.mpr h3
            have d3 := Aside0.mk h3
            clear h3
            have HF := Aside0.mk (show blankE s v k se rq l = false by unfold blankE; rw [beq_eq_false_iff_ne.mpr d3.out]; simp)
            go_wp2; go_meet
            case rel => exact ⟨by rw [HF.out], rfl⟩
        · have c2 : (k == 0) = false := beq_eq_false_iff_ne.mpr h2
          have d2 := Aside0.mk h2
          clear h2
          have HF := Aside0.mk (show blankE s v k se rq l = false by unfold blankE; rw [beq_eq_false_iff_ne.mpr d2.out]; simp)
          go_wp2; go_meet
          case rel => exact ⟨by rw [HF.out], rfl⟩
      · have c1 : (v == 0) = false := beq_eq_false_iff_ne.mpr h1
        have d1 := Aside0.mk h1
        clear h1
        have HF := Aside0.mk (show blankE s v k se rq l = false by unfold blankE; rw [beq_eq_false_iff_ne.mpr d1.out]; simp)
        go_wp2; go_meet
        case rel => exact ⟨by rw [HF.out], rfl⟩
    · have c0 : (s == 0) = false := beq_eq_false_iff_ne.mpr h0
      have d0 := Aside0.mk h0
      clear h0
      have HF := Aside0.mk (show blankE s v k se rq l = false by unfold blankE; rw [beq_eq_false_iff_ne.mpr d0.out]; simp)
      go_wp2; go_meet
      case rel => exact ⟨by rw [HF.out], rfl⟩
  case rest =>
    obtain ⟨rfl, rfl⟩ := hcut
    obtain ⟨eb, heb⟩ : ∃ eb, blankE s v k se rq l = eb := ⟨_, rfl⟩
    rw [heb]
    have HEB := Aside0.mk heb
    clear heb
    go_upto_region 3 with (fail)
    go_cut [6] (fun v6 wc => v6 = .bool (noState of x) ∧ w2 = wc)
    case first =>
      by_cases h0 : x.toList = []
      · have c0 : (x.toList == ([] : List UInt8)) = true := beq_iff_eq.mpr h0
        have c1 : decide (x.toList = []) = true := decide_eq_true h0
        have d0 := Aside0.mk h0
        have HF := Aside0.mk (show noState of x = (of == 0) by unfold noState; rw [decide_eq_true d0.out]; simp)
        clear h0
        go_wp2; go_meet
        case rel => exact ⟨by rw [HF.out], rfl⟩
      · have c0 : (x.toList == ([] : List UInt8)) = false := beq_eq_false_iff_ne.mpr h0
        have c1 : decide (x.toList = []) = false := decide_eq_false h0
        have d0 := Aside0.mk h0
        clear h0
        have HF := Aside0.mk (show noState of x = false by unfold noState; rw [decide_eq_false d0.out]; simp)
        go_wp2; go_meet
        case rel => exact ⟨by rw [HF.out], rfl⟩
    case rest =>
      obtain ⟨rfl, rfl⟩ := hcut
      obtain ⟨sb, hsb⟩ : ∃ sb, noState of x = sb := ⟨_, rfl⟩
      rw [hsb]
      have HSB := Aside0.mk hsb
      clear hsb
      have hk := HKK.out
      have k1 := Aside0.mk (show ¬ kd = 1 by omega)
      have e1 : (kd == 1) = false := beq_eq_false_iff_ne.mpr (by omega)
      have k2 := Aside0.mk (show ¬ kd = 2 by omega)
      have e2 : (kd == 2) = false := beq_eq_false_iff_ne.mpr (by omega)
      have k3 := Aside0.mk (show ¬ kd = 3 by omega)
      have e3 : (kd == 3) = false := beq_eq_false_iff_ne.mpr (by omega)
      have k4 := Aside0.mk (show ¬ kd = 4 by omega)
      have e4 : (kd == 4) = false := beq_eq_false_iff_ne.mpr (by omega)
      have k5 := Aside0.mk (show ¬ kd = 5 by omega)
      have e5 : (kd == 5) = false := beq_eq_false_iff_ne.mpr (by omega)
      have k6 := Aside0.mk (show kd = 6 from hk)
      have e6 : (kd == 6) = true := beq_iff_eq.mpr hk
      clear hk
      have hr := HR.out
      unfold recBody at hr
      rw [if_neg k1.out, if_neg k2.out, if_neg k3.out, if_neg k4.out, if_neg k5.out, if_pos k6.out] at hr
      simp only [Prod.mk.injEq] at hr
      obtain ⟨rfl, rfl⟩ := hr
      clear HR
      obtain ⟨b1, hb1⟩ : ∃ b1, numOk st = b1 := ⟨_, rfl⟩
      have HB1 := Aside0.mk hb1
      clear hb1
      go_wp2
      clear kp0 kp1 kp2 kp3 kp4 kp5 kp6 kp11 kp12 kq0 kq1 kq2 kq3 kq4 kq5
      have K7 := Aside0.mk (show w2.cell? ⟨p, 7, none⟩ = some (.int .i64 vn) from kp7)
      have K8 := Aside0.mk (show w2.cell? ⟨p, 8, none⟩ = some (.int .i64 vp) from kp8)
      have K9 := Aside0.mk (show w2.cell? ⟨p, 9, none⟩ = some (.int .i64 vb) from kp9)
      have K10 := Aside0.mk (show w2.cell? ⟨p, 10, none⟩ = some (.int .i64 st) from kp10)
      replace kp7 : w2.drew.cell? ⟨p, 7, none⟩ = some (.int .i64 vn) := pw_cell_below (below_drew1 (Below.refl w2.heap.size w2)) K7.out
      replace kp8 : w2.drew.cell? ⟨p, 8, none⟩ = some (.int .i64 vp) := pw_cell_below (below_drew1 (Below.refl w2.heap.size w2)) K8.out
      replace kp9 : w2.drew.cell? ⟨p, 9, none⟩ = some (.int .i64 vb) := pw_cell_below (below_drew1 (Below.refl w2.heap.size w2)) K9.out
      replace kp10 : w2.drew.cell? ⟨p, 10, none⟩ = some (.int .i64 st) := pw_cell_below (below_drew1 (Below.refl w2.heap.size w2)) K10.out
      cases b1
      · skip
        refine start_ (n := 21) (S := fun w' => w'.cell? ⟨p, 7, none⟩ = some (.int .i64 vn) ∧ w'.cell? ⟨p, 8, none⟩ = some (.int .i64 vp) ∧ w'.cell? ⟨p, 9, none⟩ = some (.int .i64 vb) ∧ w'.cell? ⟨p, 10, none⟩ = some (.int .i64 st)) (ds := []) bq39 (by kernel_rfl) rfl rfl ⟨kp7, kp8, kp9, kp10⟩ (fun hHeld => ?_)
        refine with_tabW rg31.tab22 rg31.bits22 (fun HT_ HW_ => ?_)
        refine pure_ (i := 0) (N := some 179) (v := ?_) (a' := ?_) bq40 rfl rfl (any_of HT_.out (by kernel_rfl)) (fun _ _ _ h => h) (Or.inl ⟨by rfl, ?_⟩) ?_ ?_
        rotate_left
        · intro w'; go_simp; with_reducible rfl
        rotate_left
        · simp only [sxx]; rfl
        refine pure_ (i := 4) (N := some 183) (v := ?_) (a' := ?_) bq61 rfl rfl (any_of HT_.out (by kernel_rfl)) (fun _ _ _ h => h) (Or.inl ⟨by rfl, ?_⟩) ?_ ?_
        rotate_left
        · intro w'; go_simp; with_reducible rfl
        rotate_left
        · simp only [sxx]; rfl
        refine take_ (i := 1) (N := some 180) (v := ?_) (a' := ?_) bq62 rfl rfl (take_ofW HT_.out HW_.out (by kernel_rfl)) (fun _ _ _ h => h) (Or.inl ⟨by rfl, ?_⟩) hHeld ?_ ?_
        rotate_left
        · rintro w' ⟨s0, s1, s2, s3⟩
          go_simp; with_reducible rfl
        rotate_left
        · simp only [sxx]; rfl
        refine take_ (i := 5) (N := some 184) (v := ?_) (a' := ?_) bq63 rfl rfl (take_ofW HT_.out HW_.out (by kernel_rfl)) (fun _ _ _ h => h) (Or.inl ⟨by rfl, ?_⟩) hHeld ?_ ?_
        rotate_left
        · rintro w' ⟨s0, s1, s2, s3⟩
          go_simp; with_reducible rfl
        rotate_left
        · simp only [sxx]; rfl
        refine one_ (i := 2) (N := some 181) bq64 rfl rfl (one_of HT_.out (by kernel_rfl)) (by decide) (fun K hK => ?_)
        refine value_ (w1 := ?_) (v := ?_) (by rfl) rfl ?_ ?_
        rotate_left 2
        · go_simp
          constructor
          · rfl
          · rfl
        refine hK.out _ _ ⟨pw_cell_below (below_alloc (Below.refl _ _) _) kp7, pw_cell_below (below_alloc (Below.refl _ _) _) kp8, pw_cell_below (below_alloc (Below.refl _ _) _) kp9, pw_cell_below (below_alloc (Below.refl _ _) _) kp10⟩ (fun hHeld => ?_)
        clear hK K
        refine norm_ (a' := ?_) ?_ ?_
        rotate_left
        · show Act.put _ (some 181) _ = _
          simp only [sxx]; rfl
        refine one_ (i := 3) (N := some 182) bq65 rfl rfl (one_of HT_.out (by kernel_rfl)) (by decide) (fun K hK => ?_)
        refine goes_ Try.func53 (by kernel_rfl) rfl #[.slice (some ⟨w2.drew.heap.size, 0, none⟩) 1 1] (by rfl) rfl rfl (by simp only [mxx]; rfl) ?_
        with_reducible refine (numbers_N (some ⟨w2.drew.heap.size, 0, none⟩) 1 1 [st] _ rfl (C_lit64 w2.drew [st] (by simp)) (by decide) (by simp)).mono ?_
        rintro e u1 ⟨B, m, cb, rfl, hl1, hl2, ho, hb⟩
        refine ⟨_, rfl, ?_⟩
        have HU1 := Aside0.mk (below_step (below_alloc (below_drew1 (Below.refl w2.heap.size w2)) _) hb)
        have HO1 := Aside0.mk (Kd.R_lower ho (Nat.le_trans HA.out.size (below_alloc (below_drew1 (Below.refl w2.heap.size w2)) (.cells (nums .i64 [st]).toArray 3)).size))
        clear hl1 hl2 ho hb
        refine hK.out _ _ ⟨pw_cell_below HU1.out K7.out, pw_cell_below HU1.out K8.out, pw_cell_below HU1.out K9.out, pw_cell_below HU1.out K10.out⟩ (fun hHeld => ?_)
        clear hK K
        refine norm_ (a' := ?_) ?_ ?_
        rotate_left
        · show Act.put _ (some 182) _ = _
          simp only [sxx]; rfl
        refine one_ (i := 6) (N := some 185) bq46 rfl rfl (one_of HT_.out (by kernel_rfl)) (by decide) (fun K hK => ?_)
        refine goes_ Try.func57 (by kernel_rfl) rfl #[.int .i64 st] (by rfl) rfl rfl (by simp only [mxx]; rfl) ?_
        with_reducible refine (journal_number.calls st _ _ ((jnumber_eq st).trans (congrArg some HB1.out))).mono ?_
        rintro e u2 ⟨rfl, hb⟩
        refine ⟨_, rfl, ?_⟩
        have HU2 := Aside0.mk (below_step HU1.out hb.below)
        have HO2 := Aside0.mk (R8_keep HO1.out (fun k_ hk_ => (hb.below).block k_ (R8_lt HO1.out k_ hk_).2))
        clear hb
        refine hK.out _ _ ⟨pw_cell_below HU2.out K7.out, pw_cell_below HU2.out K8.out, pw_cell_below HU2.out K9.out, pw_cell_below HU2.out K10.out⟩ (fun hHeld => ?_)
        clear hK K
        refine norm_ (a' := ?_) ?_ ?_
        rotate_left
        · show Act.put _ (some 185) _ = _
          simp only [sxx]; rfl
        refine pure_ (i := 7) (N := some 186) (v := ?_) (a' := ?_) bq47 rfl rfl (any_of HT_.out (by kernel_rfl)) (fun _ _ _ h => h) (Or.inl ⟨by rfl, ?_⟩) ?_ ?_
        rotate_left
        · intro w'; go_simp; with_reducible rfl
        rotate_left
        · simp only [sxx]; rfl
        refine pure_ (i := 8) (N := some 187) (v := undef) (a' := ?_) bq48 rfl rfl (any_of HT_.out (by kernel_rfl)) (fun _ _ _ h => h) (Or.inr ⟨by rfl, rfl⟩) ?_ ?_
        rotate_left
        · simp only [sxx]; rfl
        refine pure_ (i := 9) (N := some 188) (v := ?_) (a' := ?_) bq49 rfl rfl (any_of HT_.out (by kernel_rfl)) (fun _ _ _ h => h) (Or.inl ⟨by rfl, ?_⟩) ?_ ?_
        rotate_left
        · intro w'; go_simp; with_reducible rfl
        rotate_left
        · simp only [sxx]; rfl
        refine pure_ (i := 10) (N := some 189) (v := ?_) (a' := ?_) bq50 rfl rfl (any_of HT_.out (by kernel_rfl)) (fun _ _ _ h => h) (Or.inl ⟨by rfl, ?_⟩) ?_ ?_
        rotate_left
        · intro w'; go_simp; with_reducible rfl
        rotate_left
        · simp only [sxx]; rfl
        refine pure_ (i := 11) (N := some 190) (v := undef) (a' := ?_) bq51 rfl rfl (any_of HT_.out (by kernel_rfl)) (fun _ _ _ h => h) (Or.inr ⟨by rfl, rfl⟩) ?_ ?_
        rotate_left
        · simp only [sxx]; rfl
        refine pure_ (i := 12) (N := some 191) (v := ?_) (a' := ?_) bq52 rfl rfl (any_of HT_.out (by kernel_rfl)) (fun _ _ _ h => h) (Or.inl ⟨by rfl, ?_⟩) ?_ ?_
        rotate_left
        · intro w'; go_simp; with_reducible rfl
        rotate_left
        · simp only [sxx]; rfl
        refine pure_ (i := 13) (N := some 192) (v := ?_) (a' := ?_) bq53 rfl rfl (any_of HT_.out (by kernel_rfl)) (fun _ _ _ h => h) (Or.inl ⟨by rfl, ?_⟩) ?_ ?_
        rotate_left
        · intro w'; go_simp; with_reducible rfl
        rotate_left
        · simp only [sxx]; rfl
        refine pure_ (i := 14) (N := some 193) (v := undef) (a' := ?_) bq54 rfl rfl (any_of HT_.out (by kernel_rfl)) (fun _ _ _ h => h) (Or.inr ⟨by rfl, rfl⟩) ?_ ?_
        rotate_left
        · simp only [sxx]; rfl
        refine pure_ (i := 15) (N := some 194) (v := undef) (a' := ?_) bq55 rfl rfl (any_of HT_.out (by kernel_rfl)) (fun _ _ _ h => h) (Or.inr ⟨by rfl, rfl⟩) ?_ ?_
        rotate_left
        · simp only [sxx]; rfl
        refine pure_ (i := 16) (N := some 195) (v := undef) (a' := ?_) bq56 rfl rfl (any_of HT_.out (by kernel_rfl)) (fun _ _ _ h => h) (Or.inr ⟨by rfl, rfl⟩) ?_ ?_
        rotate_left
        · simp only [sxx]; rfl
        refine pure_ (i := 17) (N := some 196) (v := undef) (a' := ?_) bq57 rfl rfl (any_of HT_.out (by kernel_rfl)) (fun _ _ _ h => h) (Or.inr ⟨by rfl, rfl⟩) ?_ ?_
        rotate_left
        · simp only [sxx]; rfl
        refine pure_ (i := 18) (N := some 197) (v := ?_) (a' := ?_) bq58 rfl rfl (any_of HT_.out (by kernel_rfl)) (fun _ _ _ h => h) (Or.inl ⟨by rfl, ?_⟩) ?_ ?_
        rotate_left
        · intro w'; go_simp; with_reducible rfl
        rotate_left
        · simp only [sxx]; rfl
        refine pure_ (i := 19) (N := some 2) (v := ?_) (a' := ?_) bq59 rfl rfl (any_of HT_.out (by kernel_rfl)) (fun _ _ _ h => h) (Or.inl ⟨by rfl, ?_⟩) ?_ ?_
        rotate_left
        · intro w'; go_simp; with_reducible rfl
        rotate_left
        · simp only [sxx]; rfl
        refine pure_ (i := 20) (N := some 3) (v := ?_) (a' := ?_) bq60 rfl rfl (any_of HT_.out (by kernel_rfl)) (fun _ _ _ h => h) (Or.inl ⟨by rfl, ?_⟩) ?_ ?_
        rotate_left
        · intro w'; go_simp; with_reducible rfl
        rotate_left
        · simp only [sxx]; rfl
        refine done_ (done_of HT_.out (by kernel_rfl)) ?_
        clear kp7 kp8 kp9 kp10
        go_wp2
        refine bodyPost_ret (results_tmp2 rfl _ _ _) rfl ?_
        exact ⟨_, by rw [HB1.out, HEB.out, HSB.out]; first | rfl | simp [noView], HO2.out, below_step HA.out HU2.out⟩
      · cases eb
        · skip
          refine start_ (n := 21) (S := fun w' => w'.cell? ⟨p, 7, none⟩ = some (.int .i64 vn) ∧ w'.cell? ⟨p, 8, none⟩ = some (.int .i64 vp) ∧ w'.cell? ⟨p, 9, none⟩ = some (.int .i64 vb) ∧ w'.cell? ⟨p, 10, none⟩ = some (.int .i64 st)) (ds := []) bq39 (by kernel_rfl) rfl rfl ⟨kp7, kp8, kp9, kp10⟩ (fun hHeld => ?_)
          refine with_tabW rg31.tab22 rg31.bits22 (fun HT_ HW_ => ?_)
          refine pure_ (i := 0) (N := some 179) (v := ?_) (a' := ?_) bq40 rfl rfl (any_of HT_.out (by kernel_rfl)) (fun _ _ _ h => h) (Or.inl ⟨by rfl, ?_⟩) ?_ ?_
          rotate_left
          · intro w'; go_simp; with_reducible rfl
          rotate_left
          · simp only [sxx]; rfl
          refine pure_ (i := 4) (N := some 183) (v := ?_) (a' := ?_) bq61 rfl rfl (any_of HT_.out (by kernel_rfl)) (fun _ _ _ h => h) (Or.inl ⟨by rfl, ?_⟩) ?_ ?_
          rotate_left
          · intro w'; go_simp; with_reducible rfl
          rotate_left
          · simp only [sxx]; rfl
          refine take_ (i := 1) (N := some 180) (v := ?_) (a' := ?_) bq62 rfl rfl (take_ofW HT_.out HW_.out (by kernel_rfl)) (fun _ _ _ h => h) (Or.inl ⟨by rfl, ?_⟩) hHeld ?_ ?_
          rotate_left
          · rintro w' ⟨s0, s1, s2, s3⟩
            go_simp; with_reducible rfl
          rotate_left
          · simp only [sxx]; rfl
          refine take_ (i := 5) (N := some 184) (v := ?_) (a' := ?_) bq63 rfl rfl (take_ofW HT_.out HW_.out (by kernel_rfl)) (fun _ _ _ h => h) (Or.inl ⟨by rfl, ?_⟩) hHeld ?_ ?_
          rotate_left
          · rintro w' ⟨s0, s1, s2, s3⟩
            go_simp; with_reducible rfl
          rotate_left
          · simp only [sxx]; rfl
          refine one_ (i := 2) (N := some 181) bq64 rfl rfl (one_of HT_.out (by kernel_rfl)) (by decide) (fun K hK => ?_)
          refine value_ (w1 := ?_) (v := ?_) (by rfl) rfl ?_ ?_
          rotate_left 2
          · go_simp
            constructor
            · rfl
            · rfl
          refine hK.out _ _ ⟨pw_cell_below (below_alloc (Below.refl _ _) _) kp7, pw_cell_below (below_alloc (Below.refl _ _) _) kp8, pw_cell_below (below_alloc (Below.refl _ _) _) kp9, pw_cell_below (below_alloc (Below.refl _ _) _) kp10⟩ (fun hHeld => ?_)
          clear hK K
          refine norm_ (a' := ?_) ?_ ?_
          rotate_left
          · show Act.put _ (some 181) _ = _
            simp only [sxx]; rfl
          refine one_ (i := 3) (N := some 182) bq65 rfl rfl (one_of HT_.out (by kernel_rfl)) (by decide) (fun K hK => ?_)
          refine goes_ Try.func53 (by kernel_rfl) rfl #[.slice (some ⟨w2.drew.heap.size, 0, none⟩) 1 1] (by rfl) rfl rfl (by simp only [mxx]; rfl) ?_
          with_reducible refine (numbers_N (some ⟨w2.drew.heap.size, 0, none⟩) 1 1 [st] _ rfl (C_lit64 w2.drew [st] (by simp)) (by decide) (by simp)).mono ?_
          rintro e u1 ⟨B, m, cb, rfl, hl1, hl2, ho, hb⟩
          refine ⟨_, rfl, ?_⟩
          have HU1 := Aside0.mk (below_step (below_alloc (below_drew1 (Below.refl w2.heap.size w2)) _) hb)
          have HO1 := Aside0.mk (Kd.R_lower ho (Nat.le_trans HA.out.size (below_alloc (below_drew1 (Below.refl w2.heap.size w2)) (.cells (nums .i64 [st]).toArray 3)).size))
          clear hl1 hl2 ho hb
          refine hK.out _ _ ⟨pw_cell_below HU1.out K7.out, pw_cell_below HU1.out K8.out, pw_cell_below HU1.out K9.out, pw_cell_below HU1.out K10.out⟩ (fun hHeld => ?_)
          clear hK K
          refine norm_ (a' := ?_) ?_ ?_
          rotate_left
          · show Act.put _ (some 182) _ = _
            simp only [sxx]; rfl
          refine one_ (i := 6) (N := some 185) bq46 rfl rfl (one_of HT_.out (by kernel_rfl)) (by decide) (fun K hK => ?_)
          refine goes_ Try.func57 (by kernel_rfl) rfl #[.int .i64 st] (by rfl) rfl rfl (by simp only [mxx]; rfl) ?_
          with_reducible refine (journal_number.calls st _ _ ((jnumber_eq st).trans (congrArg some HB1.out))).mono ?_
          rintro e u2 ⟨rfl, hb⟩
          refine ⟨_, rfl, ?_⟩
          have HU2 := Aside0.mk (below_step HU1.out hb.below)
          have HO2 := Aside0.mk (R8_keep HO1.out (fun k_ hk_ => (hb.below).block k_ (R8_lt HO1.out k_ hk_).2))
          clear hb
          refine hK.out _ _ ⟨pw_cell_below HU2.out K7.out, pw_cell_below HU2.out K8.out, pw_cell_below HU2.out K9.out, pw_cell_below HU2.out K10.out⟩ (fun hHeld => ?_)
          clear hK K
          refine norm_ (a' := ?_) ?_ ?_
          rotate_left
          · show Act.put _ (some 185) _ = _
            simp only [sxx]; rfl
          refine pure_ (i := 7) (N := some 186) (v := ?_) (a' := ?_) bq47 rfl rfl (any_of HT_.out (by kernel_rfl)) (fun _ _ _ h => h) (Or.inl ⟨by rfl, ?_⟩) ?_ ?_
          rotate_left
          · intro w'; go_simp; with_reducible rfl
          rotate_left
          · simp only [sxx]; rfl
          refine pure_ (i := 8) (N := some 187) (v := ?_) (a' := ?_) bq48 rfl rfl (any_of HT_.out (by kernel_rfl)) (fun _ _ _ h => h) (Or.inl ⟨by rfl, ?_⟩) ?_ ?_
          rotate_left
          · intro w'; go_simp; with_reducible rfl
          rotate_left
          · simp only [sxx]; rfl
          refine pure_ (i := 9) (N := some 188) (v := ?_) (a' := ?_) bq49 rfl rfl (any_of HT_.out (by kernel_rfl)) (fun _ _ _ h => h) (Or.inl ⟨by rfl, ?_⟩) ?_ ?_
          rotate_left
          · intro w'; go_simp; with_reducible rfl
          rotate_left
          · simp only [sxx]; rfl
          refine pure_ (i := 10) (N := some 189) (v := ?_) (a' := ?_) bq50 rfl rfl (any_of HT_.out (by kernel_rfl)) (fun _ _ _ h => h) (Or.inl ⟨by rfl, ?_⟩) ?_ ?_
          rotate_left
          · intro w'; go_simp; with_reducible rfl
          rotate_left
          · simp only [sxx]; rfl
          refine pure_ (i := 11) (N := some 190) (v := undef) (a' := ?_) bq51 rfl rfl (any_of HT_.out (by kernel_rfl)) (fun _ _ _ h => h) (Or.inr ⟨by rfl, rfl⟩) ?_ ?_
          rotate_left
          · simp only [sxx]; rfl
          refine pure_ (i := 12) (N := some 191) (v := ?_) (a' := ?_) bq52 rfl rfl (any_of HT_.out (by kernel_rfl)) (fun _ _ _ h => h) (Or.inl ⟨by rfl, ?_⟩) ?_ ?_
          rotate_left
          · intro w'; go_simp; with_reducible rfl
          rotate_left
          · simp only [sxx]; rfl
          refine pure_ (i := 13) (N := some 192) (v := ?_) (a' := ?_) bq53 rfl rfl (any_of HT_.out (by kernel_rfl)) (fun _ _ _ h => h) (Or.inl ⟨by rfl, ?_⟩) ?_ ?_
          rotate_left
          · intro w'; go_simp; with_reducible rfl
          rotate_left
          · simp only [sxx]; rfl
          refine pure_ (i := 14) (N := some 193) (v := undef) (a' := ?_) bq54 rfl rfl (any_of HT_.out (by kernel_rfl)) (fun _ _ _ h => h) (Or.inr ⟨by rfl, rfl⟩) ?_ ?_
          rotate_left
          · simp only [sxx]; rfl
          refine pure_ (i := 15) (N := some 194) (v := undef) (a' := ?_) bq55 rfl rfl (any_of HT_.out (by kernel_rfl)) (fun _ _ _ h => h) (Or.inr ⟨by rfl, rfl⟩) ?_ ?_
          rotate_left
          · simp only [sxx]; rfl
          refine pure_ (i := 16) (N := some 195) (v := undef) (a' := ?_) bq56 rfl rfl (any_of HT_.out (by kernel_rfl)) (fun _ _ _ h => h) (Or.inr ⟨by rfl, rfl⟩) ?_ ?_
          rotate_left
          · simp only [sxx]; rfl
          refine pure_ (i := 17) (N := some 196) (v := undef) (a' := ?_) bq57 rfl rfl (any_of HT_.out (by kernel_rfl)) (fun _ _ _ h => h) (Or.inr ⟨by rfl, rfl⟩) ?_ ?_
          rotate_left
          · simp only [sxx]; rfl
          refine pure_ (i := 18) (N := some 197) (v := ?_) (a' := ?_) bq58 rfl rfl (any_of HT_.out (by kernel_rfl)) (fun _ _ _ h => h) (Or.inl ⟨by rfl, ?_⟩) ?_ ?_
          rotate_left
          · intro w'; go_simp; with_reducible rfl
          rotate_left
          · simp only [sxx]; rfl
          refine pure_ (i := 19) (N := some 2) (v := ?_) (a' := ?_) bq59 rfl rfl (any_of HT_.out (by kernel_rfl)) (fun _ _ _ h => h) (Or.inl ⟨by rfl, ?_⟩) ?_ ?_
          rotate_left
          · intro w'; go_simp; with_reducible rfl
          rotate_left
          · simp only [sxx]; rfl
          refine pure_ (i := 20) (N := some 3) (v := ?_) (a' := ?_) bq60 rfl rfl (any_of HT_.out (by kernel_rfl)) (fun _ _ _ h => h) (Or.inl ⟨by rfl, ?_⟩) ?_ ?_
          rotate_left
          · intro w'; go_simp; with_reducible rfl
          rotate_left
          · simp only [sxx]; rfl
          refine done_ (done_of HT_.out (by kernel_rfl)) ?_
          clear kp7 kp8 kp9 kp10
          go_wp2
          refine bodyPost_ret (results_tmp2 rfl _ _ _) rfl ?_
          exact ⟨_, by rw [HB1.out, HEB.out, HSB.out]; first | rfl | simp [noView], HO2.out, below_step HA.out HU2.out⟩
        · cases sb
          · skip
            refine start_ (n := 21) (S := fun w' => w'.cell? ⟨p, 7, none⟩ = some (.int .i64 vn) ∧ w'.cell? ⟨p, 8, none⟩ = some (.int .i64 vp) ∧ w'.cell? ⟨p, 9, none⟩ = some (.int .i64 vb) ∧ w'.cell? ⟨p, 10, none⟩ = some (.int .i64 st)) (ds := []) bq39 (by kernel_rfl) rfl rfl ⟨kp7, kp8, kp9, kp10⟩ (fun hHeld => ?_)
            refine with_tabW rg31.tab22 rg31.bits22 (fun HT_ HW_ => ?_)
            refine pure_ (i := 0) (N := some 179) (v := ?_) (a' := ?_) bq40 rfl rfl (any_of HT_.out (by kernel_rfl)) (fun _ _ _ h => h) (Or.inl ⟨by rfl, ?_⟩) ?_ ?_
            rotate_left
            · intro w'; go_simp; with_reducible rfl
            rotate_left
            · simp only [sxx]; rfl
            refine pure_ (i := 4) (N := some 183) (v := ?_) (a' := ?_) bq61 rfl rfl (any_of HT_.out (by kernel_rfl)) (fun _ _ _ h => h) (Or.inl ⟨by rfl, ?_⟩) ?_ ?_
            rotate_left
            · intro w'; go_simp; with_reducible rfl
            rotate_left
            · simp only [sxx]; rfl
            refine take_ (i := 1) (N := some 180) (v := ?_) (a' := ?_) bq62 rfl rfl (take_ofW HT_.out HW_.out (by kernel_rfl)) (fun _ _ _ h => h) (Or.inl ⟨by rfl, ?_⟩) hHeld ?_ ?_
            rotate_left
            · rintro w' ⟨s0, s1, s2, s3⟩
              go_simp; with_reducible rfl
            rotate_left
            · simp only [sxx]; rfl
            refine take_ (i := 5) (N := some 184) (v := ?_) (a' := ?_) bq63 rfl rfl (take_ofW HT_.out HW_.out (by kernel_rfl)) (fun _ _ _ h => h) (Or.inl ⟨by rfl, ?_⟩) hHeld ?_ ?_
            rotate_left
            · rintro w' ⟨s0, s1, s2, s3⟩
              go_simp; with_reducible rfl
            rotate_left
            · simp only [sxx]; rfl
            refine one_ (i := 2) (N := some 181) bq64 rfl rfl (one_of HT_.out (by kernel_rfl)) (by decide) (fun K hK => ?_)
            refine value_ (w1 := ?_) (v := ?_) (by rfl) rfl ?_ ?_
            rotate_left 2
            · go_simp
              constructor
              · rfl
              · rfl
            refine hK.out _ _ ⟨pw_cell_below (below_alloc (Below.refl _ _) _) kp7, pw_cell_below (below_alloc (Below.refl _ _) _) kp8, pw_cell_below (below_alloc (Below.refl _ _) _) kp9, pw_cell_below (below_alloc (Below.refl _ _) _) kp10⟩ (fun hHeld => ?_)
            clear hK K
            refine norm_ (a' := ?_) ?_ ?_
            rotate_left
            · show Act.put _ (some 181) _ = _
              simp only [sxx]; rfl
            refine one_ (i := 3) (N := some 182) bq65 rfl rfl (one_of HT_.out (by kernel_rfl)) (by decide) (fun K hK => ?_)
            refine goes_ Try.func53 (by kernel_rfl) rfl #[.slice (some ⟨w2.drew.heap.size, 0, none⟩) 1 1] (by rfl) rfl rfl (by simp only [mxx]; rfl) ?_
            with_reducible refine (numbers_N (some ⟨w2.drew.heap.size, 0, none⟩) 1 1 [st] _ rfl (C_lit64 w2.drew [st] (by simp)) (by decide) (by simp)).mono ?_
            rintro e u1 ⟨B, m, cb, rfl, hl1, hl2, ho, hb⟩
            refine ⟨_, rfl, ?_⟩
            have HU1 := Aside0.mk (below_step (below_alloc (below_drew1 (Below.refl w2.heap.size w2)) _) hb)
            have HO1 := Aside0.mk (Kd.R_lower ho (Nat.le_trans HA.out.size (below_alloc (below_drew1 (Below.refl w2.heap.size w2)) (.cells (nums .i64 [st]).toArray 3)).size))
            clear hl1 hl2 ho hb
            refine hK.out _ _ ⟨pw_cell_below HU1.out K7.out, pw_cell_below HU1.out K8.out, pw_cell_below HU1.out K9.out, pw_cell_below HU1.out K10.out⟩ (fun hHeld => ?_)
            clear hK K
            refine norm_ (a' := ?_) ?_ ?_
            rotate_left
            · show Act.put _ (some 182) _ = _
              simp only [sxx]; rfl
            refine one_ (i := 6) (N := some 185) bq46 rfl rfl (one_of HT_.out (by kernel_rfl)) (by decide) (fun K hK => ?_)
            refine goes_ Try.func57 (by kernel_rfl) rfl #[.int .i64 st] (by rfl) rfl rfl (by simp only [mxx]; rfl) ?_
            with_reducible refine (journal_number.calls st _ _ ((jnumber_eq st).trans (congrArg some HB1.out))).mono ?_
            rintro e u2 ⟨rfl, hb⟩
            refine ⟨_, rfl, ?_⟩
            have HU2 := Aside0.mk (below_step HU1.out hb.below)
            have HO2 := Aside0.mk (R8_keep HO1.out (fun k_ hk_ => (hb.below).block k_ (R8_lt HO1.out k_ hk_).2))
            clear hb
            refine hK.out _ _ ⟨pw_cell_below HU2.out K7.out, pw_cell_below HU2.out K8.out, pw_cell_below HU2.out K9.out, pw_cell_below HU2.out K10.out⟩ (fun hHeld => ?_)
            clear hK K
            refine norm_ (a' := ?_) ?_ ?_
            rotate_left
            · show Act.put _ (some 185) _ = _
              simp only [sxx]; rfl
            refine pure_ (i := 7) (N := some 186) (v := ?_) (a' := ?_) bq47 rfl rfl (any_of HT_.out (by kernel_rfl)) (fun _ _ _ h => h) (Or.inl ⟨by rfl, ?_⟩) ?_ ?_
            rotate_left
            · intro w'; go_simp; with_reducible rfl
            rotate_left
            · simp only [sxx]; rfl
            refine pure_ (i := 8) (N := some 187) (v := ?_) (a' := ?_) bq48 rfl rfl (any_of HT_.out (by kernel_rfl)) (fun _ _ _ h => h) (Or.inl ⟨by rfl, ?_⟩) ?_ ?_
            rotate_left
            · intro w'; go_simp; with_reducible rfl
            rotate_left
            · simp only [sxx]; rfl
            refine pure_ (i := 9) (N := some 188) (v := ?_) (a' := ?_) bq49 rfl rfl (any_of HT_.out (by kernel_rfl)) (fun _ _ _ h => h) (Or.inl ⟨by rfl, ?_⟩) ?_ ?_
            rotate_left
            · intro w'; go_simp; with_reducible rfl
            rotate_left
            · simp only [sxx]; rfl
            refine pure_ (i := 10) (N := some 189) (v := ?_) (a' := ?_) bq50 rfl rfl (any_of HT_.out (by kernel_rfl)) (fun _ _ _ h => h) (Or.inl ⟨by rfl, ?_⟩) ?_ ?_
            rotate_left
            · intro w'; go_simp; with_reducible rfl
            rotate_left
            · simp only [sxx]; rfl
            refine pure_ (i := 11) (N := some 190) (v := ?_) (a' := ?_) bq51 rfl rfl (any_of HT_.out (by kernel_rfl)) (fun _ _ _ h => h) (Or.inl ⟨by rfl, ?_⟩) ?_ ?_
            rotate_left
            · intro w'; go_simp; with_reducible rfl
            rotate_left
            · simp only [sxx]; rfl
            refine pure_ (i := 12) (N := some 191) (v := ?_) (a' := ?_) bq52 rfl rfl (any_of HT_.out (by kernel_rfl)) (fun _ _ _ h => h) (Or.inl ⟨by rfl, ?_⟩) ?_ ?_
            rotate_left
            · intro w'; go_simp; with_reducible rfl
            rotate_left
            · simp only [sxx]; rfl
            refine pure_ (i := 13) (N := some 192) (v := ?_) (a' := ?_) bq53 rfl rfl (any_of HT_.out (by kernel_rfl)) (fun _ _ _ h => h) (Or.inl ⟨by rfl, ?_⟩) ?_ ?_
            rotate_left
            · intro w'; go_simp; with_reducible rfl
            rotate_left
            · simp only [sxx]; rfl
            refine pure_ (i := 14) (N := some 193) (v := undef) (a' := ?_) bq54 rfl rfl (any_of HT_.out (by kernel_rfl)) (fun _ _ _ h => h) (Or.inr ⟨by rfl, rfl⟩) ?_ ?_
            rotate_left
            · simp only [sxx]; rfl
            refine pure_ (i := 15) (N := some 194) (v := undef) (a' := ?_) bq55 rfl rfl (any_of HT_.out (by kernel_rfl)) (fun _ _ _ h => h) (Or.inr ⟨by rfl, rfl⟩) ?_ ?_
            rotate_left
            · simp only [sxx]; rfl
            refine pure_ (i := 16) (N := some 195) (v := undef) (a' := ?_) bq56 rfl rfl (any_of HT_.out (by kernel_rfl)) (fun _ _ _ h => h) (Or.inr ⟨by rfl, rfl⟩) ?_ ?_
            rotate_left
            · simp only [sxx]; rfl
            refine pure_ (i := 17) (N := some 196) (v := undef) (a' := ?_) bq57 rfl rfl (any_of HT_.out (by kernel_rfl)) (fun _ _ _ h => h) (Or.inr ⟨by rfl, rfl⟩) ?_ ?_
            rotate_left
            · simp only [sxx]; rfl
            refine pure_ (i := 18) (N := some 197) (v := ?_) (a' := ?_) bq58 rfl rfl (any_of HT_.out (by kernel_rfl)) (fun _ _ _ h => h) (Or.inl ⟨by rfl, ?_⟩) ?_ ?_
            rotate_left
            · intro w'; go_simp; with_reducible rfl
            rotate_left
            · simp only [sxx]; rfl
            refine pure_ (i := 19) (N := some 2) (v := ?_) (a' := ?_) bq59 rfl rfl (any_of HT_.out (by kernel_rfl)) (fun _ _ _ h => h) (Or.inl ⟨by rfl, ?_⟩) ?_ ?_
            rotate_left
            · intro w'; go_simp; with_reducible rfl
            rotate_left
            · simp only [sxx]; rfl
            refine pure_ (i := 20) (N := some 3) (v := ?_) (a' := ?_) bq60 rfl rfl (any_of HT_.out (by kernel_rfl)) (fun _ _ _ h => h) (Or.inl ⟨by rfl, ?_⟩) ?_ ?_
            rotate_left
            · intro w'; go_simp; with_reducible rfl
            rotate_left
            · simp only [sxx]; rfl
            refine done_ (done_of HT_.out (by kernel_rfl)) ?_
            clear kp7 kp8 kp9 kp10
            go_wp2
            refine bodyPost_ret (results_tmp2 rfl _ _ _) rfl ?_
            exact ⟨_, by rw [HB1.out, HEB.out, HSB.out]; first | rfl | simp [noView], HO2.out, below_step HA.out HU2.out⟩
          · by_cases h0 : vn = 0
            · have c0 : (vn == 0) = true := beq_iff_eq.mpr h0
              have d0 := Aside0.mk h0
              clear h0
              by_cases h1 : vp = 0
              · have c1 : (vp == 0) = true := beq_iff_eq.mpr h1
                have d1 := Aside0.mk h1
                clear h1
                by_cases h2 : vb = 0
                · have c2 : (vb == 0) = true := beq_iff_eq.mpr h2
                  have d2 := Aside0.mk h2
                  clear h2
                  have HF := Aside0.mk (show noView vn vp vb = true by unfold noView; rw [beq_iff_eq.mpr d0.out, beq_iff_eq.mpr d1.out, beq_iff_eq.mpr d2.out]; simp)
                  skip
                  refine start_ (n := 21) (S := fun w' => w'.cell? ⟨p, 7, none⟩ = some (.int .i64 vn) ∧ w'.cell? ⟨p, 8, none⟩ = some (.int .i64 vp) ∧ w'.cell? ⟨p, 9, none⟩ = some (.int .i64 vb) ∧ w'.cell? ⟨p, 10, none⟩ = some (.int .i64 st)) (ds := []) bq39 (by kernel_rfl) rfl rfl ⟨kp7, kp8, kp9, kp10⟩ (fun hHeld => ?_)
                  refine with_tabW rg31.tab22 rg31.bits22 (fun HT_ HW_ => ?_)
                  refine pure_ (i := 0) (N := some 179) (v := ?_) (a' := ?_) bq40 rfl rfl (any_of HT_.out (by kernel_rfl)) (fun _ _ _ h => h) (Or.inl ⟨by rfl, ?_⟩) ?_ ?_
                  rotate_left
                  · intro w'; go_simp; with_reducible rfl
                  rotate_left
                  · simp only [sxx]; rfl
                  refine pure_ (i := 4) (N := some 183) (v := ?_) (a' := ?_) bq61 rfl rfl (any_of HT_.out (by kernel_rfl)) (fun _ _ _ h => h) (Or.inl ⟨by rfl, ?_⟩) ?_ ?_
                  rotate_left
                  · intro w'; go_simp; with_reducible rfl
                  rotate_left
                  · simp only [sxx]; rfl
                  refine take_ (i := 1) (N := some 180) (v := ?_) (a' := ?_) bq62 rfl rfl (take_ofW HT_.out HW_.out (by kernel_rfl)) (fun _ _ _ h => h) (Or.inl ⟨by rfl, ?_⟩) hHeld ?_ ?_
                  rotate_left
                  · rintro w' ⟨s0, s1, s2, s3⟩
                    go_simp; with_reducible rfl
                  rotate_left
                  · simp only [sxx]; rfl
                  refine take_ (i := 5) (N := some 184) (v := ?_) (a' := ?_) bq63 rfl rfl (take_ofW HT_.out HW_.out (by kernel_rfl)) (fun _ _ _ h => h) (Or.inl ⟨by rfl, ?_⟩) hHeld ?_ ?_
                  rotate_left
                  · rintro w' ⟨s0, s1, s2, s3⟩
                    go_simp; with_reducible rfl
                  rotate_left
                  · simp only [sxx]; rfl
                  refine one_ (i := 2) (N := some 181) bq64 rfl rfl (one_of HT_.out (by kernel_rfl)) (by decide) (fun K hK => ?_)
                  refine value_ (w1 := ?_) (v := ?_) (by rfl) rfl ?_ ?_
                  rotate_left 2
                  · go_simp
                    constructor
                    · rfl
                    · rfl
                  refine hK.out _ _ ⟨pw_cell_below (below_alloc (Below.refl _ _) _) kp7, pw_cell_below (below_alloc (Below.refl _ _) _) kp8, pw_cell_below (below_alloc (Below.refl _ _) _) kp9, pw_cell_below (below_alloc (Below.refl _ _) _) kp10⟩ (fun hHeld => ?_)
                  clear hK K
                  refine norm_ (a' := ?_) ?_ ?_
                  rotate_left
                  · show Act.put _ (some 181) _ = _
                    simp only [sxx]; rfl
                  refine one_ (i := 3) (N := some 182) bq65 rfl rfl (one_of HT_.out (by kernel_rfl)) (by decide) (fun K hK => ?_)
                  refine goes_ Try.func53 (by kernel_rfl) rfl #[.slice (some ⟨w2.drew.heap.size, 0, none⟩) 1 1] (by rfl) rfl rfl (by simp only [mxx]; rfl) ?_
                  with_reducible refine (numbers_N (some ⟨w2.drew.heap.size, 0, none⟩) 1 1 [st] _ rfl (C_lit64 w2.drew [st] (by simp)) (by decide) (by simp)).mono ?_
                  rintro e u1 ⟨B, m, cb, rfl, hl1, hl2, ho, hb⟩
                  refine ⟨_, rfl, ?_⟩
                  have HU1 := Aside0.mk (below_step (below_alloc (below_drew1 (Below.refl w2.heap.size w2)) _) hb)
                  have HO1 := Aside0.mk (Kd.R_lower ho (Nat.le_trans HA.out.size (below_alloc (below_drew1 (Below.refl w2.heap.size w2)) (.cells (nums .i64 [st]).toArray 3)).size))
                  clear hl1 hl2 ho hb
                  refine hK.out _ _ ⟨pw_cell_below HU1.out K7.out, pw_cell_below HU1.out K8.out, pw_cell_below HU1.out K9.out, pw_cell_below HU1.out K10.out⟩ (fun hHeld => ?_)
                  clear hK K
                  refine norm_ (a' := ?_) ?_ ?_
                  rotate_left
                  · show Act.put _ (some 182) _ = _
                    simp only [sxx]; rfl
                  refine one_ (i := 6) (N := some 185) bq46 rfl rfl (one_of HT_.out (by kernel_rfl)) (by decide) (fun K hK => ?_)
                  refine goes_ Try.func57 (by kernel_rfl) rfl #[.int .i64 st] (by rfl) rfl rfl (by simp only [mxx]; rfl) ?_
                  with_reducible refine (journal_number.calls st _ _ ((jnumber_eq st).trans (congrArg some HB1.out))).mono ?_
                  rintro e u2 ⟨rfl, hb⟩
                  refine ⟨_, rfl, ?_⟩
                  have HU2 := Aside0.mk (below_step HU1.out hb.below)
                  have HO2 := Aside0.mk (R8_keep HO1.out (fun k_ hk_ => (hb.below).block k_ (R8_lt HO1.out k_ hk_).2))
                  clear hb
                  refine hK.out _ _ ⟨pw_cell_below HU2.out K7.out, pw_cell_below HU2.out K8.out, pw_cell_below HU2.out K9.out, pw_cell_below HU2.out K10.out⟩ (fun hHeld => ?_)
                  clear hK K
                  refine norm_ (a' := ?_) ?_ ?_
                  rotate_left
                  · show Act.put _ (some 185) _ = _
                    simp only [sxx]; rfl
                  refine pure_ (i := 7) (N := some 186) (v := ?_) (a' := ?_) bq47 rfl rfl (any_of HT_.out (by kernel_rfl)) (fun _ _ _ h => h) (Or.inl ⟨by rfl, ?_⟩) ?_ ?_
                  rotate_left
                  · intro w'; go_simp; with_reducible rfl
                  rotate_left
                  · simp only [sxx]; rfl
                  refine pure_ (i := 8) (N := some 187) (v := ?_) (a' := ?_) bq48 rfl rfl (any_of HT_.out (by kernel_rfl)) (fun _ _ _ h => h) (Or.inl ⟨by rfl, ?_⟩) ?_ ?_
                  rotate_left
                  · intro w'; go_simp; with_reducible rfl
                  rotate_left
                  · simp only [sxx]; rfl
                  refine pure_ (i := 9) (N := some 188) (v := ?_) (a' := ?_) bq49 rfl rfl (any_of HT_.out (by kernel_rfl)) (fun _ _ _ h => h) (Or.inl ⟨by rfl, ?_⟩) ?_ ?_
                  rotate_left
                  · intro w'; go_simp; with_reducible rfl
                  rotate_left
                  · simp only [sxx]; rfl
                  refine pure_ (i := 10) (N := some 189) (v := ?_) (a' := ?_) bq50 rfl rfl (any_of HT_.out (by kernel_rfl)) (fun _ _ _ h => h) (Or.inl ⟨by rfl, ?_⟩) ?_ ?_
                  rotate_left
                  · intro w'; go_simp; with_reducible rfl
                  rotate_left
                  · simp only [sxx]; rfl
                  refine pure_ (i := 11) (N := some 190) (v := ?_) (a' := ?_) bq51 rfl rfl (any_of HT_.out (by kernel_rfl)) (fun _ _ _ h => h) (Or.inl ⟨by rfl, ?_⟩) ?_ ?_
                  rotate_left
                  · intro w'; go_simp; with_reducible rfl
                  rotate_left
                  · simp only [sxx]; rfl
                  refine pure_ (i := 12) (N := some 191) (v := ?_) (a' := ?_) bq52 rfl rfl (any_of HT_.out (by kernel_rfl)) (fun _ _ _ h => h) (Or.inl ⟨by rfl, ?_⟩) ?_ ?_
                  rotate_left
                  · intro w'; go_simp; with_reducible rfl
                  rotate_left
                  · simp only [sxx]; rfl
                  refine pure_ (i := 13) (N := some 192) (v := ?_) (a' := ?_) bq53 rfl rfl (any_of HT_.out (by kernel_rfl)) (fun _ _ _ h => h) (Or.inl ⟨by rfl, ?_⟩) ?_ ?_
                  rotate_left
                  · intro w'; go_simp; with_reducible rfl
                  rotate_left
                  · simp only [sxx]; rfl
                  refine pure_ (i := 14) (N := some 193) (v := ?_) (a' := ?_) bq54 rfl rfl (any_of HT_.out (by kernel_rfl)) (fun _ _ _ h => h) (Or.inl ⟨by rfl, ?_⟩) ?_ ?_
                  rotate_left
                  · intro w'; go_simp; with_reducible rfl
                  rotate_left
                  · simp only [sxx]; rfl
                  refine pure_ (i := 16) (N := some 195) (v := ?_) (a' := ?_) bq66 rfl rfl (any_of HT_.out (by kernel_rfl)) (fun _ _ _ h => h) (Or.inl ⟨by rfl, ?_⟩) ?_ ?_
                  rotate_left
                  · intro w'; go_simp; with_reducible rfl
                  rotate_left
                  · simp only [sxx]; rfl
                  refine pure_ (i := 19) (N := some 2) (v := ?_) (a' := ?_) bq67 rfl rfl (any_of HT_.out (by kernel_rfl)) (fun _ _ _ h => h) (Or.inl ⟨by rfl, ?_⟩) ?_ ?_
                  rotate_left
                  · intro w'; go_simp; with_reducible rfl
                  rotate_left
                  · simp only [sxx]; rfl
                  refine take_ (i := 15) (N := some 194) (v := ?_) (a' := ?_) bq68 rfl rfl (take_ofW HT_.out HW_.out (by kernel_rfl)) (fun _ _ _ h => h) (Or.inl ⟨by rfl, ?_⟩) hHeld ?_ ?_
                  rotate_left
                  · rintro w' ⟨s0, s1, s2, s3⟩
                    go_simp; with_reducible rfl
                  rotate_left
                  · simp only [sxx]; rfl
                  refine pure_ (i := 17) (N := some 196) (v := ?_) (a' := ?_) bq69 rfl rfl (any_of HT_.out (by kernel_rfl)) (fun _ _ _ h => h) (Or.inl ⟨by rfl, ?_⟩) ?_ ?_
                  rotate_left
                  · intro w'; go_simp; with_reducible rfl
                  rotate_left
                  · simp only [sxx]; rfl
                  refine pure_ (i := 18) (N := some 197) (v := ?_) (a' := ?_) bq59 rfl rfl (any_of HT_.out (by kernel_rfl)) (fun _ _ _ h => h) (Or.inl ⟨by rfl, ?_⟩) ?_ ?_
                  rotate_left
                  · intro w'; go_simp; with_reducible rfl
                  rotate_left
                  · simp only [sxx]; rfl
                  refine pure_ (i := 20) (N := some 3) (v := ?_) (a' := ?_) bq60 rfl rfl (any_of HT_.out (by kernel_rfl)) (fun _ _ _ h => h) (Or.inl ⟨by rfl, ?_⟩) ?_ ?_
                  rotate_left
                  · intro w'; go_simp; with_reducible rfl
                  rotate_left
                  · simp only [sxx]; rfl
                  refine done_ (done_of HT_.out (by kernel_rfl)) ?_
                  clear kp7 kp8 kp9 kp10
                  go_wp2
                  refine bodyPost_ret (results_tmp2 rfl _ _ _) rfl ?_
                  exact ⟨_, by rw [HB1.out, HEB.out, HSB.out, HF.out]; first | rfl | simp, HO2.out, below_step HA.out HU2.out⟩
                · have c2 : (vb == 0) = false := beq_eq_false_iff_ne.mpr h2
                  have d2 := Aside0.mk h2
                  clear h2
                  have HF := Aside0.mk (show noView vn vp vb = false by unfold noView; rw [beq_eq_false_iff_ne.mpr d2.out]; simp)
                  skip
                  refine start_ (n := 21) (S := fun w' => w'.cell? ⟨p, 7, none⟩ = some (.int .i64 vn) ∧ w'.cell? ⟨p, 8, none⟩ = some (.int .i64 vp) ∧ w'.cell? ⟨p, 9, none⟩ = some (.int .i64 vb) ∧ w'.cell? ⟨p, 10, none⟩ = some (.int .i64 st)) (ds := []) bq39 (by kernel_rfl) rfl rfl ⟨kp7, kp8, kp9, kp10⟩ (fun hHeld => ?_)
                  refine with_tabW rg31.tab22 rg31.bits22 (fun HT_ HW_ => ?_)
                  refine pure_ (i := 0) (N := some 179) (v := ?_) (a' := ?_) bq40 rfl rfl (any_of HT_.out (by kernel_rfl)) (fun _ _ _ h => h) (Or.inl ⟨by rfl, ?_⟩) ?_ ?_
                  rotate_left
                  · intro w'; go_simp; with_reducible rfl
                  rotate_left
                  · simp only [sxx]; rfl
                  refine pure_ (i := 4) (N := some 183) (v := ?_) (a' := ?_) bq61 rfl rfl (any_of HT_.out (by kernel_rfl)) (fun _ _ _ h => h) (Or.inl ⟨by rfl, ?_⟩) ?_ ?_
                  rotate_left
                  · intro w'; go_simp; with_reducible rfl
                  rotate_left
                  · simp only [sxx]; rfl
                  refine take_ (i := 1) (N := some 180) (v := ?_) (a' := ?_) bq62 rfl rfl (take_ofW HT_.out HW_.out (by kernel_rfl)) (fun _ _ _ h => h) (Or.inl ⟨by rfl, ?_⟩) hHeld ?_ ?_
                  rotate_left
                  · rintro w' ⟨s0, s1, s2, s3⟩
                    go_simp; with_reducible rfl
                  rotate_left
                  · simp only [sxx]; rfl
                  refine take_ (i := 5) (N := some 184) (v := ?_) (a' := ?_) bq63 rfl rfl (take_ofW HT_.out HW_.out (by kernel_rfl)) (fun _ _ _ h => h) (Or.inl ⟨by rfl, ?_⟩) hHeld ?_ ?_
                  rotate_left
                  · rintro w' ⟨s0, s1, s2, s3⟩
                    go_simp; with_reducible rfl
                  rotate_left
                  · simp only [sxx]; rfl
                  refine one_ (i := 2) (N := some 181) bq64 rfl rfl (one_of HT_.out (by kernel_rfl)) (by decide) (fun K hK => ?_)
                  refine value_ (w1 := ?_) (v := ?_) (by rfl) rfl ?_ ?_
                  rotate_left 2
                  · go_simp
                    constructor
                    · rfl
                    · rfl
                  refine hK.out _ _ ⟨pw_cell_below (below_alloc (Below.refl _ _) _) kp7, pw_cell_below (below_alloc (Below.refl _ _) _) kp8, pw_cell_below (below_alloc (Below.refl _ _) _) kp9, pw_cell_below (below_alloc (Below.refl _ _) _) kp10⟩ (fun hHeld => ?_)
                  clear hK K
                  refine norm_ (a' := ?_) ?_ ?_
                  rotate_left
                  · show Act.put _ (some 181) _ = _
                    simp only [sxx]; rfl
                  refine one_ (i := 3) (N := some 182) bq65 rfl rfl (one_of HT_.out (by kernel_rfl)) (by decide) (fun K hK => ?_)
                  refine goes_ Try.func53 (by kernel_rfl) rfl #[.slice (some ⟨w2.drew.heap.size, 0, none⟩) 1 1] (by rfl) rfl rfl (by simp only [mxx]; rfl) ?_
                  with_reducible refine (numbers_N (some ⟨w2.drew.heap.size, 0, none⟩) 1 1 [st] _ rfl (C_lit64 w2.drew [st] (by simp)) (by decide) (by simp)).mono ?_
                  rintro e u1 ⟨B, m, cb, rfl, hl1, hl2, ho, hb⟩
                  refine ⟨_, rfl, ?_⟩
                  have HU1 := Aside0.mk (below_step (below_alloc (below_drew1 (Below.refl w2.heap.size w2)) _) hb)
                  have HO1 := Aside0.mk (Kd.R_lower ho (Nat.le_trans HA.out.size (below_alloc (below_drew1 (Below.refl w2.heap.size w2)) (.cells (nums .i64 [st]).toArray 3)).size))
                  clear hl1 hl2 ho hb
                  refine hK.out _ _ ⟨pw_cell_below HU1.out K7.out, pw_cell_below HU1.out K8.out, pw_cell_below HU1.out K9.out, pw_cell_below HU1.out K10.out⟩ (fun hHeld => ?_)
                  clear hK K
                  refine norm_ (a' := ?_) ?_ ?_
                  rotate_left
                  · show Act.put _ (some 182) _ = _
                    simp only [sxx]; rfl
                  refine one_ (i := 6) (N := some 185) bq46 rfl rfl (one_of HT_.out (by kernel_rfl)) (by decide) (fun K hK => ?_)
                  refine goes_ Try.func57 (by kernel_rfl) rfl #[.int .i64 st] (by rfl) rfl rfl (by simp only [mxx]; rfl) ?_
                  with_reducible refine (journal_number.calls st _ _ ((jnumber_eq st).trans (congrArg some HB1.out))).mono ?_
                  rintro e u2 ⟨rfl, hb⟩
                  refine ⟨_, rfl, ?_⟩
                  have HU2 := Aside0.mk (below_step HU1.out hb.below)
                  have HO2 := Aside0.mk (R8_keep HO1.out (fun k_ hk_ => (hb.below).block k_ (R8_lt HO1.out k_ hk_).2))
                  clear hb
                  refine hK.out _ _ ⟨pw_cell_below HU2.out K7.out, pw_cell_below HU2.out K8.out, pw_cell_below HU2.out K9.out, pw_cell_below HU2.out K10.out⟩ (fun hHeld => ?_)
                  clear hK K
                  refine norm_ (a' := ?_) ?_ ?_
                  rotate_left
                  · show Act.put _ (some 185) _ = _
                    simp only [sxx]; rfl
                  refine pure_ (i := 7) (N := some 186) (v := ?_) (a' := ?_) bq47 rfl rfl (any_of HT_.out (by kernel_rfl)) (fun _ _ _ h => h) (Or.inl ⟨by rfl, ?_⟩) ?_ ?_
                  rotate_left
                  · intro w'; go_simp; with_reducible rfl
                  rotate_left
                  · simp only [sxx]; rfl
                  refine pure_ (i := 8) (N := some 187) (v := ?_) (a' := ?_) bq48 rfl rfl (any_of HT_.out (by kernel_rfl)) (fun _ _ _ h => h) (Or.inl ⟨by rfl, ?_⟩) ?_ ?_
                  rotate_left
                  · intro w'; go_simp; with_reducible rfl
                  rotate_left
                  · simp only [sxx]; rfl
                  refine pure_ (i := 9) (N := some 188) (v := ?_) (a' := ?_) bq49 rfl rfl (any_of HT_.out (by kernel_rfl)) (fun _ _ _ h => h) (Or.inl ⟨by rfl, ?_⟩) ?_ ?_
                  rotate_left
                  · intro w'; go_simp; with_reducible rfl
                  rotate_left
                  · simp only [sxx]; rfl
                  refine pure_ (i := 10) (N := some 189) (v := ?_) (a' := ?_) bq50 rfl rfl (any_of HT_.out (by kernel_rfl)) (fun _ _ _ h => h) (Or.inl ⟨by rfl, ?_⟩) ?_ ?_
                  rotate_left
                  · intro w'; go_simp; with_reducible rfl
                  rotate_left
                  · simp only [sxx]; rfl
                  refine pure_ (i := 11) (N := some 190) (v := ?_) (a' := ?_) bq51 rfl rfl (any_of HT_.out (by kernel_rfl)) (fun _ _ _ h => h) (Or.inl ⟨by rfl, ?_⟩) ?_ ?_
                  rotate_left
                  · intro w'; go_simp; with_reducible rfl
                  rotate_left
                  · simp only [sxx]; rfl
                  refine pure_ (i := 12) (N := some 191) (v := ?_) (a' := ?_) bq52 rfl rfl (any_of HT_.out (by kernel_rfl)) (fun _ _ _ h => h) (Or.inl ⟨by rfl, ?_⟩) ?_ ?_
                  rotate_left
                  · intro w'; go_simp; with_reducible rfl
                  rotate_left
                  · simp only [sxx]; rfl
                  refine pure_ (i := 13) (N := some 192) (v := ?_) (a' := ?_) bq53 rfl rfl (any_of HT_.out (by kernel_rfl)) (fun _ _ _ h => h) (Or.inl ⟨by rfl, ?_⟩) ?_ ?_
                  rotate_left
                  · intro w'; go_simp; with_reducible rfl
                  rotate_left
                  · simp only [sxx]; rfl
                  refine pure_ (i := 14) (N := some 193) (v := ?_) (a' := ?_) bq54 rfl rfl (any_of HT_.out (by kernel_rfl)) (fun _ _ _ h => h) (Or.inl ⟨by rfl, ?_⟩) ?_ ?_
                  rotate_left
                  · intro w'; go_simp; with_reducible rfl
                  rotate_left
                  · simp only [sxx]; rfl
                  refine pure_ (i := 16) (N := some 195) (v := ?_) (a' := ?_) bq66 rfl rfl (any_of HT_.out (by kernel_rfl)) (fun _ _ _ h => h) (Or.inl ⟨by rfl, ?_⟩) ?_ ?_
                  rotate_left
                  · intro w'; go_simp; with_reducible rfl
                  rotate_left
                  · simp only [sxx]; rfl
                  refine pure_ (i := 19) (N := some 2) (v := ?_) (a' := ?_) bq67 rfl rfl (any_of HT_.out (by kernel_rfl)) (fun _ _ _ h => h) (Or.inl ⟨by rfl, ?_⟩) ?_ ?_
                  rotate_left
                  · intro w'; go_simp; with_reducible rfl
                  rotate_left
                  · simp only [sxx]; rfl
                  refine take_ (i := 15) (N := some 194) (v := ?_) (a' := ?_) bq68 rfl rfl (take_ofW HT_.out HW_.out (by kernel_rfl)) (fun _ _ _ h => h) (Or.inl ⟨by rfl, ?_⟩) hHeld ?_ ?_
                  rotate_left
                  · rintro w' ⟨s0, s1, s2, s3⟩
                    go_simp; with_reducible rfl
                  rotate_left
                  · simp only [sxx]; rfl
                  refine pure_ (i := 17) (N := some 196) (v := ?_) (a' := ?_) bq69 rfl rfl (any_of HT_.out (by kernel_rfl)) (fun _ _ _ h => h) (Or.inl ⟨by rfl, ?_⟩) ?_ ?_
                  rotate_left
                  · intro w'; go_simp; with_reducible rfl
                  rotate_left
                  · simp only [sxx]; rfl
                  refine pure_ (i := 18) (N := some 197) (v := ?_) (a' := ?_) bq59 rfl rfl (any_of HT_.out (by kernel_rfl)) (fun _ _ _ h => h) (Or.inl ⟨by rfl, ?_⟩) ?_ ?_
                  rotate_left
                  · intro w'; go_simp; with_reducible rfl
                  rotate_left
                  · simp only [sxx]; rfl
                  refine pure_ (i := 20) (N := some 3) (v := ?_) (a' := ?_) bq60 rfl rfl (any_of HT_.out (by kernel_rfl)) (fun _ _ _ h => h) (Or.inl ⟨by rfl, ?_⟩) ?_ ?_
                  rotate_left
                  · intro w'; go_simp; with_reducible rfl
                  rotate_left
                  · simp only [sxx]; rfl
                  refine done_ (done_of HT_.out (by kernel_rfl)) ?_
                  clear kp7 kp8 kp9 kp10
                  go_wp2
                  refine bodyPost_ret (results_tmp2 rfl _ _ _) rfl ?_
                  exact ⟨_, by rw [HB1.out, HEB.out, HSB.out, HF.out]; first | rfl | simp, HO2.out, below_step HA.out HU2.out⟩
              · have c1 : (vp == 0) = false := beq_eq_false_iff_ne.mpr h1
                have d1 := Aside0.mk h1
                clear h1
                have HF := Aside0.mk (show noView vn vp vb = false by unfold noView; rw [beq_eq_false_iff_ne.mpr d1.out]; simp)
                skip
                refine start_ (n := 21) (S := fun w' => w'.cell? ⟨p, 7, none⟩ = some (.int .i64 vn) ∧ w'.cell? ⟨p, 8, none⟩ = some (.int .i64 vp) ∧ w'.cell? ⟨p, 9, none⟩ = some (.int .i64 vb) ∧ w'.cell? ⟨p, 10, none⟩ = some (.int .i64 st)) (ds := []) bq39 (by kernel_rfl) rfl rfl ⟨kp7, kp8, kp9, kp10⟩ (fun hHeld => ?_)
                refine with_tabW rg31.tab22 rg31.bits22 (fun HT_ HW_ => ?_)
                refine pure_ (i := 0) (N := some 179) (v := ?_) (a' := ?_) bq40 rfl rfl (any_of HT_.out (by kernel_rfl)) (fun _ _ _ h => h) (Or.inl ⟨by rfl, ?_⟩) ?_ ?_
                rotate_left
                · intro w'; go_simp; with_reducible rfl
                rotate_left
                · simp only [sxx]; rfl
                refine pure_ (i := 4) (N := some 183) (v := ?_) (a' := ?_) bq61 rfl rfl (any_of HT_.out (by kernel_rfl)) (fun _ _ _ h => h) (Or.inl ⟨by rfl, ?_⟩) ?_ ?_
                rotate_left
                · intro w'; go_simp; with_reducible rfl
                rotate_left
                · simp only [sxx]; rfl
                refine take_ (i := 1) (N := some 180) (v := ?_) (a' := ?_) bq62 rfl rfl (take_ofW HT_.out HW_.out (by kernel_rfl)) (fun _ _ _ h => h) (Or.inl ⟨by rfl, ?_⟩) hHeld ?_ ?_
                rotate_left
                · rintro w' ⟨s0, s1, s2, s3⟩
                  go_simp; with_reducible rfl
                rotate_left
                · simp only [sxx]; rfl
                refine take_ (i := 5) (N := some 184) (v := ?_) (a' := ?_) bq63 rfl rfl (take_ofW HT_.out HW_.out (by kernel_rfl)) (fun _ _ _ h => h) (Or.inl ⟨by rfl, ?_⟩) hHeld ?_ ?_
                rotate_left
                · rintro w' ⟨s0, s1, s2, s3⟩
                  go_simp; with_reducible rfl
                rotate_left
                · simp only [sxx]; rfl
                refine one_ (i := 2) (N := some 181) bq64 rfl rfl (one_of HT_.out (by kernel_rfl)) (by decide) (fun K hK => ?_)
                refine value_ (w1 := ?_) (v := ?_) (by rfl) rfl ?_ ?_
                rotate_left 2
                · go_simp
                  constructor
                  · rfl
                  · rfl
                refine hK.out _ _ ⟨pw_cell_below (below_alloc (Below.refl _ _) _) kp7, pw_cell_below (below_alloc (Below.refl _ _) _) kp8, pw_cell_below (below_alloc (Below.refl _ _) _) kp9, pw_cell_below (below_alloc (Below.refl _ _) _) kp10⟩ (fun hHeld => ?_)
                clear hK K
                refine norm_ (a' := ?_) ?_ ?_
                rotate_left
                · show Act.put _ (some 181) _ = _
                  simp only [sxx]; rfl
                refine one_ (i := 3) (N := some 182) bq65 rfl rfl (one_of HT_.out (by kernel_rfl)) (by decide) (fun K hK => ?_)
                refine goes_ Try.func53 (by kernel_rfl) rfl #[.slice (some ⟨w2.drew.heap.size, 0, none⟩) 1 1] (by rfl) rfl rfl (by simp only [mxx]; rfl) ?_
                with_reducible refine (numbers_N (some ⟨w2.drew.heap.size, 0, none⟩) 1 1 [st] _ rfl (C_lit64 w2.drew [st] (by simp)) (by decide) (by simp)).mono ?_
                rintro e u1 ⟨B, m, cb, rfl, hl1, hl2, ho, hb⟩
                refine ⟨_, rfl, ?_⟩
                have HU1 := Aside0.mk (below_step (below_alloc (below_drew1 (Below.refl w2.heap.size w2)) _) hb)
                have HO1 := Aside0.mk (Kd.R_lower ho (Nat.le_trans HA.out.size (below_alloc (below_drew1 (Below.refl w2.heap.size w2)) (.cells (nums .i64 [st]).toArray 3)).size))
                clear hl1 hl2 ho hb
                refine hK.out _ _ ⟨pw_cell_below HU1.out K7.out, pw_cell_below HU1.out K8.out, pw_cell_below HU1.out K9.out, pw_cell_below HU1.out K10.out⟩ (fun hHeld => ?_)
                clear hK K
                refine norm_ (a' := ?_) ?_ ?_
                rotate_left
                · show Act.put _ (some 182) _ = _
                  simp only [sxx]; rfl
                refine one_ (i := 6) (N := some 185) bq46 rfl rfl (one_of HT_.out (by kernel_rfl)) (by decide) (fun K hK => ?_)
                refine goes_ Try.func57 (by kernel_rfl) rfl #[.int .i64 st] (by rfl) rfl rfl (by simp only [mxx]; rfl) ?_
                with_reducible refine (journal_number.calls st _ _ ((jnumber_eq st).trans (congrArg some HB1.out))).mono ?_
                rintro e u2 ⟨rfl, hb⟩
                refine ⟨_, rfl, ?_⟩
                have HU2 := Aside0.mk (below_step HU1.out hb.below)
                have HO2 := Aside0.mk (R8_keep HO1.out (fun k_ hk_ => (hb.below).block k_ (R8_lt HO1.out k_ hk_).2))
                clear hb
                refine hK.out _ _ ⟨pw_cell_below HU2.out K7.out, pw_cell_below HU2.out K8.out, pw_cell_below HU2.out K9.out, pw_cell_below HU2.out K10.out⟩ (fun hHeld => ?_)
                clear hK K
                refine norm_ (a' := ?_) ?_ ?_
                rotate_left
                · show Act.put _ (some 185) _ = _
                  simp only [sxx]; rfl
                refine pure_ (i := 7) (N := some 186) (v := ?_) (a' := ?_) bq47 rfl rfl (any_of HT_.out (by kernel_rfl)) (fun _ _ _ h => h) (Or.inl ⟨by rfl, ?_⟩) ?_ ?_
                rotate_left
                · intro w'; go_simp; with_reducible rfl
                rotate_left
                · simp only [sxx]; rfl
                refine pure_ (i := 8) (N := some 187) (v := ?_) (a' := ?_) bq48 rfl rfl (any_of HT_.out (by kernel_rfl)) (fun _ _ _ h => h) (Or.inl ⟨by rfl, ?_⟩) ?_ ?_
                rotate_left
                · intro w'; go_simp; with_reducible rfl
                rotate_left
                · simp only [sxx]; rfl
                refine pure_ (i := 9) (N := some 188) (v := ?_) (a' := ?_) bq49 rfl rfl (any_of HT_.out (by kernel_rfl)) (fun _ _ _ h => h) (Or.inl ⟨by rfl, ?_⟩) ?_ ?_
                rotate_left
                · intro w'; go_simp; with_reducible rfl
                rotate_left
                · simp only [sxx]; rfl
                refine pure_ (i := 10) (N := some 189) (v := ?_) (a' := ?_) bq50 rfl rfl (any_of HT_.out (by kernel_rfl)) (fun _ _ _ h => h) (Or.inl ⟨by rfl, ?_⟩) ?_ ?_
                rotate_left
                · intro w'; go_simp; with_reducible rfl
                rotate_left
                · simp only [sxx]; rfl
                refine pure_ (i := 11) (N := some 190) (v := ?_) (a' := ?_) bq51 rfl rfl (any_of HT_.out (by kernel_rfl)) (fun _ _ _ h => h) (Or.inl ⟨by rfl, ?_⟩) ?_ ?_
                rotate_left
                · intro w'; go_simp; with_reducible rfl
                rotate_left
                · simp only [sxx]; rfl
                refine pure_ (i := 12) (N := some 191) (v := ?_) (a' := ?_) bq52 rfl rfl (any_of HT_.out (by kernel_rfl)) (fun _ _ _ h => h) (Or.inl ⟨by rfl, ?_⟩) ?_ ?_
                rotate_left
                · intro w'; go_simp; with_reducible rfl
                rotate_left
                · simp only [sxx]; rfl
                refine pure_ (i := 13) (N := some 192) (v := ?_) (a' := ?_) bq53 rfl rfl (any_of HT_.out (by kernel_rfl)) (fun _ _ _ h => h) (Or.inl ⟨by rfl, ?_⟩) ?_ ?_
                rotate_left
                · intro w'; go_simp; with_reducible rfl
                rotate_left
                · simp only [sxx]; rfl
                refine pure_ (i := 14) (N := some 193) (v := ?_) (a' := ?_) bq54 rfl rfl (any_of HT_.out (by kernel_rfl)) (fun _ _ _ h => h) (Or.inl ⟨by rfl, ?_⟩) ?_ ?_
                rotate_left
                · intro w'; go_simp; with_reducible rfl
                rotate_left
                · simp only [sxx]; rfl
                refine pure_ (i := 16) (N := some 195) (v := ?_) (a' := ?_) bq66 rfl rfl (any_of HT_.out (by kernel_rfl)) (fun _ _ _ h => h) (Or.inl ⟨by rfl, ?_⟩) ?_ ?_
                rotate_left
                · intro w'; go_simp; with_reducible rfl
                rotate_left
                · simp only [sxx]; rfl
                refine pure_ (i := 19) (N := some 2) (v := ?_) (a' := ?_) bq67 rfl rfl (any_of HT_.out (by kernel_rfl)) (fun _ _ _ h => h) (Or.inl ⟨by rfl, ?_⟩) ?_ ?_
                rotate_left
                · intro w'; go_simp; with_reducible rfl
                rotate_left
                · simp only [sxx]; rfl
                refine take_ (i := 15) (N := some 194) (v := ?_) (a' := ?_) bq68 rfl rfl (take_ofW HT_.out HW_.out (by kernel_rfl)) (fun _ _ _ h => h) (Or.inl ⟨by rfl, ?_⟩) hHeld ?_ ?_
                rotate_left
                · rintro w' ⟨s0, s1, s2, s3⟩
                  go_simp; with_reducible rfl
                rotate_left
                · simp only [sxx]; rfl
                refine pure_ (i := 17) (N := some 196) (v := ?_) (a' := ?_) bq69 rfl rfl (any_of HT_.out (by kernel_rfl)) (fun _ _ _ h => h) (Or.inl ⟨by rfl, ?_⟩) ?_ ?_
                rotate_left
                · intro w'; go_simp; with_reducible rfl
                rotate_left
                · simp only [sxx]; rfl
                refine pure_ (i := 18) (N := some 197) (v := ?_) (a' := ?_) bq59 rfl rfl (any_of HT_.out (by kernel_rfl)) (fun _ _ _ h => h) (Or.inl ⟨by rfl, ?_⟩) ?_ ?_
                rotate_left
                · intro w'; go_simp; with_reducible rfl
                rotate_left
                · simp only [sxx]; rfl
                refine pure_ (i := 20) (N := some 3) (v := ?_) (a' := ?_) bq60 rfl rfl (any_of HT_.out (by kernel_rfl)) (fun _ _ _ h => h) (Or.inl ⟨by rfl, ?_⟩) ?_ ?_
                rotate_left
                · intro w'; go_simp; with_reducible rfl
                rotate_left
                · simp only [sxx]; rfl
                refine done_ (done_of HT_.out (by kernel_rfl)) ?_
                clear kp7 kp8 kp9 kp10
                go_wp2
                refine bodyPost_ret (results_tmp2 rfl _ _ _) rfl ?_
                exact ⟨_, by rw [HB1.out, HEB.out, HSB.out, HF.out]; first | rfl | simp, HO2.out, below_step HA.out HU2.out⟩
            · have c0 : (vn == 0) = false := beq_eq_false_iff_ne.mpr h0
              have d0 := Aside0.mk h0
              clear h0
              have HF := Aside0.mk (show noView vn vp vb = false by unfold noView; rw [beq_eq_false_iff_ne.mpr d0.out]; simp)
              skip
              refine start_ (n := 21) (S := fun w' => w'.cell? ⟨p, 7, none⟩ = some (.int .i64 vn) ∧ w'.cell? ⟨p, 8, none⟩ = some (.int .i64 vp) ∧ w'.cell? ⟨p, 9, none⟩ = some (.int .i64 vb) ∧ w'.cell? ⟨p, 10, none⟩ = some (.int .i64 st)) (ds := []) bq39 (by kernel_rfl) rfl rfl ⟨kp7, kp8, kp9, kp10⟩ (fun hHeld => ?_)
              refine with_tabW rg31.tab22 rg31.bits22 (fun HT_ HW_ => ?_)
              refine pure_ (i := 0) (N := some 179) (v := ?_) (a' := ?_) bq40 rfl rfl (any_of HT_.out (by kernel_rfl)) (fun _ _ _ h => h) (Or.inl ⟨by rfl, ?_⟩) ?_ ?_
              rotate_left
              · intro w'; go_simp; with_reducible rfl
              rotate_left
              · simp only [sxx]; rfl
              refine pure_ (i := 4) (N := some 183) (v := ?_) (a' := ?_) bq61 rfl rfl (any_of HT_.out (by kernel_rfl)) (fun _ _ _ h => h) (Or.inl ⟨by rfl, ?_⟩) ?_ ?_
              rotate_left
              · intro w'; go_simp; with_reducible rfl
              rotate_left
              · simp only [sxx]; rfl
              refine take_ (i := 1) (N := some 180) (v := ?_) (a' := ?_) bq62 rfl rfl (take_ofW HT_.out HW_.out (by kernel_rfl)) (fun _ _ _ h => h) (Or.inl ⟨by rfl, ?_⟩) hHeld ?_ ?_
              rotate_left
              · rintro w' ⟨s0, s1, s2, s3⟩
                go_simp; with_reducible rfl
              rotate_left
              · simp only [sxx]; rfl
              refine take_ (i := 5) (N := some 184) (v := ?_) (a' := ?_) bq63 rfl rfl (take_ofW HT_.out HW_.out (by kernel_rfl)) (fun _ _ _ h => h) (Or.inl ⟨by rfl, ?_⟩) hHeld ?_ ?_
              rotate_left
              · rintro w' ⟨s0, s1, s2, s3⟩
                go_simp; with_reducible rfl
              rotate_left
              · simp only [sxx]; rfl
              refine one_ (i := 2) (N := some 181) bq64 rfl rfl (one_of HT_.out (by kernel_rfl)) (by decide) (fun K hK => ?_)
              refine value_ (w1 := ?_) (v := ?_) (by rfl) rfl ?_ ?_
              rotate_left 2
              · go_simp
                constructor
                · rfl
                · rfl
              refine hK.out _ _ ⟨pw_cell_below (below_alloc (Below.refl _ _) _) kp7, pw_cell_below (below_alloc (Below.refl _ _) _) kp8, pw_cell_below (below_alloc (Below.refl _ _) _) kp9, pw_cell_below (below_alloc (Below.refl _ _) _) kp10⟩ (fun hHeld => ?_)
              clear hK K
              refine norm_ (a' := ?_) ?_ ?_
              rotate_left
              · show Act.put _ (some 181) _ = _
                simp only [sxx]; rfl
              refine one_ (i := 3) (N := some 182) bq65 rfl rfl (one_of HT_.out (by kernel_rfl)) (by decide) (fun K hK => ?_)
              refine goes_ Try.func53 (by kernel_rfl) rfl #[.slice (some ⟨w2.drew.heap.size, 0, none⟩) 1 1] (by rfl) rfl rfl (by simp only [mxx]; rfl) ?_
              with_reducible refine (numbers_N (some ⟨w2.drew.heap.size, 0, none⟩) 1 1 [st] _ rfl (C_lit64 w2.drew [st] (by simp)) (by decide) (by simp)).mono ?_
              rintro e u1 ⟨B, m, cb, rfl, hl1, hl2, ho, hb⟩
              refine ⟨_, rfl, ?_⟩
              have HU1 := Aside0.mk (below_step (below_alloc (below_drew1 (Below.refl w2.heap.size w2)) _) hb)
              have HO1 := Aside0.mk (Kd.R_lower ho (Nat.le_trans HA.out.size (below_alloc (below_drew1 (Below.refl w2.heap.size w2)) (.cells (nums .i64 [st]).toArray 3)).size))
              clear hl1 hl2 ho hb
              refine hK.out _ _ ⟨pw_cell_below HU1.out K7.out, pw_cell_below HU1.out K8.out, pw_cell_below HU1.out K9.out, pw_cell_below HU1.out K10.out⟩ (fun hHeld => ?_)
              clear hK K
              refine norm_ (a' := ?_) ?_ ?_
              rotate_left
              · show Act.put _ (some 182) _ = _
                simp only [sxx]; rfl
              refine one_ (i := 6) (N := some 185) bq46 rfl rfl (one_of HT_.out (by kernel_rfl)) (by decide) (fun K hK => ?_)
              refine goes_ Try.func57 (by kernel_rfl) rfl #[.int .i64 st] (by rfl) rfl rfl (by simp only [mxx]; rfl) ?_
              with_reducible refine (journal_number.calls st _ _ ((jnumber_eq st).trans (congrArg some HB1.out))).mono ?_
              rintro e u2 ⟨rfl, hb⟩
              refine ⟨_, rfl, ?_⟩
              have HU2 := Aside0.mk (below_step HU1.out hb.below)
              have HO2 := Aside0.mk (R8_keep HO1.out (fun k_ hk_ => (hb.below).block k_ (R8_lt HO1.out k_ hk_).2))
              clear hb
              refine hK.out _ _ ⟨pw_cell_below HU2.out K7.out, pw_cell_below HU2.out K8.out, pw_cell_below HU2.out K9.out, pw_cell_below HU2.out K10.out⟩ (fun hHeld => ?_)
              clear hK K
              refine norm_ (a' := ?_) ?_ ?_
              rotate_left
              · show Act.put _ (some 185) _ = _
                simp only [sxx]; rfl
              refine pure_ (i := 7) (N := some 186) (v := ?_) (a' := ?_) bq47 rfl rfl (any_of HT_.out (by kernel_rfl)) (fun _ _ _ h => h) (Or.inl ⟨by rfl, ?_⟩) ?_ ?_
              rotate_left
              · intro w'; go_simp; with_reducible rfl
              rotate_left
              · simp only [sxx]; rfl
              refine pure_ (i := 8) (N := some 187) (v := ?_) (a' := ?_) bq48 rfl rfl (any_of HT_.out (by kernel_rfl)) (fun _ _ _ h => h) (Or.inl ⟨by rfl, ?_⟩) ?_ ?_
              rotate_left
              · intro w'; go_simp; with_reducible rfl
              rotate_left
              · simp only [sxx]; rfl
              refine pure_ (i := 9) (N := some 188) (v := ?_) (a' := ?_) bq49 rfl rfl (any_of HT_.out (by kernel_rfl)) (fun _ _ _ h => h) (Or.inl ⟨by rfl, ?_⟩) ?_ ?_
              rotate_left
              · intro w'; go_simp; with_reducible rfl
              rotate_left
              · simp only [sxx]; rfl
              refine pure_ (i := 10) (N := some 189) (v := ?_) (a' := ?_) bq50 rfl rfl (any_of HT_.out (by kernel_rfl)) (fun _ _ _ h => h) (Or.inl ⟨by rfl, ?_⟩) ?_ ?_
              rotate_left
              · intro w'; go_simp; with_reducible rfl
              rotate_left
              · simp only [sxx]; rfl
              refine pure_ (i := 11) (N := some 190) (v := ?_) (a' := ?_) bq51 rfl rfl (any_of HT_.out (by kernel_rfl)) (fun _ _ _ h => h) (Or.inl ⟨by rfl, ?_⟩) ?_ ?_
              rotate_left
              · intro w'; go_simp; with_reducible rfl
              rotate_left
              · simp only [sxx]; rfl
              refine pure_ (i := 12) (N := some 191) (v := ?_) (a' := ?_) bq52 rfl rfl (any_of HT_.out (by kernel_rfl)) (fun _ _ _ h => h) (Or.inl ⟨by rfl, ?_⟩) ?_ ?_
              rotate_left
              · intro w'; go_simp; with_reducible rfl
              rotate_left
              · simp only [sxx]; rfl
              refine pure_ (i := 13) (N := some 192) (v := ?_) (a' := ?_) bq53 rfl rfl (any_of HT_.out (by kernel_rfl)) (fun _ _ _ h => h) (Or.inl ⟨by rfl, ?_⟩) ?_ ?_
              rotate_left
              · intro w'; go_simp; with_reducible rfl
              rotate_left
              · simp only [sxx]; rfl
              refine pure_ (i := 14) (N := some 193) (v := ?_) (a' := ?_) bq54 rfl rfl (any_of HT_.out (by kernel_rfl)) (fun _ _ _ h => h) (Or.inl ⟨by rfl, ?_⟩) ?_ ?_
              rotate_left
              · intro w'; go_simp; with_reducible rfl
              rotate_left
              · simp only [sxx]; rfl
              refine pure_ (i := 16) (N := some 195) (v := ?_) (a' := ?_) bq66 rfl rfl (any_of HT_.out (by kernel_rfl)) (fun _ _ _ h => h) (Or.inl ⟨by rfl, ?_⟩) ?_ ?_
              rotate_left
              · intro w'; go_simp; with_reducible rfl
              rotate_left
              · simp only [sxx]; rfl
              refine pure_ (i := 19) (N := some 2) (v := ?_) (a' := ?_) bq67 rfl rfl (any_of HT_.out (by kernel_rfl)) (fun _ _ _ h => h) (Or.inl ⟨by rfl, ?_⟩) ?_ ?_
              rotate_left
              · intro w'; go_simp; with_reducible rfl
              rotate_left
              · simp only [sxx]; rfl
              refine take_ (i := 15) (N := some 194) (v := ?_) (a' := ?_) bq68 rfl rfl (take_ofW HT_.out HW_.out (by kernel_rfl)) (fun _ _ _ h => h) (Or.inl ⟨by rfl, ?_⟩) hHeld ?_ ?_
              rotate_left
              · rintro w' ⟨s0, s1, s2, s3⟩
                go_simp; with_reducible rfl
              rotate_left
              · simp only [sxx]; rfl
              refine pure_ (i := 17) (N := some 196) (v := ?_) (a' := ?_) bq69 rfl rfl (any_of HT_.out (by kernel_rfl)) (fun _ _ _ h => h) (Or.inl ⟨by rfl, ?_⟩) ?_ ?_
              rotate_left
              · intro w'; go_simp; with_reducible rfl
              rotate_left
              · simp only [sxx]; rfl
              refine pure_ (i := 18) (N := some 197) (v := ?_) (a' := ?_) bq59 rfl rfl (any_of HT_.out (by kernel_rfl)) (fun _ _ _ h => h) (Or.inl ⟨by rfl, ?_⟩) ?_ ?_
              rotate_left
              · intro w'; go_simp; with_reducible rfl
              rotate_left
              · simp only [sxx]; rfl
              refine pure_ (i := 20) (N := some 3) (v := ?_) (a' := ?_) bq60 rfl rfl (any_of HT_.out (by kernel_rfl)) (fun _ _ _ h => h) (Or.inl ⟨by rfl, ?_⟩) ?_ ?_
              rotate_left
              · intro w'; go_simp; with_reducible rfl
              rotate_left
              · simp only [sxx]; rfl
              refine done_ (done_of HT_.out (by kernel_rfl)) ?_
              clear kp7 kp8 kp9 kp10
              go_wp2
              refine bodyPost_ret (results_tmp2 rfl _ _ _) rfl ?_
              exact ⟨_, by rw [HB1.out, HEB.out, HSB.out, HF.out]; first | rfl | simp, HO2.out, below_step HA.out HU2.out⟩
set_option maxHeartbeats 64000000 in
set_option maxRecDepth 100000 in
theorem body_C7 (kd s v k se rq : Int) (A : Option Addr) (c n : Nat) (l : List S40) (vn vp vb st of : Int) (x : ByteArray) (w : World) (hk : kd < 1 ∨ 6 < kd) (hn : l.length = n) (hC : Kd.C k40 w A n l) (hc : n ≤ c) (r1 : List Int) (r2 : Bool) (hr : recBody kd s v k se rq l vn vp vb st of x = (r1, r2)) :
    Calls Try.prog 31 #[.agg #[.int .i64 kd, .int .i64 s, .int .i64 v, .int .i64 k, .int .i64 se, .int .i64 rq, .slice A n c, .int .i64 vn, .int .i64 vp, .int .i64 vb, .int .i64 st, .int .i64 of, .string x]] w fun e w' => ∃ V, e = .returned (.tuple #[V, .bool r2]) ∧ R8 w' w.heap.size V r1 ∧ Below w.heap.size w w' := by
  have hu24 := Try.underlying24
  have hu26 := Try.underlying26
  have hu28 := Try.underlying28
  have HKK := Aside0.mk hk
  clear hk
  have HN := Aside0.mk hn
  have HC := Aside0.mk hC
  have HCC := Aside0.mk hc
  have HR := Aside0.mk hr
  clear hn hC hc hr
  go_enter Try.func31, Try.ntmps31
  go_upto_region 2 with (fail)
  obtain ⟨p, hp⟩ : ∃ p, p = w.heap.size := ⟨_, rfl⟩
  obtain ⟨q, hq⟩ : ∃ q, q = w.heap.size + 1 := ⟨_, rfl⟩
  obtain ⟨w1, hw1⟩ : ∃ w1, w1 = w.alloc (.cells #[.int .i64 kd, .int .i64 s, .int .i64 v, .int .i64 k, .int .i64 se, .int .i64 rq, .slice A n c, .int .i64 vn, .int .i64 vp, .int .i64 vb, .int .i64 st, .int .i64 of, .string x] 28) := ⟨_, rfl⟩
  obtain ⟨w2, hw2⟩ : ∃ w2, w2 = w1.alloc (.cells #[.int .i64 s, .int .i64 v, .int .i64 k, .int .i64 se, .int .i64 rq, .slice A n c] 24) := ⟨_, rfl⟩
  try simp only [Act.put, sx1, sx2, sx3]
  rw [← hw1, ← hw2]
  try rw [← hq]
  rw [← hp]
  have hz1 : w1.heap.size = w.heap.size + 1 := by rw [hw1]; simp
  have HA1 := Aside0.mk (show Below w.heap.size w w1 by rw [hw1]; exact below_alloc (Below.refl _ _) _)
  have HA := Aside0.mk (show Below w.heap.size w w2 by rw [hw2]; exact below_alloc HA1.out _)
  have HPB := Aside0.mk (show w2.heap[p]? = some (.cells #[.int .i64 kd, .int .i64 s, .int .i64 v, .int .i64 k, .int .i64 se, .int .i64 rq, .slice A n c, .int .i64 vn, .int .i64 vp, .int .i64 vb, .int .i64 st, .int .i64 of, .string x] 28 (0, 0)) by
    rw [hw2]
    refine (Below.heap_alloc _ _ _ (by omega)).trans ?_
    rw [hw1, hp]; exact heap_alloc_new w _)
  have HQB := Aside0.mk (show w2.heap[q]? = some (.cells #[.int .i64 s, .int .i64 v, .int .i64 k, .int .i64 se, .int .i64 rq, .slice A n c] 24 (0, 0)) by rw [hw2, hq, ← hz1]; exact heap_alloc_new w1 _)
  clear hp hq hw1 hw2 hz1 HA1
  have kp0 : w2.cell? ⟨p, 0, none⟩ = some (.int .i64 kd) := blk_cell (HPB.out) 0
  have kp1 : w2.cell? ⟨p, 1, none⟩ = some (.int .i64 s) := blk_cell (HPB.out) 1
  have kp2 : w2.cell? ⟨p, 2, none⟩ = some (.int .i64 v) := blk_cell (HPB.out) 2
  have kp3 : w2.cell? ⟨p, 3, none⟩ = some (.int .i64 k) := blk_cell (HPB.out) 3
  have kp4 : w2.cell? ⟨p, 4, none⟩ = some (.int .i64 se) := blk_cell (HPB.out) 4
  have kp5 : w2.cell? ⟨p, 5, none⟩ = some (.int .i64 rq) := blk_cell (HPB.out) 5
  have kp6 : w2.cell? ⟨p, 6, none⟩ = some (.slice A n c) := blk_cell (HPB.out) 6
  have kp7 : w2.cell? ⟨p, 7, none⟩ = some (.int .i64 vn) := blk_cell (HPB.out) 7
  have kp8 : w2.cell? ⟨p, 8, none⟩ = some (.int .i64 vp) := blk_cell (HPB.out) 8
  have kp9 : w2.cell? ⟨p, 9, none⟩ = some (.int .i64 vb) := blk_cell (HPB.out) 9
  have kp10 : w2.cell? ⟨p, 10, none⟩ = some (.int .i64 st) := blk_cell (HPB.out) 10
  have kp11 : w2.cell? ⟨p, 11, none⟩ = some (.int .i64 of) := blk_cell (HPB.out) 11
  have kp12 : w2.cell? ⟨p, 12, none⟩ = some (.string x) := blk_cell (HPB.out) 12
  have kq0 : w2.cell? ⟨q, 0, none⟩ = some (.int .i64 s) := blk_cell (HQB.out) 0
  have kq1 : w2.cell? ⟨q, 1, none⟩ = some (.int .i64 v) := blk_cell (HQB.out) 1
  have kq2 : w2.cell? ⟨q, 2, none⟩ = some (.int .i64 k) := blk_cell (HQB.out) 2
  have kq3 : w2.cell? ⟨q, 3, none⟩ = some (.int .i64 se) := blk_cell (HQB.out) 3
  have kq4 : w2.cell? ⟨q, 4, none⟩ = some (.int .i64 rq) := blk_cell (HQB.out) 4
  have kq5 : w2.cell? ⟨q, 5, none⟩ = some (.slice A n c) := blk_cell (HQB.out) 5
  go_cut [5] (fun v5 wc => v5 = .bool (blankE s v k se rq l) ∧ w2 = wc)
  case first =>
    by_cases h0 : s = 0
    · have c0 : (s == 0) = true := beq_iff_eq.mpr h0
      have d0 := Aside0.mk h0
      clear h0
      by_cases h1 : v = 0
      · have c1 : (v == 0) = true := beq_iff_eq.mpr h1
        have d1 := Aside0.mk h1
        clear h1
        by_cases h2 : k = 0
        · have c2 : (k == 0) = true := beq_iff_eq.mpr h2
          have d2 := Aside0.mk h2
          clear h2
          by_cases h3 : se = 0
          · have c3 : (se == 0) = true := beq_iff_eq.mpr h3
            have d3 := Aside0.mk h3
            clear h3
            by_cases h4 : rq = 0
            · have c4 : (rq == 0) = true := beq_iff_eq.mpr h4
              have d4 := Aside0.mk h4
              clear h4
              have HF := Aside0.mk (show blankE s v k se rq l = ((n : Int) == 0) by
                unfold blankE
                rw [HN.out, d0.out, d1.out, d2.out, d3.out, d4.out]
                by_cases h : n = 0
                · rw [h]; rfl
                · rw [decide_eq_false h, show ((n : Int) == 0) = false from beq_eq_false_iff_ne.mpr (by omega)]; rfl)
              go_wp2; go_meet
              case rel => exact ⟨by rw [HF.out], rfl⟩
            · have c4 : (rq == 0) = false := beq_eq_false_iff_ne.mpr h4
              have d4 := Aside0.mk h4
              clear h4
              have HF := Aside0.mk (show blankE s v k se rq l = false by unfold blankE; rw [beq_eq_false_iff_ne.mpr d4.out]; simp)
              go_wp2; go_meet
              case rel => exact ⟨by rw [HF.out], rfl⟩
          · have c3 : (se == 0) = false := beq_eq_false_iff_ne.mpr h3
            have d3 := Aside0.mk h3
            clear h3
            have HF := Aside0.mk (show blankE s v k se rq l = false by unfold blankE; rw [beq_eq_false_iff_ne.mpr d3.out]; simp)
            go_wp2; go_meet
            case rel => exact ⟨by rw [HF.out], rfl⟩
        · have c2 : (k == 0) = false := beq_eq_false_iff_ne.mpr h2
          have d2 := Aside0.mk h2
          clear h2
          have HF := Aside0.mk (show blankE s v k se rq l = false by unfold blankE; rw [beq_eq_false_iff_ne.mpr d2.out]; simp)
          go_wp2; go_meet
          case rel => exact ⟨by rw [HF.out], rfl⟩
      · have c1 : (v == 0) = false := beq_eq_false_iff_ne.mpr h1
        have d1 := Aside0.mk h1
        clear h1
        have HF := Aside0.mk (show blankE s v k se rq l = false by unfold blankE; rw [beq_eq_false_iff_ne.mpr d1.out]; simp)
        go_wp2; go_meet
        case rel => exact ⟨by rw [HF.out], rfl⟩
    · have c0 : (s == 0) = false := beq_eq_false_iff_ne.mpr h0
      have d0 := Aside0.mk h0
      clear h0
      have HF := Aside0.mk (show blankE s v k se rq l = false by unfold blankE; rw [beq_eq_false_iff_ne.mpr d0.out]; simp)
      go_wp2; go_meet
      case rel => exact ⟨by rw [HF.out], rfl⟩
  case rest =>
    obtain ⟨rfl, rfl⟩ := hcut
    obtain ⟨eb, heb⟩ : ∃ eb, blankE s v k se rq l = eb := ⟨_, rfl⟩
    rw [heb]
    have HEB := Aside0.mk heb
    clear heb
    go_upto_region 3 with (fail)
    go_cut [6] (fun v6 wc => v6 = .bool (noState of x) ∧ w2 = wc)
    case first =>
      by_cases h0 : x.toList = []
      · have c0 : (x.toList == ([] : List UInt8)) = true := beq_iff_eq.mpr h0
        have c1 : decide (x.toList = []) = true := decide_eq_true h0
        have d0 := Aside0.mk h0
        have HF := Aside0.mk (show noState of x = (of == 0) by unfold noState; rw [decide_eq_true d0.out]; simp)
        clear h0
        go_wp2; go_meet
        case rel => exact ⟨by rw [HF.out], rfl⟩
      · have c0 : (x.toList == ([] : List UInt8)) = false := beq_eq_false_iff_ne.mpr h0
        have c1 : decide (x.toList = []) = false := decide_eq_false h0
        have d0 := Aside0.mk h0
        clear h0
        have HF := Aside0.mk (show noState of x = false by unfold noState; rw [decide_eq_false d0.out]; simp)
        go_wp2; go_meet
        case rel => exact ⟨by rw [HF.out], rfl⟩
    case rest =>
      obtain ⟨rfl, rfl⟩ := hcut
      obtain ⟨sb, hsb⟩ : ∃ sb, noState of x = sb := ⟨_, rfl⟩
      rw [hsb]
      have HSB := Aside0.mk hsb
      clear hsb
      have hk := HKK.out
      have k1 := Aside0.mk (show ¬ kd = 1 by omega)
      have e1 : (kd == 1) = false := beq_eq_false_iff_ne.mpr (by omega)
      have k2 := Aside0.mk (show ¬ kd = 2 by omega)
      have e2 : (kd == 2) = false := beq_eq_false_iff_ne.mpr (by omega)
      have k3 := Aside0.mk (show ¬ kd = 3 by omega)
      have e3 : (kd == 3) = false := beq_eq_false_iff_ne.mpr (by omega)
      have k4 := Aside0.mk (show ¬ kd = 4 by omega)
      have e4 : (kd == 4) = false := beq_eq_false_iff_ne.mpr (by omega)
      have k5 := Aside0.mk (show ¬ kd = 5 by omega)
      have e5 : (kd == 5) = false := beq_eq_false_iff_ne.mpr (by omega)
      have k6 := Aside0.mk (show ¬ kd = 6 by omega)
      have e6 : (kd == 6) = false := beq_eq_false_iff_ne.mpr (by omega)
      clear hk
      have hr := HR.out
      unfold recBody at hr
      rw [if_neg k1.out, if_neg k2.out, if_neg k3.out, if_neg k4.out, if_neg k5.out, if_neg k6.out] at hr
      simp only [Prod.mk.injEq] at hr
      obtain ⟨rfl, rfl⟩ := hr
      clear HR
      go_wp2
      refine bodyPost_ret (results_tmp2 rfl _ _ _) rfl ?_
      exact ⟨_, rfl, Kd.R_nil _ _ _ _ _, HA.out⟩
theorem body_C (kd s v k se rq : Int) (A : Option Addr) (c n : Nat) (l : List S40) (vn vp vb st of : Int) (x : ByteArray) (w : World) (hn : l.length = n) (hC : Kd.C k40 w A n l) (hc : n ≤ c) (r1 : List Int) (r2 : Bool) (hr : recBody kd s v k se rq l vn vp vb st of x = (r1, r2)) :
    Calls Try.prog 31 #[.agg #[.int .i64 kd, .int .i64 s, .int .i64 v, .int .i64 k, .int .i64 se, .int .i64 rq, .slice A n c, .int .i64 vn, .int .i64 vp, .int .i64 vb, .int .i64 st, .int .i64 of, .string x]] w fun e w' => ∃ V, e = .returned (.tuple #[V, .bool r2]) ∧ R8 w' w.heap.size V r1 ∧ Below w.heap.size w w' := by
  by_cases h : kd < 1 ∨ 6 < kd
  · exact body_C7 kd s v k se rq A c n l vn vp vb st of x w h hn hC hc r1 r2 hr
  by_cases h1 : kd = 1
  · exact body_C1 kd s v k se rq A c n l vn vp vb st of x w h1 hn hC hc r1 r2 hr
  by_cases h2 : kd = 2
  · exact body_C2 kd s v k se rq A c n l vn vp vb st of x w h2 hn hC hc r1 r2 hr
  by_cases h3 : kd = 3
  · exact body_C3 kd s v k se rq A c n l vn vp vb st of x w h3 hn hC hc r1 r2 hr
  by_cases h4 : kd = 4
  · exact body_C4 kd s v k se rq A c n l vn vp vb st of x w h4 hn hC hc r1 r2 hr
  by_cases h5 : kd = 5
  · exact body_C5 kd s v k se rq A c n l vn vp vb st of x w h5 hn hC hc r1 r2 hr
  exact body_C6 kd s v k se rq A c n l vn vp vb st of x w (by omega) hn hC hc r1 r2 hr
end Go.Proofs.Ytdbniihjkiecbaa.PW
