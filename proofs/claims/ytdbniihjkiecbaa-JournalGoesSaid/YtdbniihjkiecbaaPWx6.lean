/- The machine's side of functions, in one namespace: each function's call comes to what its Lean function tells. -/
import Derived.Test.YtdbniihjkiecbaaPWx0
namespace Go.Proofs.Ytdbniihjkiecbaa.PW
open Go.RowKit Go.Proofs.YtdbniihjkiecbaaW.PrintWords Go.Proofs.YtdbniihjkiecbaaW.PrintLast Go.Proofs.YtdbniihjkiecbaaW.PrintMore
attribute [local go_sem] max2_int min2_int max_two min_two max_three min_three max_four min_four   -- for this text's walks alone
set_option linter.unusedVariables false
set_option linter.unusedSimpArgs false

/-! ### heraldref3_EncodeEntry: function 47 -/
/-- All but the blocks of S (and what is new) is as it was. -/
structure Frm (w w' : World) (S : Nat → Prop) : Prop where
  os : w'.os = w.os
  tape : w'.tape = w.tape
  output : w'.output = w.output
  size : w.heap.size ≤ w'.heap.size
  block : ∀ k, k < w.heap.size → ¬ S k → w'.heap[k]? = w.heap[k]?
section
variable {w w1 w2 : World} {S S1 S2 : Nat → Prop}
theorem Frm.refl (w : World) (S : Nat → Prop) : Frm w w S := ⟨rfl, rfl, rfl, Nat.le_refl _, fun _ _ _ => rfl⟩
theorem Frm.mono (h : Frm w w1 S) (hs : ∀ k, S k → k < w.heap.size → S1 k) : Frm w w1 S1 := ⟨h.os, h.tape, h.output, h.size, fun k hk hn => h.block k hk (fun hS => hn (hs k hS hk))⟩
theorem Frm.then_ (h : Frm w w1 S) (k : Frm w1 w2 S1) (hs : ∀ k, S1 k → k < w.heap.size → S k) : Frm w w2 S :=
  ⟨k.os.trans h.os, k.tape.trans h.tape, k.output.trans h.output, Nat.le_trans h.size k.size, fun i hi hn => (k.block i (Nat.lt_of_lt_of_le hi h.size) (fun h1 => hn (hs i h1 hi))).trans (h.block i hi hn)⟩
theorem Frm.of_below (h : Below w.heap.size w w1) (S : Nat → Prop) : Frm w w1 S := ⟨h.os, h.tape, h.output, h.size, fun k hk _ => h.block k hk⟩
theorem Frm.of_grown {row : Option Nat} (h : w.grownBy w1 row) (hs : ∀ k, row = some k → S k) : Frm w w1 S := ⟨h.os, h.tape, h.output, h.size, fun k hk hn => h.block k hk (fun e => hn (hs k e.symm))⟩
theorem Frm.set_ (h : Frm w w1 S) {p : Addr} (hp : S p.block ∨ w.heap.size ≤ p.block) (u : Value) : Frm w (w1.setCell p u) S :=
  ⟨h.os, h.tape, h.output, by simpa [World.setCell] using h.size, fun k hk hn => (Below.heap_setCell w1 p u k (fun e => hp.elim (fun h2 => hn (e ▸ h2)) (fun h2 => by omega))).trans (h.block k hk hn)⟩
theorem Frm.below {B : Nat} (h : Frm w w1 S) (hs : ∀ k, S k → k < w.heap.size → B ≤ k) (hB : B ≤ w.heap.size) : Below B w w1 := ⟨h.os, h.tape, h.output, h.size, fun k hk => h.block k (by omega) (fun h2 => by have := hs k h2 (by omega); omega)⟩
theorem Frm.drew (h : Frm w w1 S) : Frm w w1.drew S := ⟨h.os, h.tape, h.output, h.size, h.block⟩
theorem Frm.alloc (h : Frm w w1 S) (o : Obj) : Frm w (w1.alloc o) S := h.then_ (Frm.of_below (below_alloc (Below.refl _ _) o) (fun _ => False)) (fun _ hk => hk.elim)
theorem Frm.step (h : Frm w w1 S) (k : Below w1.heap.size w1 w2) : Frm w w2 S := h.then_ (Frm.of_below k (fun _ => False)) (fun _ hk => hk.elim)
theorem Frm.blk {g : Nat} {o : Obj} (h : Frm w w1 S) (hb : w.heap[g]? = some o) (hn : ¬ S g) : w1.heap[g]? = some o := (h.block g (blk_lt hb) hn).trans hb
end
/-- What a stream's call writes lies from N on. -/
theorem below_frm {w wr w1 : World} {N : Nat} {S : Nat → Prop} (hb : Below w.heap.size w wr) (hf : Frm wr w1 S) (hS : ∀ k, S k → N ≤ k) (hN : w.heap.size ≤ N) : Below w.heap.size w w1 :=
  hb.trans ⟨hf.os, hf.tape, hf.output, hf.size, fun k hk => hf.block k (Nat.lt_of_lt_of_le hk hb.size) (fun h2 => by have := hS k h2; omega)⟩
theorem add0 (g i : Nat) : (⟨g, 0, none⟩ : Addr).add i = ⟨g, i, none⟩ := by unfold Addr.add; split <;> simp_all
section
variable {W w1 : World} {base e sz n m : Nat} {v v0 v1 : Value} {xs ys X Y : List Value}
theorem own_step (h : W.ownsRow base e sz v n xs) (hm : ∀ k, v.ownBlock = some k → w1.heap[k]? = W.heap[k]?) : w1.ownsRow base e sz v n xs := by
  refine ⟨h.1, ?_⟩
  rcases h.2 with h2 | ⟨g, cap, cur, rfl, h3, h4, h5⟩
  · exact .inl h2
  · exact .inr ⟨g, cap, cur, rfl, h3, (hm g rfl).trans h4, h5⟩
theorem own_type (h : W.ownsRow base e sz v n xs) : ∀ k, v.ownBlock = some k → ∃ cells, W.heap[k]? = some (.cells cells e (0, 0)) := by
  intro k hk
  rcases h.2 with ⟨rfl, _⟩ | ⟨g, cap, cur, rfl, h3, h4, h5⟩
  · simp [Value.ownBlock] at hk
  · cases hk
    exact ⟨cur, h4⟩
theorem own_some (h : W.ownsRow base e sz v n xs) (hn : 0 < n) : ∃ g c cur, v = .slice (some ⟨g, 0, none⟩) n c ∧ n ≤ c ∧ base ≤ g ∧ W.heap[g]? = some (.cells cur e (0, 0)) ∧ n * sz ≤ cur.size := by
  rcases h.2 with ⟨rfl, rfl⟩ | ⟨g, cap, cur, rfl, h3, h4, h5, h6, h7, h8⟩
  · omega
  · exact ⟨g, cap, cur, rfl, h5, h3, h4, by rw [h7]; exact Nat.mul_le_mul_right _ h5⟩
end
def typed (W : World) (t : Nat) (q : Nat) : Prop := ∃ cells, W.heap[q]? = some (.cells cells t (0, 0))
theorem typed_ne {W : World} {t t' q : Nat} (h : typed W t q) (h' : typed W t' q) : t = t' := by
  obtain ⟨c, h⟩ := h
  obtain ⟨c', h'⟩ := h'
  rw [h] at h'
  cases h'
  rfl
theorem R8_lt {W : World} {base : Nat} {v : Value} {l : List Int} (h : R8 W base v l) : ∀ q, v.ownBlock = some q → base ≤ q ∧ q < W.heap.size := (R8_own h).lt
theorem R8_keep {W W1 : World} {base : Nat} {v : Value} {l : List Int} (h : R8 W base v l) (hm : ∀ k, v.ownBlock = some k → W1.heap[k]? = W.heap[k]?) : R8 W1 base v l := own_R8 (own_step (R8_own h) hm)
theorem R8_C {W : World} {base : Nat} {A : Option Addr} {n c : Nat} {l : List Int} (h : R8 W base (.slice A n c) l) : C8 W A n l := by
  have h2 := Kd.R_reads' h
  have hn := h2.1
  subst hn
  exact h2.2.2
theorem R8_form {W : World} {base : Nat} {v : Value} {l : List Int} (h : R8 W base v l) : ∃ A n c, v = .slice A n c ∧ l.length = n ∧ n ≤ c := by
  obtain ⟨A, c, e, h1, h2⟩ := Kd.R_reads h
  exact ⟨A, _, c, e, rfl, h1⟩
/-- Bytes gathered in the one field of block g. -/
def PageAt (W : World) (base t g : Nat) (L : List Int) : Prop := base ≤ g ∧ ∃ v, W.heap[g]? = some (.cells #[v] t (0, 0)) ∧ R8 W base v L
/-- What a call on it may write. -/
def pg (w : World) (base g q : Nat) : Prop := base ≤ q ∧ (q = g ∨ typed w 5 q)
theorem numEnc_len (v : Int) : (numEnc v).1.length ≤ 5 := by
  unfold numEnc
  split
  · simp
  · exact numBytes_len 4 v
theorem numEnc_ok {v : Int} (h0 : 0 ≤ v) (h1 : v ≤ 2147483647) : numEnc v = (numBytes 4 v, 0) := by
  unfold numEnc
  rw [if_neg (by omega)]
theorem textEnc_ok {s : ByteArray} (h : s.size ≤ 262144) : textEnc s = (numBytes 4 s.size ++ bytesOf s, 0) := by
  unfold textEnc
  rw [if_neg (by omega)]
theorem textEnc_len {s : ByteArray} : (textEnc s).1.length ≤ 5 + 262144 := by
  unfold textEnc
  split
  · simp
  · have := numBytes_len 4 (s.size : Int)
    have hb : (bytesOf s).length = s.size := by simp [bytesOf]
    simp only [List.length_append, hb]
    omega
theorem page_end {w w1 w2 : World} {base t g : Nat} {v0 v2 : Value} {L M : List Int} (ht : t ≠ 5) (hb : base ≤ g) (hg : w.heap[g]? = some (.cells #[v0] t (0, 0))) (ho : R8 w base v0 L) (hb1 : Below w.heap.size w w1) (ho2 : R8 w2 base v2 M) (hg2 : w1.grownBy w2 v0.ownBlock) :
    PageAt (w2.setCell ⟨g, 0, none⟩ v2) base t g M ∧ Frm w (w2.setCell ⟨g, 0, none⟩ v2) (pg w base g) := by
  have hlt := blk_lt hg
  have hne : v0.ownBlock ≠ some g := fun e => ht (typed_ne ⟨_, hg⟩ (own_type (R8_own ho) g e))
  have h1 : w1.heap[g]? = some (.cells #[v0] t (0, 0)) := (hb1.block g hlt).trans hg
  have h2 : w2.heap[g]? = some (.cells #[v0] t (0, 0)) := (hg2.block g (blk_lt h1) (fun e => hne e.symm)).trans h1
  refine ⟨⟨hb, v2, blk_put h2 0 v2 rfl, R8_keep ho2 (fun k hk => Below.heap_setCell _ _ _ _ (fun e => ?_))⟩, ?_⟩
  · subst e
    exact ht (typed_ne ⟨_, h2⟩ (own_type (R8_own ho2) _ hk))
  · refine Frm.set_ (p := ⟨g, 0, none⟩) ((Frm.of_below hb1 _).then_ (Frm.of_grown (S := fun k => v0.ownBlock = some k) hg2 (fun k e => e)) (fun k hk _ => ?_)) (.inl ⟨hb, .inl rfl⟩) v2
    exact ⟨(R8_lt ho k hk).1, .inr (own_type (R8_own ho) k hk)⟩
/-- An op's bytes; of a list; an entry's. -/
def opEnc (o : S40) : List Int := (((((numEnc o.f0).1 ++ (textEnc o.f1).1) ++ (textEnc o.f2).1) ++ (if o.f3 = -1 then (numEnc 0).1 else (numEnc 1).1 ++ (numEnc o.f3).1)) ++ (numEnc o.f4).1)
def opsEncs (l : List S40) : List Int := (l.map opEnc).flatten
def opsEnc (l : List S40) : List Int := (numEnc (l.length : Int)).1 ++ opsEncs l
def entBytes (s v k se rq : Int) (l : List S40) : List Int := ((((([] ++ (numEnc s).1) ++ (numEnc v).1) ++ (numEnc k).1) ++ (numEnc se).1) ++ (numEnc rq).1) ++ opsEnc l
theorem opEnc_len (o : S40) : (opEnc o).length ≤ 530000 := by
  have h0 := numEnc_len o.f0
  have h1 := textEnc_len (s := o.f1)
  have h2 := textEnc_len (s := o.f2)
  have h3 := numEnc_len o.f3
  have h4 := numEnc_len o.f4
  have h5 := numEnc_len 0
  have h6 := numEnc_len 1
  unfold opEnc
  split <;> simp only [List.length_append] <;> omega
theorem opsEncs_len (l : List S40) : (opsEncs l).length ≤ l.length * 530000 := by
  unfold opsEncs
  induction l with
  | nil => simp
  | cons o l ih =>
    have := opEnc_len o
    rw [List.map_cons, List.flatten_cons, List.length_append, List.length_cons, Nat.add_mul]
    omega
theorem opsEncs_take {l : List S40} {k : Nat} (h : k < l.length) : opsEncs (l.take (k + 1)) = opsEncs (l.take k) ++ opEnc (rd_T40 l (k : Int)) := by
  unfold opsEncs rd_T40
  rw [List.take_succ_eq_append_getElem h, List.map_append, List.flatten_append, Int.toNat_natCast, List.getD_eq_getElem?_getD, List.getElem?_eq_getElem h]
  simp
theorem pg_then {w w1 w2 : World} {base g : Nat} (h : Frm w w1 (pg w base g)) (k : Frm w1 w2 (pg w1 base g)) : Frm w w2 (pg w base g) :=
  h.then_ k (fun q hq hlt => Classical.byContradiction fun hn => hn ⟨hq.1, hq.2.imp (fun e => e) (fun ⟨c, hc⟩ => ⟨c, (h.block q hlt hn) ▸ hc⟩)⟩)
theorem pg_below {w0 w w1 : World} {g : Nat} (hB : Below w0.heap.size w0 w) (h : Frm w w1 (pg w w0.heap.size g)) : Below w0.heap.size w0 w1 := below_frm hB h (fun k hk => hk.1) (Nat.le_refl _)
theorem pg_belowB {w0 w w1 : World} {b g : Nat} (hb : b = w0.heap.size) (hB : Below b w0 w) (h : Frm w w1 (pg w b g)) : Below w0.heap.size w0 w1 := by
  subst hb
  exact pg_below hB h
/-- A block of another type is kept. -/
theorem pg_block {w w1 : World} {base g p t : Nat} {cs : Array Value} (h : Frm w w1 (pg w base g)) (hp : w.heap[p]? = some (.cells cs t (0, 0))) (ht : t ≠ 5) (hne : p ≠ g) : w1.heap[p]? = some (.cells cs t (0, 0)) :=
  (h.block p (blk_lt hp) (fun hq => hq.2.elim hne (fun h5 => ht (typed_ne ⟨_, hp⟩ h5)))).trans hp
def numOk (v : Int) : Bool := decide (0 ≤ v) && decide (v ≤ 2147483647)
def opOk (o : S40) : Bool := numOk o.f0 && (numOk o.f4 && ((decide (o.f3 = -1) || numOk o.f3) && (decide (o.f1.size ≤ 256) && decide (o.f2.size ≤ 256))))
def opsOk (l : List S40) : Bool := l.all opOk && decide (l.length ≤ 4)
/-- May the entry be? -/
def entOk (s v k se rq : Int) (l : List S40) : Bool :=
  (decide (1 ≤ s) && numOk s) && (numOk v && ((decide (1 ≤ se) && numOk se) && (numOk rq && ((decide (1 ≤ k) && decide (k ≤ 4)) && (if k = 1 then decide (1 ≤ rq) && opsOk l else decide (rq = 0) && decide (l.length = 0))))))
theorem PageAt.below {W W1 : World} {base t g : Nat} {L : List Int} (h : PageAt W base t g L) (hb : Below W.heap.size W W1) : PageAt W1 base t g L := by
  obtain ⟨h1, v, h2, h3⟩ := h
  exact ⟨h1, v, (hb.block g (blk_lt h2)).trans h2, R8_keep h3 (fun k hk => hb.block k (R8_lt h3 k hk).2)⟩
theorem PageAt.lt {W : World} {base t g : Nat} {L : List Int} (h : PageAt W base t g L) : g < W.heap.size := by
  obtain ⟨h1, v, h2, h3⟩ := h
  exact blk_lt h2
theorem entOk_ops {s v k se rq : Int} {l : List S40} (h : entOk s v k se rq l = true) : l.length ≤ 4 := by
  unfold entOk at h
  simp only [Bool.and_eq_true] at h
  have h2 := h.2.2.2.2.2
  split at h2
  · simp only [Bool.and_eq_true, opsOk, decide_eq_true_eq] at h2
    exact h2.2.2
  · simp only [Bool.and_eq_true, decide_eq_true_eq] at h2
    omega
end Go.Proofs.Ytdbniihjkiecbaa.PW
