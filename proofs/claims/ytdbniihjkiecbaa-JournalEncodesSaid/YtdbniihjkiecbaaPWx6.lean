/- The machine's side of functions, in one namespace: each function's call comes to what its Lean function tells. -/
import Derived.Test.YtdbniihjkiecbaaPWx0
import Derived.Test.YtdbniihjkiecbaaPWx3
import Derived.Test.YtdbniihjkiecbaaPWx4
import Derived.Test.YtdbniihjkiecbaaPWx5
namespace Go.Proofs.Ytdbniihjkiecbaa.PW
open Go.RowKit Go.Proofs.YtdbniihjkiecbaaW.PrintWords Go.Proofs.YtdbniihjkiecbaaW.PrintLast Go.Proofs.YtdbniihjkiecbaaW.PrintMore
attribute [local go_sem] max2_int min2_int max_two min_two max_three min_three max_four min_four   -- for this text's walks alone
set_option linter.unusedVariables false
set_option linter.unusedSimpArgs false

/-! ### heraldref3_EncodeEntry: function 47 -/
/-- All but the blocks of S (and what is new) is as it was. -/
structure Frm (w w' : World) (S : Nat → Prop) : Prop where
  os : w'.os = w.os
  tape : w'.tape = w.tape
  output : w'.output = w.output
  size : w.heap.size ≤ w'.heap.size
  block : ∀ k, k < w.heap.size → ¬ S k → w'.heap[k]? = w.heap[k]?
section
variable {w w1 w2 : World} {S S1 S2 : Nat → Prop}
theorem Frm.refl (w : World) (S : Nat → Prop) : Frm w w S := ⟨rfl, rfl, rfl, Nat.le_refl _, fun _ _ _ => rfl⟩
theorem Frm.mono (h : Frm w w1 S) (hs : ∀ k, S k → k < w.heap.size → S1 k) : Frm w w1 S1 := ⟨h.os, h.tape, h.output, h.size, fun k hk hn => h.block k hk (fun hS => hn (hs k hS hk))⟩
theorem Frm.then_ (h : Frm w w1 S) (k : Frm w1 w2 S1) (hs : ∀ k, S1 k → k < w.heap.size → S k) : Frm w w2 S :=
  ⟨k.os.trans h.os, k.tape.trans h.tape, k.output.trans h.output, Nat.le_trans h.size k.size, fun i hi hn => (k.block i (Nat.lt_of_lt_of_le hi h.size) (fun h1 => hn (hs i h1 hi))).trans (h.block i hi hn)⟩
theorem Frm.of_below (h : Below w.heap.size w w1) (S : Nat → Prop) : Frm w w1 S := ⟨h.os, h.tape, h.output, h.size, fun k hk _ => h.block k hk⟩
theorem Frm.of_grown {row : Option Nat} (h : w.grownBy w1 row) (hs : ∀ k, row = some k → S k) : Frm w w1 S := ⟨h.os, h.tape, h.output, h.size, fun k hk hn => h.block k hk (fun e => hn (hs k e.symm))⟩
theorem Frm.set_ (h : Frm w w1 S) {p : Addr} (hp : S p.block ∨ w.heap.size ≤ p.block) (u : Value) : Frm w (w1.setCell p u) S :=
  ⟨h.os, h.tape, h.output, by simpa [World.setCell] using h.size, fun k hk hn => (Below.heap_setCell w1 p u k (fun e => hp.elim (fun h2 => hn (e ▸ h2)) (fun h2 => by omega))).trans (h.block k hk hn)⟩
theorem Frm.below {B : Nat} (h : Frm w w1 S) (hs : ∀ k, S k → k < w.heap.size → B ≤ k) (hB : B ≤ w.heap.size) : Below B w w1 := ⟨h.os, h.tape, h.output, h.size, fun k hk => h.block k (by omega) (fun h2 => by have := hs k h2 (by omega); omega)⟩
theorem Frm.drew (h : Frm w w1 S) : Frm w w1.drew S := ⟨h.os, h.tape, h.output, h.size, h.block⟩
theorem Frm.alloc (h : Frm w w1 S) (o : Obj) : Frm w (w1.alloc o) S := h.then_ (Frm.of_below (below_alloc (Below.refl _ _) o) (fun _ => False)) (fun _ hk => hk.elim)
theorem Frm.step (h : Frm w w1 S) (k : Below w1.heap.size w1 w2) : Frm w w2 S := h.then_ (Frm.of_below k (fun _ => False)) (fun _ hk => hk.elim)
theorem Frm.blk {g : Nat} {o : Obj} (h : Frm w w1 S) (hb : w.heap[g]? = some o) (hn : ¬ S g) : w1.heap[g]? = some o := (h.block g (blk_lt hb) hn).trans hb
end
/-- What a stream's call writes lies from N on. -/
theorem below_frm {w wr w1 : World} {N : Nat} {S : Nat → Prop} (hb : Below w.heap.size w wr) (hf : Frm wr w1 S) (hS : ∀ k, S k → N ≤ k) (hN : w.heap.size ≤ N) : Below w.heap.size w w1 :=
  hb.trans ⟨hf.os, hf.tape, hf.output, hf.size, fun k hk => hf.block k (Nat.lt_of_lt_of_le hk hb.size) (fun h2 => by have := hS k h2; omega)⟩
theorem add0 (g i : Nat) : (⟨g, 0, none⟩ : Addr).add i = ⟨g, i, none⟩ := by unfold Addr.add; split <;> simp_all
section
variable {W w1 : World} {base e sz n m : Nat} {v v0 v1 : Value} {xs ys X Y : List Value}
theorem own_step (h : W.ownsRow base e sz v n xs) (hm : ∀ k, v.ownBlock = some k → w1.heap[k]? = W.heap[k]?) : w1.ownsRow base e sz v n xs := by
  refine ⟨h.1, ?_⟩
  rcases h.2 with h2 | ⟨g, cap, cur, rfl, h3, h4, h5⟩
  · exact .inl h2
  · exact .inr ⟨g, cap, cur, rfl, h3, (hm g rfl).trans h4, h5⟩
theorem own_type (h : W.ownsRow base e sz v n xs) : ∀ k, v.ownBlock = some k → ∃ cells, W.heap[k]? = some (.cells cells e (0, 0)) := by
  intro k hk
  rcases h.2 with ⟨rfl, _⟩ | ⟨g, cap, cur, rfl, h3, h4, h5⟩
  · simp [Value.ownBlock] at hk
  · cases hk
    exact ⟨cur, h4⟩
theorem own_some (h : W.ownsRow base e sz v n xs) (hn : 0 < n) : ∃ g c cur, v = .slice (some ⟨g, 0, none⟩) n c ∧ n ≤ c ∧ base ≤ g ∧ W.heap[g]? = some (.cells cur e (0, 0)) ∧ n * sz ≤ cur.size := by
  rcases h.2 with ⟨rfl, rfl⟩ | ⟨g, cap, cur, rfl, h3, h4, h5, h6, h7, h8⟩
  · omega
  · exact ⟨g, cap, cur, rfl, h5, h3, h4, by rw [h7]; exact Nat.mul_le_mul_right _ h5⟩
end
def typed (W : World) (t : Nat) (q : Nat) : Prop := ∃ cells, W.heap[q]? = some (.cells cells t (0, 0))
theorem typed_ne {W : World} {t t' q : Nat} (h : typed W t q) (h' : typed W t' q) : t = t' := by
  obtain ⟨c, h⟩ := h
  obtain ⟨c', h'⟩ := h'
  rw [h] at h'
  cases h'
  rfl
theorem R8_lt {W : World} {base : Nat} {v : Value} {l : List Int} (h : R8 W base v l) : ∀ q, v.ownBlock = some q → base ≤ q ∧ q < W.heap.size := (R8_own h).lt
theorem R8_keep {W W1 : World} {base : Nat} {v : Value} {l : List Int} (h : R8 W base v l) (hm : ∀ k, v.ownBlock = some k → W1.heap[k]? = W.heap[k]?) : R8 W1 base v l := own_R8 (own_step (R8_own h) hm)
theorem R8_C {W : World} {base : Nat} {A : Option Addr} {n c : Nat} {l : List Int} (h : R8 W base (.slice A n c) l) : C8 W A n l := by
  have h2 := Kd.R_reads' h
  have hn := h2.1
  subst hn
  exact h2.2.2
theorem R8_form {W : World} {base : Nat} {v : Value} {l : List Int} (h : R8 W base v l) : ∃ A n c, v = .slice A n c ∧ l.length = n ∧ n ≤ c := by
  obtain ⟨A, c, e, h1, h2⟩ := Kd.R_reads h
  exact ⟨A, _, c, e, rfl, h1⟩
theorem ref_Text_eq (k : Nat) (hk : 20 ≤ k) (s : ByteArray) : heraldref2_Text.f k s = some (textEnc s) := by
  unfold heraldref2_Text.f textEnc
  by_cases h : (s.size : Int) > 262144
  · rw [if_pos h, if_pos h]
  · rw [if_neg h, if_neg h, heraldref2_Number.eq k hk]
    unfold numEnc
    rw [if_neg (by omega)]
    have hl := numBytes_len 4 (s.size : Int)
    simp only [Option.bind_some]
    rw [if_pos (by omega)]
/-- Bytes gathered in the one field of block g. -/
def PageAt (W : World) (base t g : Nat) (L : List Int) : Prop := base ≤ g ∧ ∃ v, W.heap[g]? = some (.cells #[v] t (0, 0)) ∧ R8 W base v L
/-- What a call on it may write. -/
def pg (w : World) (base g q : Nat) : Prop := base ≤ q ∧ (q = g ∨ typed w 5 q)
theorem numEnc_len (v : Int) : (numEnc v).1.length ≤ 5 := by
  unfold numEnc
  split
  · simp
  · exact numBytes_len 4 v
theorem numEnc_ok {v : Int} (h0 : 0 ≤ v) (h1 : v ≤ 2147483647) : numEnc v = (numBytes 4 v, 0) := by
  unfold numEnc
  rw [if_neg (by omega)]
theorem textEnc_ok {s : ByteArray} (h : s.size ≤ 262144) : textEnc s = (numBytes 4 s.size ++ bytesOf s, 0) := by
  unfold textEnc
  rw [if_neg (by omega)]
theorem textEnc_len {s : ByteArray} : (textEnc s).1.length ≤ 5 + 262144 := by
  unfold textEnc
  split
  · simp
  · have := numBytes_len 4 (s.size : Int)
    have hb : (bytesOf s).length = s.size := by simp [bytesOf]
    simp only [List.length_append, hb]
    omega
theorem page_end {w w1 w2 : World} {base t g : Nat} {v0 v2 : Value} {L M : List Int} (ht : t ≠ 5) (hb : base ≤ g) (hg : w.heap[g]? = some (.cells #[v0] t (0, 0))) (ho : R8 w base v0 L) (hb1 : Below w.heap.size w w1) (ho2 : R8 w2 base v2 M) (hg2 : w1.grownBy w2 v0.ownBlock) :
    PageAt (w2.setCell ⟨g, 0, none⟩ v2) base t g M ∧ Frm w (w2.setCell ⟨g, 0, none⟩ v2) (pg w base g) := by
  have hlt := blk_lt hg
  have hne : v0.ownBlock ≠ some g := fun e => ht (typed_ne ⟨_, hg⟩ (own_type (R8_own ho) g e))
  have h1 : w1.heap[g]? = some (.cells #[v0] t (0, 0)) := (hb1.block g hlt).trans hg
  have h2 : w2.heap[g]? = some (.cells #[v0] t (0, 0)) := (hg2.block g (blk_lt h1) (fun e => hne e.symm)).trans h1
  refine ⟨⟨hb, v2, blk_put h2 0 v2 rfl, R8_keep ho2 (fun k hk => Below.heap_setCell _ _ _ _ (fun e => ?_))⟩, ?_⟩
  · subst e
    exact ht (typed_ne ⟨_, h2⟩ (own_type (R8_own ho2) _ hk))
  · refine Frm.set_ (p := ⟨g, 0, none⟩) ((Frm.of_below hb1 _).then_ (Frm.of_grown (S := fun k => v0.ownBlock = some k) hg2 (fun k e => e)) (fun k hk _ => ?_)) (.inl ⟨hb, .inl rfl⟩) v2
    exact ⟨(R8_lt ho k hk).1, .inr (own_type (R8_own ho) k hk)⟩
set_option maxHeartbeats 4000000 in
set_option maxRecDepth 100000 in
theorem page_number (base g : Nat) (L : List Int) (v : Int) (w : World) (hP : PageAt w base 123 g L) (hbase : base ≤ w.heap.size) (hl : L.length ≤ 100000000000) :
    Calls Try.prog 75 #[.pointer (some ⟨g, 0, none⟩), .int .i64 v] w fun e w' => (∃ x, e = .returned x) ∧ PageAt w' base 123 g (L ++ (numEnc v).1) ∧ Frm w w' (pg w base g) := by
  obtain ⟨hbg, v0, hg, ho⟩ := hP
  have HG := Aside0.mk hg
  have HO := Aside0.mk ho
  have HLN := Aside0.mk (numEnc_len v)
  clear hg ho
  go_enter Try.func75, Try.ntmps75
  go_wp2_with fail
  refine (heraldref2_Number.calls 20 v (numEnc v).1 (numEnc v).2 w (heraldref2_Number.eq 20 (Nat.le_refl _) v)).mono ?_
  rintro e w1 ⟨v1, rfl, ho1, hb1⟩
  obtain ⟨A1, n1, c1, rfl, hn1, hc1⟩ := R8_form ho1
  have HC1 := Aside0.mk (R8_C ho1)
  have HB1 := Aside0.mk hb1
  have hg1 : w1.heap[g]? = some (.cells #[v0] 123 (0, 0)) := (hb1.block g (blk_lt HG.out)).trans HG.out
  have hc0 : w1.cell? ⟨g, 0, none⟩ = some v0 := blk_cell hg1 0
  obtain ⟨E, hE⟩ : ∃ E, (numEnc v).2 = E := ⟨_, rfl⟩
  rw [hE]
  have HN1 := Aside0.mk hn1
  clear ho1 hb1 hE hn1 hg1
  go_wp2_with (with_reducible refine stop_append rfl ?_)
  refine app8 (v := v0) w1 base rfl _ _ rfl rfl rfl (R8_keep HO.out (fun k hk => HB1.out.block k (R8_lt HO.out k hk).2)) HC1.out (Below.refl _ _) (Nat.le_trans hbase HB1.out.size) (by have := HLN.out; have := HN1.out; omega) ?_
  intro v2 w2 ho2 hb2 hg2 hat
  have hw2 : w2.heap[g]? = some (.cells #[v0] 123 (0, 0)) := by
    have h1 : w1.heap[g]? = some (.cells #[v0] 123 (0, 0)) := (HB1.out.block g (blk_lt HG.out)).trans HG.out
    exact (hg2.block g (blk_lt h1) (fun e => absurd (typed_ne ⟨_, HG.out⟩ (own_type (R8_own HO.out) g e.symm)) (by decide))).trans h1
  have hc2 : w2.cell? ⟨g, 0, none⟩ = some v0 := blk_cell hw2 0
  have hf2 : w2.frozen? ⟨g, 0, none⟩ = false := blk_frozen hw2 0
  obtain ⟨A2, n2, c2, rfl, _, _⟩ := R8_form ho2
  have HO2 := Aside0.mk ho2
  have HG2 := Aside0.mk hg2
  clear ho2 hb2 hg2 hat hw2 hc0
  go_wp2
  refine bodyPost_end (results_none rfl _ _ _) rfl ?_
  exact ⟨⟨_, rfl⟩, page_end (by decide) hbg HG.out HO.out HB1.out HO2.out HG2.out⟩
set_option maxHeartbeats 4000000 in
set_option maxRecDepth 100000 in
theorem page_text (base g : Nat) (L : List Int) (s : ByteArray) (w : World) (hP : PageAt w base 123 g L) (hbase : base ≤ w.heap.size) (hl : L.length ≤ 100000000000) :
    Calls Try.prog 85 #[.pointer (some ⟨g, 0, none⟩), .string s] w fun e w' => (∃ x, e = .returned x) ∧ PageAt w' base 123 g (L ++ (textEnc s).1) ∧ Frm w w' (pg w base g) := by
  obtain ⟨hbg, v0, hg, ho⟩ := hP
  have HG := Aside0.mk hg
  have HO := Aside0.mk ho
  have HLN := Aside0.mk (textEnc_len (s := s))
  clear hg ho
  go_enter Try.func85, Try.ntmps85
  go_wp2_with fail
  refine (heraldref2_Text.calls 20 s (textEnc s).1 (textEnc s).2 w (ref_Text_eq 20 (Nat.le_refl _) s)).mono ?_
  rintro e w1 ⟨v1, rfl, ho1, hb1⟩
  obtain ⟨A1, n1, c1, rfl, hn1, hc1⟩ := R8_form ho1
  have HC1 := Aside0.mk (R8_C ho1)
  have HB1 := Aside0.mk hb1
  have hg1 : w1.heap[g]? = some (.cells #[v0] 123 (0, 0)) := (hb1.block g (blk_lt HG.out)).trans HG.out
  have hc0 : w1.cell? ⟨g, 0, none⟩ = some v0 := blk_cell hg1 0
  obtain ⟨E, hE⟩ : ∃ E, (textEnc s).2 = E := ⟨_, rfl⟩
  rw [hE]
  have HN1 := Aside0.mk hn1
  clear ho1 hb1 hE hn1 hg1
  go_wp2_with (with_reducible refine stop_append rfl ?_)
  refine app8 (v := v0) w1 base rfl _ _ rfl rfl rfl (R8_keep HO.out (fun k hk => HB1.out.block k (R8_lt HO.out k hk).2)) HC1.out (Below.refl _ _) (Nat.le_trans hbase HB1.out.size) (by have := HLN.out; have := HN1.out; omega) ?_
  intro v2 w2 ho2 hb2 hg2 hat
  have hw2 : w2.heap[g]? = some (.cells #[v0] 123 (0, 0)) := by
    have h1 : w1.heap[g]? = some (.cells #[v0] 123 (0, 0)) := (HB1.out.block g (blk_lt HG.out)).trans HG.out
    exact (hg2.block g (blk_lt h1) (fun e => absurd (typed_ne ⟨_, HG.out⟩ (own_type (R8_own HO.out) g e.symm)) (by decide))).trans h1
  have hc2 : w2.cell? ⟨g, 0, none⟩ = some v0 := blk_cell hw2 0
  have hf2 : w2.frozen? ⟨g, 0, none⟩ = false := blk_frozen hw2 0
  obtain ⟨A2, n2, c2, rfl, _, _⟩ := R8_form ho2
  have HO2 := Aside0.mk ho2
  have HG2 := Aside0.mk hg2
  clear ho2 hb2 hg2 hat hw2 hc0
  go_wp2
  refine bodyPost_end (results_none rfl _ _ _) rfl ?_
  exact ⟨⟨_, rfl⟩, page_end (by decide) hbg HG.out HO.out HB1.out HO2.out HG2.out⟩
/-- An op's bytes; of a list; an entry's. -/
def opEnc (o : S40) : List Int := (((((numEnc o.f0).1 ++ (textEnc o.f1).1) ++ (textEnc o.f2).1) ++ (if o.f3 = -1 then (numEnc 0).1 else (numEnc 1).1 ++ (numEnc o.f3).1)) ++ (numEnc o.f4).1)
def opsEncs (l : List S40) : List Int := (l.map opEnc).flatten
def opsEnc (l : List S40) : List Int := (numEnc (l.length : Int)).1 ++ opsEncs l
def entBytes (s v k se rq : Int) (l : List S40) : List Int := ((((([] ++ (numEnc s).1) ++ (numEnc v).1) ++ (numEnc k).1) ++ (numEnc se).1) ++ (numEnc rq).1) ++ opsEnc l
theorem opEnc_len (o : S40) : (opEnc o).length ≤ 530000 := by
  have h0 := numEnc_len o.f0
  have h1 := textEnc_len (s := o.f1)
  have h2 := textEnc_len (s := o.f2)
  have h3 := numEnc_len o.f3
  have h4 := numEnc_len o.f4
  have h5 := numEnc_len 0
  have h6 := numEnc_len 1
  unfold opEnc
  split <;> simp only [List.length_append] <;> omega
theorem opsEncs_len (l : List S40) : (opsEncs l).length ≤ l.length * 530000 := by
  unfold opsEncs
  induction l with
  | nil => simp
  | cons o l ih =>
    have := opEnc_len o
    rw [List.map_cons, List.flatten_cons, List.length_append, List.length_cons, Nat.add_mul]
    omega
theorem opsEncs_take {l : List S40} {k : Nat} (h : k < l.length) : opsEncs (l.take (k + 1)) = opsEncs (l.take k) ++ opEnc (rd_T40 l (k : Int)) := by
  unfold opsEncs rd_T40
  rw [List.take_succ_eq_append_getElem h, List.map_append, List.flatten_append, Int.toNat_natCast, List.getD_eq_getElem?_getD, List.getElem?_eq_getElem h]
  simp
theorem pg_then {w w1 w2 : World} {base g : Nat} (h : Frm w w1 (pg w base g)) (k : Frm w1 w2 (pg w1 base g)) : Frm w w2 (pg w base g) :=
  h.then_ k (fun q hq hlt => Classical.byContradiction fun hn => hn ⟨hq.1, hq.2.imp (fun e => e) (fun ⟨c, hc⟩ => ⟨c, (h.block q hlt hn) ▸ hc⟩)⟩)
theorem pg_below {w0 w w1 : World} {g : Nat} (hB : Below w0.heap.size w0 w) (h : Frm w w1 (pg w w0.heap.size g)) : Below w0.heap.size w0 w1 := below_frm hB h (fun k hk => hk.1) (Nat.le_refl _)
theorem pg_belowB {w0 w w1 : World} {b g : Nat} (hb : b = w0.heap.size) (hB : Below b w0 w) (h : Frm w w1 (pg w b g)) : Below w0.heap.size w0 w1 := by
  subst hb
  exact pg_below hB h
/-- A block of another type is kept. -/
theorem pg_block {w w1 : World} {base g p t : Nat} {cs : Array Value} (h : Frm w w1 (pg w base g)) (hp : w.heap[p]? = some (.cells cs t (0, 0))) (ht : t ≠ 5) (hne : p ≠ g) : w1.heap[p]? = some (.cells cs t (0, 0)) :=
  (h.block p (blk_lt hp) (fun hq => hq.2.elim hne (fun h5 => ht (typed_ne ⟨_, hp⟩ h5)))).trans hp
def numOk (v : Int) : Bool := decide (0 ≤ v) && decide (v ≤ 2147483647)
def opOk (o : S40) : Bool := numOk o.f0 && (numOk o.f4 && ((decide (o.f3 = -1) || numOk o.f3) && (decide (o.f1.size ≤ 256) && decide (o.f2.size ≤ 256))))
def opsOk (l : List S40) : Bool := l.all opOk && decide (l.length ≤ 4)
/-- May the entry be? -/
def entOk (s v k se rq : Int) (l : List S40) : Bool :=
  (decide (1 ≤ s) && numOk s) && (numOk v && ((decide (1 ≤ se) && numOk se) && (numOk rq && ((decide (1 ≤ k) && decide (k ≤ 4)) && (if k = 1 then decide (1 ≤ rq) && opsOk l else decide (rq = 0) && decide (l.length = 0))))))
theorem ref_count_eq (v : Int) : heraldref3_count.f v = some (decide (1 ≤ v) && numOk v) := by
  unfold heraldref3_count.f numOk
  by_cases h : v ≥ 1
  · rw [if_pos h, decide_eq_true (show 1 ≤ v from h), decide_eq_true (show 0 ≤ v by omega)]; simp
  · rw [if_neg h, decide_eq_false (show ¬ 1 ≤ v from h)]; simp
theorem ref_number_eq (v : Int) : heraldref3_number.f v = some (numOk v) := by
  unfold heraldref3_number.f numOk
  by_cases h : v ≥ 0
  · rw [if_pos h, decide_eq_true (show 0 ≤ v from h)]; simp
  · rw [if_neg h, decide_eq_false (show ¬ 0 ≤ v from h)]; simp
theorem ref_ops_l0 (l : List S40) (hl : l.length ≤ 9223372036854775807) (d : Nat) : ∀ (k i : Nat), i + d = l.length → d < k → heraldref3_opsRight.l0 k l (i : Int) = some ((l.drop i).all opOk && decide (l.length ≤ 4)) := by
  induction d with
  | zero =>
    intro k i hi hk
    obtain ⟨k, rfl⟩ : ∃ m, k = m + 1 := ⟨k - 1, by omega⟩
    simp only [heraldref3_opsRight.l0]
    rw [if_neg (by omega), List.drop_eq_nil_of_le (by omega)]
    simp
    omega
  | succ d ih =>
    intro k i hi hk
    obtain ⟨k, rfl⟩ : ∃ m, k = m + 1 := ⟨k - 1, by omega⟩
    have hlt : i < l.length := by omega
    have hdr : l.drop i = rd_T40 l (i : Int) :: l.drop (i + 1) := by
      unfold rd_T40
      rw [Int.toNat_natCast, List.getD_eq_getElem?_getD, List.getElem?_eq_getElem hlt]
      exact List.drop_eq_getElem_cons hlt
    have hw : wrap64 ((i : Int) + 1) = ((i + 1 : Nat) : Int) := by unfold wrap64; omega
    simp only [heraldref3_opsRight.l0]
    rw [if_pos (by omega), if_pos (by omega), ref_number_eq, ref_number_eq, ref_number_eq, hw, ih k (i + 1) (by omega) (by omega), hdr]
    obtain ⟨o, ho⟩ : ∃ o, rd_T40 l (i : Int) = o := ⟨_, rfl⟩
    rw [ho]
    simp only [Option.bind_some, List.all_cons]
    unfold opOk
    have s1 : ((o.f1.size : Int) > 256) ↔ ¬ o.f1.size ≤ 256 := by omega
    have s2 : ((o.f2.size : Int) > 256) ↔ ¬ o.f2.size ≤ 256 := by omega
    cases numOk o.f0 <;> cases numOk o.f4 <;> cases numOk o.f3 <;> by_cases h3 : o.f3 = -1 <;> by_cases h1 : o.f1.size ≤ 256 <;> by_cases h2 : o.f2.size ≤ 256 <;> simp [h3, h1, h2, s1, s2]
theorem ref_ops_eq (l : List S40) (hl : l.length ≤ 9223372036854775807) (k : Nat) (hk : l.length < k) : heraldref3_opsRight.f k l = some (opsOk l) := by
  unfold heraldref3_opsRight.f opsOk
  exact ref_ops_l0 l hl l.length k 0 (by omega) hk
theorem ref_Entry_eq (s v k se rq : Int) (l : List S40) (hl : l.length ≤ 9223372036854775807) (r : Nat) (hr : l.length + 1 < r) : heraldref3_EntryRight.f r s v k se rq l = some (entOk s v k se rq l) := by
  obtain ⟨r, rfl⟩ : ∃ m, r = m + 1 := ⟨r - 1, by omega⟩
  have ho := ref_ops_eq l hl r (by omega)
  unfold heraldref3_EntryRight.f entOk
  rw [ref_count_eq, ref_count_eq, ref_number_eq, ref_number_eq]
  simp only [Option.bind_some, heraldref3_EntryRight.j0, ho]
  have hz : ((l.length : Int) == 0) = decide (l.length = 0) := by
    by_cases h : l.length = 0
    · rw [h]; rfl
    · rw [decide_eq_false h]; exact beq_eq_false_iff_ne.mpr (by omega)
  rw [hz]
  generalize opsOk l = ol
  generalize (decide (l.length = 0)) = zl
  by_cases h1 : k < 1
  · have hk : decide (1 ≤ k) = false := decide_eq_false (by omega)
    rw [hk]
    cases (decide (1 ≤ s) && numOk s) <;> cases numOk v <;> cases (decide (1 ≤ se) && numOk se) <;> cases numOk rq <;> simp [h1]
  · have hk : decide (1 ≤ k) = true := decide_eq_true (by omega)
    rw [hk]
    by_cases h4 : k ≤ 4
    · have hk4 : decide (k ≤ 4) = true := decide_eq_true h4
      have hk5 : decide (k > 4) = false := decide_eq_false (by omega)
      rw [hk4, hk5]
      by_cases he : k = 1 <;> by_cases hq : rq ≥ 1 <;> by_cases hz0 : rq = 0 <;> cases (decide (1 ≤ s) && numOk s) <;> cases numOk v <;> cases (decide (1 ≤ se) && numOk se) <;> cases numOk rq <;> simp [h1, he, hq, hz0] <;> omega
    · have hk4 : decide (k ≤ 4) = false := decide_eq_false h4
      have hk5 : decide (k > 4) = true := decide_eq_true (by omega)
      rw [hk4, hk5]
      cases (decide (1 ≤ s) && numOk s) <;> cases numOk v <;> cases (decide (1 ≤ se) && numOk se) <;> cases numOk rq <;> simp [h1]
set_option maxHeartbeats 16000000 in
set_option maxRecDepth 100000 in
theorem page_ops (wb : World) (b g : Nat) (M0 : List Int) (A : Option Addr) (c n : Nat) (l : List S40) (w0 : World) (hb : b = wb.heap.size) (hn : l.length = n) (hC : Kd.C k40 wb A n l) (hn4 : n ≤ 4) (hB : Below wb.heap.size wb w0) (hP : PageAt w0 b 123 g M0) (hl : M0.length ≤ 1000) :
    Calls Try.prog 76 #[.pointer (some ⟨g, 0, none⟩), .slice A n c] w0 fun e w' => (∃ x, e = .returned x) ∧ PageAt w' b 123 g (M0 ++ opsEnc l) ∧ Frm w0 w' (pg w0 b g) := by
  subst hb
  obtain ⟨b, hb⟩ : ∃ b, b = wb.heap.size := ⟨_, rfl⟩
  have HB := Aside0.mk (show Below b wb w0 by rw [hb]; exact hB)
  have HC := Aside0.mk hC
  have HN := Aside0.mk hn
  have HBS := Aside0.mk (show b ≤ w0.heap.size by rw [hb]; exact hB.size)
  have P0 := Aside0.mk (show PageAt w0 b 123 g M0 by rw [hb]; exact hP)
  have N0 := Aside0.mk hl
  have F0 := Aside0.mk (Frm.refl w0 (pg w0 b g))
  rw [← hb]
  have Hb := Aside0.mk hb
  clear hB hC hn hP hl hb
  go_enter Try.func76, Try.ntmps76
  go_wp2_with fail
  refine (page_number b g M0 (n : Int) w0 P0.out (Nat.le_trans HBS.out F0.out.size) (by have := N0.out; omega)).mono ?_
  rintro y1 w1 ⟨⟨z1, rfl⟩, hp, hf⟩
  obtain ⟨M1, hM⟩ : ∃ M, M0 ++ (numEnc (n : Int)).1 = M := ⟨_, rfl⟩
  rw [hM] at hp
  have E1 := Aside0.mk hM
  have N1 := Aside0.mk (show M1.length ≤ 1005 by have h1 := N0.out; have h2 := numEnc_len (n : Int); rw [← hM, List.length_append]; omega)
  have P1 := Aside0.mk hp
  have F1 := Aside0.mk (pg_then F0.out hf)
  clear hp hf hM
  go_wp2
  go_loopw [4] (fun v4 wr => ∃ k : Nat, k ≤ n ∧ v4 = .int .i64 (k : Int) ∧ Aside0 (PageAt wr b 123 g (M1 ++ opsEncs (l.take k))) ∧ Aside0 (Frm w0 wr (pg w0 b g))) (fun v4 _ => n + 1 - (intOf v4).toNat)
  case atStart => exact ⟨0, Nat.zero_le _, rfl, ⟨by rw [List.take_zero]; simpa [opsEncs] using P1.out⟩, F1⟩
  case round =>
    obtain ⟨k, hk, rfl, PK, FK⟩ := hrel
    by_cases hlt : k < n
    · have hd1 : decide ((k : Int) < (n : Int)) = true := decide_eq_true (by omega)
      have hd2 : decide (k < n) = true := decide_eq_true hlt
      obtain ⟨ad, rfl, f0, f1, f2, f3, f4⟩ := at_T40 HC.out (k : Int) (by omega) (by omega)
      obtain ⟨o, ho⟩ : ∃ o, rd_T40 l (k : Int) = o := ⟨_, rfl⟩
      rw [ho, Int.toNat_natCast] at f0 f1 f2 f3 f4
      have HO := Aside0.mk ho
      have C0 := Aside0.mk f0
      have C1 := Aside0.mk f1
      have C2 := Aside0.mk f2
      have C3 := Aside0.mk f3
      have C4 := Aside0.mk f4
      obtain ⟨w10, hw10⟩ : ∃ w10, w10 = wr := ⟨_, rfl⟩
      subst hw10
      obtain ⟨M10, hM10⟩ : ∃ M10, M1 ++ opsEncs (l.take k) = M10 := ⟨_, rfl⟩
      rw [hM10] at PK
      have HM10 := Aside0.mk hM10
      have P10 := Aside0.mk PK.out
      have F10 := Aside0.mk FK.out
      have N10 := Aside0.mk (show M10.length ≤ 3000000 by
        have h1 := N1.out
        have h2 := opsEncs_len (l.take k)
        have h3 : (l.take k).length ≤ 4 := by rw [List.length_take, HN.out]; omega
        rw [← hM10, List.length_append]
        omega)
      clear f0 f1 f2 f3 f4 ho hM10 PK FK
      have q0 : w10.cell? (ad.add (k * 5)) = some (.int .i64 o.f0) := pw_cell_below (pg_belowB Hb.out HB.out F10.out) C0.out
      have q1 : w10.cell? ⟨(ad.add (k * 5)).block, (ad.add (k * 5)).off + 1, none⟩ = some (.string o.f1) := pw_cell_below (pg_belowB Hb.out HB.out F10.out) C1.out
      have q2 : w10.cell? ⟨(ad.add (k * 5)).block, (ad.add (k * 5)).off + 2, none⟩ = some (.string o.f2) := pw_cell_below (pg_belowB Hb.out HB.out F10.out) C2.out
      have q3 : w10.cell? ⟨(ad.add (k * 5)).block, (ad.add (k * 5)).off + 3, none⟩ = some (.int .i64 o.f3) := pw_cell_below (pg_belowB Hb.out HB.out F10.out) C3.out
      have q4 : w10.cell? ⟨(ad.add (k * 5)).block, (ad.add (k * 5)).off + 4, none⟩ = some (.int .i64 o.f4) := pw_cell_below (pg_belowB Hb.out HB.out F10.out) C4.out
      go_wp2_with fail
      refine (page_number b g M10 o.f0 w10 P10.out (Nat.le_trans HBS.out F10.out.size) (by have := N10.out; omega)).mono ?_
      rintro y11 w11 ⟨⟨z11, rfl⟩, hp, hf⟩
      obtain ⟨M11, hM⟩ : ∃ M, M10 ++ (numEnc o.f0).1 = M := ⟨_, rfl⟩
      rw [hM] at hp
      have E11 := Aside0.mk hM
      have N11 := Aside0.mk (show M11.length ≤ 3000005 by have h1 := N10.out; have h2 := numEnc_len o.f0; rw [← hM, List.length_append]; omega)
      have P11 := Aside0.mk hp
      have F11 := Aside0.mk (pg_then F10.out hf)
      clear hp hf hM q0 q1 q2 q3 q4
      have q0 : w11.cell? (ad.add (k * 5)) = some (.int .i64 o.f0) := pw_cell_below (pg_belowB Hb.out HB.out F11.out) C0.out
      have q1 : w11.cell? ⟨(ad.add (k * 5)).block, (ad.add (k * 5)).off + 1, none⟩ = some (.string o.f1) := pw_cell_below (pg_belowB Hb.out HB.out F11.out) C1.out
      have q2 : w11.cell? ⟨(ad.add (k * 5)).block, (ad.add (k * 5)).off + 2, none⟩ = some (.string o.f2) := pw_cell_below (pg_belowB Hb.out HB.out F11.out) C2.out
      have q3 : w11.cell? ⟨(ad.add (k * 5)).block, (ad.add (k * 5)).off + 3, none⟩ = some (.int .i64 o.f3) := pw_cell_below (pg_belowB Hb.out HB.out F11.out) C3.out
      have q4 : w11.cell? ⟨(ad.add (k * 5)).block, (ad.add (k * 5)).off + 4, none⟩ = some (.int .i64 o.f4) := pw_cell_below (pg_belowB Hb.out HB.out F11.out) C4.out
      go_wp2_with fail
      refine (page_text b g M11 o.f1 w11 P11.out (Nat.le_trans HBS.out F11.out.size) (by have := N11.out; omega)).mono ?_
      rintro y12 w12 ⟨⟨z12, rfl⟩, hp, hf⟩
      obtain ⟨M12, hM⟩ : ∃ M, M11 ++ (textEnc o.f1).1 = M := ⟨_, rfl⟩
      rw [hM] at hp
      have E12 := Aside0.mk hM
      have N12 := Aside0.mk (show M12.length ≤ 3262154 by have h1 := N11.out; have h2 := textEnc_len (s := o.f1); rw [← hM, List.length_append]; omega)
      have P12 := Aside0.mk hp
      have F12 := Aside0.mk (pg_then F11.out hf)
      clear hp hf hM q0 q1 q2 q3 q4
      have q0 : w12.cell? (ad.add (k * 5)) = some (.int .i64 o.f0) := pw_cell_below (pg_belowB Hb.out HB.out F12.out) C0.out
      have q1 : w12.cell? ⟨(ad.add (k * 5)).block, (ad.add (k * 5)).off + 1, none⟩ = some (.string o.f1) := pw_cell_below (pg_belowB Hb.out HB.out F12.out) C1.out
      have q2 : w12.cell? ⟨(ad.add (k * 5)).block, (ad.add (k * 5)).off + 2, none⟩ = some (.string o.f2) := pw_cell_below (pg_belowB Hb.out HB.out F12.out) C2.out
      have q3 : w12.cell? ⟨(ad.add (k * 5)).block, (ad.add (k * 5)).off + 3, none⟩ = some (.int .i64 o.f3) := pw_cell_below (pg_belowB Hb.out HB.out F12.out) C3.out
      have q4 : w12.cell? ⟨(ad.add (k * 5)).block, (ad.add (k * 5)).off + 4, none⟩ = some (.int .i64 o.f4) := pw_cell_below (pg_belowB Hb.out HB.out F12.out) C4.out
      go_wp2_with fail
      refine (page_text b g M12 o.f2 w12 P12.out (Nat.le_trans HBS.out F12.out.size) (by have := N12.out; omega)).mono ?_
      rintro y13 w13 ⟨⟨z13, rfl⟩, hp, hf⟩
      obtain ⟨M13, hM⟩ : ∃ M, M12 ++ (textEnc o.f2).1 = M := ⟨_, rfl⟩
      rw [hM] at hp
      have E13 := Aside0.mk hM
      have N13 := Aside0.mk (show M13.length ≤ 3524303 by have h1 := N12.out; have h2 := textEnc_len (s := o.f2); rw [← hM, List.length_append]; omega)
      have P13 := Aside0.mk hp
      have F13 := Aside0.mk (pg_then F12.out hf)
      clear hp hf hM q0 q1 q2 q3 q4
      have q0 : w13.cell? (ad.add (k * 5)) = some (.int .i64 o.f0) := pw_cell_below (pg_belowB Hb.out HB.out F13.out) C0.out
      have q1 : w13.cell? ⟨(ad.add (k * 5)).block, (ad.add (k * 5)).off + 1, none⟩ = some (.string o.f1) := pw_cell_below (pg_belowB Hb.out HB.out F13.out) C1.out
      have q2 : w13.cell? ⟨(ad.add (k * 5)).block, (ad.add (k * 5)).off + 2, none⟩ = some (.string o.f2) := pw_cell_below (pg_belowB Hb.out HB.out F13.out) C2.out
      have q3 : w13.cell? ⟨(ad.add (k * 5)).block, (ad.add (k * 5)).off + 3, none⟩ = some (.int .i64 o.f3) := pw_cell_below (pg_belowB Hb.out HB.out F13.out) C3.out
      have q4 : w13.cell? ⟨(ad.add (k * 5)).block, (ad.add (k * 5)).off + 4, none⟩ = some (.int .i64 o.f4) := pw_cell_below (pg_belowB Hb.out HB.out F13.out) C4.out
      by_cases hv : o.f3 = -1
      · have hv1 : (o.f3 == -1) = true := beq_iff_eq.mpr hv
        have hv2 : decide (o.f3 = -1) = true := decide_eq_true hv
        have HV := Aside0.mk hv
        clear hv
        go_wp2_with fail
        refine (page_number b g M13 0 w13 P13.out (Nat.le_trans HBS.out F13.out.size) (by have := N13.out; omega)).mono ?_
        rintro y14 w14 ⟨⟨z14, rfl⟩, hp, hf⟩
        obtain ⟨M14, hM⟩ : ∃ M, M13 ++ (numEnc 0).1 = M := ⟨_, rfl⟩
        rw [hM] at hp
        have E14 := Aside0.mk hM
        have N14 := Aside0.mk (show M14.length ≤ 3524308 by have h1 := N13.out; have h2 := numEnc_len 0; rw [← hM, List.length_append]; omega)
        have P14 := Aside0.mk hp
        have F14 := Aside0.mk (pg_then F13.out hf)
        clear hp hf hM q0 q1 q2 q3 q4
        have q0 : w14.cell? (ad.add (k * 5)) = some (.int .i64 o.f0) := pw_cell_below (pg_belowB Hb.out HB.out F14.out) C0.out
        have q1 : w14.cell? ⟨(ad.add (k * 5)).block, (ad.add (k * 5)).off + 1, none⟩ = some (.string o.f1) := pw_cell_below (pg_belowB Hb.out HB.out F14.out) C1.out
        have q2 : w14.cell? ⟨(ad.add (k * 5)).block, (ad.add (k * 5)).off + 2, none⟩ = some (.string o.f2) := pw_cell_below (pg_belowB Hb.out HB.out F14.out) C2.out
        have q3 : w14.cell? ⟨(ad.add (k * 5)).block, (ad.add (k * 5)).off + 3, none⟩ = some (.int .i64 o.f3) := pw_cell_below (pg_belowB Hb.out HB.out F14.out) C3.out
        have q4 : w14.cell? ⟨(ad.add (k * 5)).block, (ad.add (k * 5)).off + 4, none⟩ = some (.int .i64 o.f4) := pw_cell_below (pg_belowB Hb.out HB.out F14.out) C4.out
        go_wp2_with fail
        refine (page_number b g M14 o.f4 w14 P14.out (Nat.le_trans HBS.out F14.out.size) (by have := N14.out; omega)).mono ?_
        rintro y15 w15 ⟨⟨z15, rfl⟩, hp, hf⟩
        obtain ⟨M15, hM⟩ : ∃ M, M14 ++ (numEnc o.f4).1 = M := ⟨_, rfl⟩
        rw [hM] at hp
        have E15 := Aside0.mk hM
        have N15 := Aside0.mk (show M15.length ≤ 3524313 by have h1 := N14.out; have h2 := numEnc_len o.f4; rw [← hM, List.length_append]; omega)
        have P15 := Aside0.mk hp
        have F15 := Aside0.mk (pg_then F14.out hf)
        clear hp hf hM 
        clear q0 q1 q2 q3 q4 hv1 hv2
        have HE := Aside0.mk (show M10 ++ opEnc o = M15 by rw [← E15.out, ← E14.out, ← E13.out, ← E12.out, ← E11.out]; unfold opEnc; rw [if_pos HV.out]; simp only [List.append_assoc])
        go_wp2
        go_roundw
        case rel => exact ⟨k + 1, by omega, by go_num, ⟨by rw [opsEncs_take (by rw [HN.out]; omega), HO.out, ← List.append_assoc, HM10.out, HE.out]; exact P15.out⟩, F15⟩
        case measure => simp [intOf]; omega
      · have hv1 : (o.f3 == -1) = false := beq_eq_false_iff_ne.mpr hv
        have hv2 : decide (o.f3 = -1) = false := decide_eq_false hv
        have HV := Aside0.mk hv
        clear hv
        go_wp2_with fail
        refine (page_number b g M13 1 w13 P13.out (Nat.le_trans HBS.out F13.out.size) (by have := N13.out; omega)).mono ?_
        rintro y14 w14 ⟨⟨z14, rfl⟩, hp, hf⟩
        obtain ⟨M14, hM⟩ : ∃ M, M13 ++ (numEnc 1).1 = M := ⟨_, rfl⟩
        rw [hM] at hp
        have E14 := Aside0.mk hM
        have N14 := Aside0.mk (show M14.length ≤ 3524308 by have h1 := N13.out; have h2 := numEnc_len 1; rw [← hM, List.length_append]; omega)
        have P14 := Aside0.mk hp
        have F14 := Aside0.mk (pg_then F13.out hf)
        clear hp hf hM q0 q1 q2 q3 q4
        have q0 : w14.cell? (ad.add (k * 5)) = some (.int .i64 o.f0) := pw_cell_below (pg_belowB Hb.out HB.out F14.out) C0.out
        have q1 : w14.cell? ⟨(ad.add (k * 5)).block, (ad.add (k * 5)).off + 1, none⟩ = some (.string o.f1) := pw_cell_below (pg_belowB Hb.out HB.out F14.out) C1.out
        have q2 : w14.cell? ⟨(ad.add (k * 5)).block, (ad.add (k * 5)).off + 2, none⟩ = some (.string o.f2) := pw_cell_below (pg_belowB Hb.out HB.out F14.out) C2.out
        have q3 : w14.cell? ⟨(ad.add (k * 5)).block, (ad.add (k * 5)).off + 3, none⟩ = some (.int .i64 o.f3) := pw_cell_below (pg_belowB Hb.out HB.out F14.out) C3.out
        have q4 : w14.cell? ⟨(ad.add (k * 5)).block, (ad.add (k * 5)).off + 4, none⟩ = some (.int .i64 o.f4) := pw_cell_below (pg_belowB Hb.out HB.out F14.out) C4.out
        go_wp2_with fail
        refine (page_number b g M14 o.f3 w14 P14.out (Nat.le_trans HBS.out F14.out.size) (by have := N14.out; omega)).mono ?_
        rintro y15 w15 ⟨⟨z15, rfl⟩, hp, hf⟩
        obtain ⟨M15, hM⟩ : ∃ M, M14 ++ (numEnc o.f3).1 = M := ⟨_, rfl⟩
        rw [hM] at hp
        have E15 := Aside0.mk hM
        have N15 := Aside0.mk (show M15.length ≤ 3524313 by have h1 := N14.out; have h2 := numEnc_len o.f3; rw [← hM, List.length_append]; omega)
        have P15 := Aside0.mk hp
        have F15 := Aside0.mk (pg_then F14.out hf)
        clear hp hf hM q0 q1 q2 q3 q4
        have q0 : w15.cell? (ad.add (k * 5)) = some (.int .i64 o.f0) := pw_cell_below (pg_belowB Hb.out HB.out F15.out) C0.out
        have q1 : w15.cell? ⟨(ad.add (k * 5)).block, (ad.add (k * 5)).off + 1, none⟩ = some (.string o.f1) := pw_cell_below (pg_belowB Hb.out HB.out F15.out) C1.out
        have q2 : w15.cell? ⟨(ad.add (k * 5)).block, (ad.add (k * 5)).off + 2, none⟩ = some (.string o.f2) := pw_cell_below (pg_belowB Hb.out HB.out F15.out) C2.out
        have q3 : w15.cell? ⟨(ad.add (k * 5)).block, (ad.add (k * 5)).off + 3, none⟩ = some (.int .i64 o.f3) := pw_cell_below (pg_belowB Hb.out HB.out F15.out) C3.out
        have q4 : w15.cell? ⟨(ad.add (k * 5)).block, (ad.add (k * 5)).off + 4, none⟩ = some (.int .i64 o.f4) := pw_cell_below (pg_belowB Hb.out HB.out F15.out) C4.out
        go_wp2_with fail
        refine (page_number b g M15 o.f4 w15 P15.out (Nat.le_trans HBS.out F15.out.size) (by have := N15.out; omega)).mono ?_
        rintro y16 w16 ⟨⟨z16, rfl⟩, hp, hf⟩
        obtain ⟨M16, hM⟩ : ∃ M, M15 ++ (numEnc o.f4).1 = M := ⟨_, rfl⟩
        rw [hM] at hp
        have E16 := Aside0.mk hM
        have N16 := Aside0.mk (show M16.length ≤ 3524318 by have h1 := N15.out; have h2 := numEnc_len o.f4; rw [← hM, List.length_append]; omega)
        have P16 := Aside0.mk hp
        have F16 := Aside0.mk (pg_then F15.out hf)
        clear hp hf hM 
        clear q0 q1 q2 q3 q4 hv1 hv2
        have HE := Aside0.mk (show M10 ++ opEnc o = M16 by rw [← E16.out, ← E15.out, ← E14.out, ← E13.out, ← E12.out, ← E11.out]; unfold opEnc; rw [if_neg HV.out]; simp only [List.append_assoc])
        go_wp2
        go_roundw
        case rel => exact ⟨k + 1, by omega, by go_num, ⟨by rw [opsEncs_take (by rw [HN.out]; omega), HO.out, ← List.append_assoc, HM10.out, HE.out]; exact P16.out⟩, F16⟩
        case measure => simp [intOf]; omega
    · have hd1 : decide ((k : Int) < (n : Int)) = false := decide_eq_false (by omega)
      have hd2 : decide (k < n) = false := decide_eq_false hlt
      have hkn : l.take k = l := List.take_of_length_le (by rw [HN.out]; omega)
      rw [hkn] at PK
      have PF := Aside0.mk (show PageAt wr b 123 g (M0 ++ opsEnc l) by
        unfold opsEnc
        rw [HN.out, ← List.append_assoc, E1.out]
        exact PK.out)
      clear PK hkn
      go_wp2
      refine bodyPost_end (results_none rfl _ _ _) rfl ?_
      exact ⟨⟨_, rfl⟩, PF.out, FK.out⟩
theorem PageAt.below {W W1 : World} {base t g : Nat} {L : List Int} (h : PageAt W base t g L) (hb : Below W.heap.size W W1) : PageAt W1 base t g L := by
  obtain ⟨h1, v, h2, h3⟩ := h
  exact ⟨h1, v, (hb.block g (blk_lt h2)).trans h2, R8_keep h3 (fun k hk => hb.block k (R8_lt h3 k hk).2)⟩
theorem PageAt.lt {W : World} {base t g : Nat} {L : List Int} (h : PageAt W base t g L) : g < W.heap.size := by
  obtain ⟨h1, v, h2, h3⟩ := h
  exact blk_lt h2
set_option maxHeartbeats 16000000 in
set_option maxRecDepth 100000 in
theorem page_entry (wb : World) (b g : Nat) (M : List Int) (s v k se rq : Int) (A : Option Addr) (c n : Nat) (l : List S40) (w : World) (hb : b = wb.heap.size) (hn : l.length = n) (hC : Kd.C k40 wb A n l) (hn4 : n ≤ 4) (hB : Below wb.heap.size wb w) (hP : PageAt w b 123 g M) (hl : M.length ≤ 900) :
    Calls Try.prog 64 #[.pointer (some ⟨g, 0, none⟩), .agg #[.int .i64 s, .int .i64 v, .int .i64 k, .int .i64 se, .int .i64 rq, .slice A n c]] w fun e w' => (∃ x, e = .returned x) ∧ PageAt w' b 123 g ((((((M ++ (numEnc s).1) ++ (numEnc v).1) ++ (numEnc k).1) ++ (numEnc se).1) ++ (numEnc rq).1) ++ opsEnc l) ∧ Frm w w' (pg w b g) := by
  have hu24 := Try.underlying24
  have Hb := Aside0.mk hb
  have HC := Aside0.mk hC
  have HN := Aside0.mk hn
  have HB := Aside0.mk hB
  have HBB := Aside0.mk (show b ≤ w.heap.size by rw [hb]; exact hB.size)
  have HP := Aside0.mk hP
  obtain ⟨M10, hM10⟩ : ∃ M10, M10 = M := ⟨_, rfl⟩
  subst hM10
  have N10 := Aside0.mk hl
  clear hC hn hB hP hl hb
  go_enter Try.func64, Try.ntmps64
  go_wp2_with fail
  obtain ⟨p, hp⟩ : ∃ p, p = w.heap.size := ⟨_, rfl⟩
  obtain ⟨w10, hw10⟩ : ∃ w10, w10 = w.alloc (.cells #[.int .i64 s, .int .i64 v, .int .i64 k, .int .i64 se, .int .i64 rq, .slice A n c] 24) := ⟨_, rfl⟩
  rw [← hw10, ← hp]
  have HA := Aside0.mk (show Below w.heap.size w w10 by rw [hw10]; exact below_alloc (Below.refl _ _) _)
  have HPB := Aside0.mk (show w10.heap[p]? = some (.cells #[.int .i64 s, .int .i64 v, .int .i64 k, .int .i64 se, .int .i64 rq, .slice A n c] 24 (0, 0)) by rw [hw10, hp]; exact heap_alloc_new w _)
  have HNE := Aside0.mk (show p ≠ g by have := HP.out.lt; omega)
  have P10 := Aside0.mk (HP.out.below HA.out)
  have F10 := Aside0.mk (Frm.refl w10 (pg w10 b g))
  have HBS := Aside0.mk (show b ≤ w10.heap.size from Nat.le_trans HBB.out HA.out.size)
  clear hp hw10
  refine (page_number b g M10 s w10 P10.out (Nat.le_trans HBS.out F10.out.size) (by have := N10.out; omega)).mono ?_
  rintro y11 w11 ⟨⟨z11, rfl⟩, hp, hf⟩
  obtain ⟨M11, hM⟩ : ∃ M, M10 ++ (numEnc s).1 = M := ⟨_, rfl⟩
  rw [hM] at hp
  have E11 := Aside0.mk hM
  have N11 := Aside0.mk (show M11.length ≤ 905 by have h1 := N10.out; have h2 := numEnc_len s; rw [← hM, List.length_append]; omega)
  have P11 := Aside0.mk hp
  have F11 := Aside0.mk (pg_then F10.out hf)
  clear hp hf hM
  have q0 : w11.cell? ⟨p, 0, none⟩ = some (.int .i64 s) := blk_cell (pg_block F11.out HPB.out (by decide) HNE.out) 0
  have q1 : w11.cell? ⟨p, 1, none⟩ = some (.int .i64 v) := blk_cell (pg_block F11.out HPB.out (by decide) HNE.out) 1
  have q2 : w11.cell? ⟨p, 2, none⟩ = some (.int .i64 k) := blk_cell (pg_block F11.out HPB.out (by decide) HNE.out) 2
  have q3 : w11.cell? ⟨p, 3, none⟩ = some (.int .i64 se) := blk_cell (pg_block F11.out HPB.out (by decide) HNE.out) 3
  have q4 : w11.cell? ⟨p, 4, none⟩ = some (.int .i64 rq) := blk_cell (pg_block F11.out HPB.out (by decide) HNE.out) 4
  have q5 : w11.cell? ⟨p, 5, none⟩ = some (.slice A n c) := blk_cell (pg_block F11.out HPB.out (by decide) HNE.out) 5
  go_wp2_with fail
  refine (page_number b g M11 v w11 P11.out (Nat.le_trans HBS.out F11.out.size) (by have := N11.out; omega)).mono ?_
  rintro y12 w12 ⟨⟨z12, rfl⟩, hp, hf⟩
  obtain ⟨M12, hM⟩ : ∃ M, M11 ++ (numEnc v).1 = M := ⟨_, rfl⟩
  rw [hM] at hp
  have E12 := Aside0.mk hM
  have N12 := Aside0.mk (show M12.length ≤ 910 by have h1 := N11.out; have h2 := numEnc_len v; rw [← hM, List.length_append]; omega)
  have P12 := Aside0.mk hp
  have F12 := Aside0.mk (pg_then F11.out hf)
  clear hp hf hM q0 q1 q2 q3 q4 q5
  have q0 : w12.cell? ⟨p, 0, none⟩ = some (.int .i64 s) := blk_cell (pg_block F12.out HPB.out (by decide) HNE.out) 0
  have q1 : w12.cell? ⟨p, 1, none⟩ = some (.int .i64 v) := blk_cell (pg_block F12.out HPB.out (by decide) HNE.out) 1
  have q2 : w12.cell? ⟨p, 2, none⟩ = some (.int .i64 k) := blk_cell (pg_block F12.out HPB.out (by decide) HNE.out) 2
  have q3 : w12.cell? ⟨p, 3, none⟩ = some (.int .i64 se) := blk_cell (pg_block F12.out HPB.out (by decide) HNE.out) 3
  have q4 : w12.cell? ⟨p, 4, none⟩ = some (.int .i64 rq) := blk_cell (pg_block F12.out HPB.out (by decide) HNE.out) 4
  have q5 : w12.cell? ⟨p, 5, none⟩ = some (.slice A n c) := blk_cell (pg_block F12.out HPB.out (by decide) HNE.out) 5
  go_wp2_with fail
  refine (page_number b g M12 k w12 P12.out (Nat.le_trans HBS.out F12.out.size) (by have := N12.out; omega)).mono ?_
  rintro y13 w13 ⟨⟨z13, rfl⟩, hp, hf⟩
  obtain ⟨M13, hM⟩ : ∃ M, M12 ++ (numEnc k).1 = M := ⟨_, rfl⟩
  rw [hM] at hp
  have E13 := Aside0.mk hM
  have N13 := Aside0.mk (show M13.length ≤ 915 by have h1 := N12.out; have h2 := numEnc_len k; rw [← hM, List.length_append]; omega)
  have P13 := Aside0.mk hp
  have F13 := Aside0.mk (pg_then F12.out hf)
  clear hp hf hM q0 q1 q2 q3 q4 q5
  have q0 : w13.cell? ⟨p, 0, none⟩ = some (.int .i64 s) := blk_cell (pg_block F13.out HPB.out (by decide) HNE.out) 0
  have q1 : w13.cell? ⟨p, 1, none⟩ = some (.int .i64 v) := blk_cell (pg_block F13.out HPB.out (by decide) HNE.out) 1
  have q2 : w13.cell? ⟨p, 2, none⟩ = some (.int .i64 k) := blk_cell (pg_block F13.out HPB.out (by decide) HNE.out) 2
  have q3 : w13.cell? ⟨p, 3, none⟩ = some (.int .i64 se) := blk_cell (pg_block F13.out HPB.out (by decide) HNE.out) 3
  have q4 : w13.cell? ⟨p, 4, none⟩ = some (.int .i64 rq) := blk_cell (pg_block F13.out HPB.out (by decide) HNE.out) 4
  have q5 : w13.cell? ⟨p, 5, none⟩ = some (.slice A n c) := blk_cell (pg_block F13.out HPB.out (by decide) HNE.out) 5
  go_wp2_with fail
  refine (page_number b g M13 se w13 P13.out (Nat.le_trans HBS.out F13.out.size) (by have := N13.out; omega)).mono ?_
  rintro y14 w14 ⟨⟨z14, rfl⟩, hp, hf⟩
  obtain ⟨M14, hM⟩ : ∃ M, M13 ++ (numEnc se).1 = M := ⟨_, rfl⟩
  rw [hM] at hp
  have E14 := Aside0.mk hM
  have N14 := Aside0.mk (show M14.length ≤ 920 by have h1 := N13.out; have h2 := numEnc_len se; rw [← hM, List.length_append]; omega)
  have P14 := Aside0.mk hp
  have F14 := Aside0.mk (pg_then F13.out hf)
  clear hp hf hM q0 q1 q2 q3 q4 q5
  have q0 : w14.cell? ⟨p, 0, none⟩ = some (.int .i64 s) := blk_cell (pg_block F14.out HPB.out (by decide) HNE.out) 0
  have q1 : w14.cell? ⟨p, 1, none⟩ = some (.int .i64 v) := blk_cell (pg_block F14.out HPB.out (by decide) HNE.out) 1
  have q2 : w14.cell? ⟨p, 2, none⟩ = some (.int .i64 k) := blk_cell (pg_block F14.out HPB.out (by decide) HNE.out) 2
  have q3 : w14.cell? ⟨p, 3, none⟩ = some (.int .i64 se) := blk_cell (pg_block F14.out HPB.out (by decide) HNE.out) 3
  have q4 : w14.cell? ⟨p, 4, none⟩ = some (.int .i64 rq) := blk_cell (pg_block F14.out HPB.out (by decide) HNE.out) 4
  have q5 : w14.cell? ⟨p, 5, none⟩ = some (.slice A n c) := blk_cell (pg_block F14.out HPB.out (by decide) HNE.out) 5
  go_wp2_with fail
  refine (page_number b g M14 rq w14 P14.out (Nat.le_trans HBS.out F14.out.size) (by have := N14.out; omega)).mono ?_
  rintro y15 w15 ⟨⟨z15, rfl⟩, hp, hf⟩
  obtain ⟨M15, hM⟩ : ∃ M, M14 ++ (numEnc rq).1 = M := ⟨_, rfl⟩
  rw [hM] at hp
  have E15 := Aside0.mk hM
  have N15 := Aside0.mk (show M15.length ≤ 925 by have h1 := N14.out; have h2 := numEnc_len rq; rw [← hM, List.length_append]; omega)
  have P15 := Aside0.mk hp
  have F15 := Aside0.mk (pg_then F14.out hf)
  clear hp hf hM q0 q1 q2 q3 q4 q5
  have q0 : w15.cell? ⟨p, 0, none⟩ = some (.int .i64 s) := blk_cell (pg_block F15.out HPB.out (by decide) HNE.out) 0
  have q1 : w15.cell? ⟨p, 1, none⟩ = some (.int .i64 v) := blk_cell (pg_block F15.out HPB.out (by decide) HNE.out) 1
  have q2 : w15.cell? ⟨p, 2, none⟩ = some (.int .i64 k) := blk_cell (pg_block F15.out HPB.out (by decide) HNE.out) 2
  have q3 : w15.cell? ⟨p, 3, none⟩ = some (.int .i64 se) := blk_cell (pg_block F15.out HPB.out (by decide) HNE.out) 3
  have q4 : w15.cell? ⟨p, 4, none⟩ = some (.int .i64 rq) := blk_cell (pg_block F15.out HPB.out (by decide) HNE.out) 4
  have q5 : w15.cell? ⟨p, 5, none⟩ = some (.slice A n c) := blk_cell (pg_block F15.out HPB.out (by decide) HNE.out) 5
  go_wp2_with fail
  refine (page_ops wb b g M15 A c n l w15 Hb.out HN.out HC.out hn4 (pg_belowB Hb.out (by rw [Hb.out]; exact HB.out) (pg_then (Frm.of_below HA.out _) F15.out)) P15.out (by have := N15.out; omega)).mono ?_
  rintro y16 w16 ⟨⟨z16, rfl⟩, hp, hf⟩
  have P16 := Aside0.mk (show PageAt w16 b 123 g ((((((M10 ++ (numEnc s).1) ++ (numEnc v).1) ++ (numEnc k).1) ++ (numEnc se).1) ++ (numEnc rq).1) ++ opsEnc l) by rw [E11.out, E12.out, E13.out, E14.out, E15.out]; exact hp)
  have F16 := Aside0.mk (pg_then (Frm.of_below HA.out (pg w b g)) (pg_then F15.out hf))
  clear hp hf q0 q1 q2 q3 q4 q5
  go_wp2
  refine bodyPost_end (results_none rfl _ _ _) rfl ?_
  exact ⟨⟨_, rfl⟩, P16.out, F16.out⟩
theorem EntryRight_N (s v k se rq : Int) (A : Option Addr) (c n : Nat) (l : List S40) (w : World) (hn : l.length = n) (hC : Kd.C k40 w A n l) (hc : n ≤ c) :
    Calls Try.prog 63 #[.agg #[.int .i64 s, .int .i64 v, .int .i64 k, .int .i64 se, .int .i64 rq, .slice A n c]] w fun e w' => e = .returned (.bool (entOk s v k se rq l)) ∧ Below w.heap.size w w' := by
  subst hn
  exact heraldref3_EntryRight.calls (l.length + 2) s v k se rq A c l _ w hC hc (ref_Entry_eq s v k se rq l (Kd.C_max hC) _ (by omega))
def heraldref3_EncodeEntry.f (s v k se rq : Int) (l : List S40) : Option (List Int × Int) := some (if entOk s v k se rq l = true then (entBytes s v k se rq l, 0) else ([], 30))
theorem entOk_ops {s v k se rq : Int} {l : List S40} (h : entOk s v k se rq l = true) : l.length ≤ 4 := by
  unfold entOk at h
  simp only [Bool.and_eq_true] at h
  have h2 := h.2.2.2.2.2
  split at h2
  · simp only [Bool.and_eq_true, opsOk, decide_eq_true_eq] at h2
    exact h2.2.2
  · simp only [Bool.and_eq_true, decide_eq_true_eq] at h2
    omega
set_option maxHeartbeats 8000000 in
set_option maxRecDepth 100000 in
theorem heraldref3_EncodeEntry.calls (s v k se rq : Int) (A : Option Addr) (c : Nat) (l : List S40) (r1 : List Int) (r2 : Int) (w : World) (hr0_5 : Kd.C k40 w A l.length l) (hc0_5 : l.length ≤ c) (h : heraldref3_EncodeEntry.f s v k se rq l = some (r1, r2)) :
    Calls Try.prog 47 #[.agg #[.int .i64 s, .int .i64 v, .int .i64 k, .int .i64 se, .int .i64 rq, .slice A l.length c]] w fun e w' => ∃ v0_ : Value, e = .returned (.tuple #[v0_, .int .i64 r2]) ∧ Kd.R (Kd.int .u8) 5 w' w.heap.size (fun _ => True) v0_ r1 ∧ Below w.heap.size w w' := by
  have hu24 := Try.underlying24
  obtain ⟨n, hn⟩ : ∃ n, l.length = n := ⟨_, rfl⟩
  rw [hn] at hr0_5 hc0_5 ⊢
  unfold heraldref3_EncodeEntry.f at h
  replace h := Option.some.inj h
  have HC := Aside0.mk hr0_5
  have HN := Aside0.mk hn
  clear hr0_5 hn
  obtain ⟨ok, hok⟩ : ∃ ok, entOk s v k se rq l = ok := ⟨_, rfl⟩
  rw [hok] at h
  have HOK := Aside0.mk hok
  have HH := Aside0.mk h
  clear h hok
  go_enter Try.func47, Try.ntmps47
  go_wp2_with fail
  obtain ⟨p, hp⟩ : ∃ p, p = w.heap.size := ⟨_, rfl⟩
  obtain ⟨w1, hw1⟩ : ∃ w1, w1 = w.alloc (.cells #[.int .i64 s, .int .i64 v, .int .i64 k, .int .i64 se, .int .i64 rq, .slice A n c] 24) := ⟨_, rfl⟩
  rw [← hw1, ← hp]
  have HA := Aside0.mk (show Below w.heap.size w w1 by rw [hw1]; exact below_alloc (Below.refl _ _) _)
  have HPB := Aside0.mk (show w1.heap[p]? = some (.cells #[.int .i64 s, .int .i64 v, .int .i64 k, .int .i64 se, .int .i64 rq, .slice A n c] 24 (0, 0)) by rw [hw1, hp]; exact heap_alloc_new w _)
  have HPW := Aside0.mk (show p = w.heap.size from hp)
  clear hp hw1
  refine (EntryRight_N s v k se rq A c n l w1 HN.out (Kd.C_below HC.out HA.out) hc0_5).mono ?_
  rintro e2 w2 ⟨rfl, hb⟩
  rw [HOK.out]
  have HB2 := Aside0.mk (below_step HA.out hb)
  have hp2 : w2.heap[p]? = some (.cells #[.int .i64 s, .int .i64 v, .int .i64 k, .int .i64 se, .int .i64 rq, .slice A n c] 24 (0, 0)) := (hb.block p (blk_lt HPB.out)).trans HPB.out
  clear hb
  cases ok
  · have hr := HH.out
    simp only [Bool.false_eq_true, if_false, Prod.mk.injEq] at hr
    obtain ⟨rfl, rfl⟩ := hr
    clear hp2
    go_wp2
    refine bodyPost_ret (results_tmp2 rfl _ _ _) rfl ?_
    exact ⟨_, rfl, Kd.R_nil _ _ _ _ _, HB2.out⟩
  · have hr := HH.out
    simp only [if_true, Prod.mk.injEq] at hr
    obtain ⟨rfl, rfl⟩ := hr
    have hn4 : n ≤ 4 := by rw [← HN.out]; exact entOk_ops HOK.out
    have hp3 : (w2.alloc (.cells #[.slice none 0 0] 123)).heap[p]? = some (.cells #[.int .i64 s, .int .i64 v, .int .i64 k, .int .i64 se, .int .i64 rq, .slice A n c] 24 (0, 0)) := (Below.heap_alloc _ _ _ (blk_lt hp2)).trans hp2
    have k0 := blk_cell hp3 0
    have k1 := blk_cell hp3 1
    have k2 := blk_cell hp3 2
    have k3 := blk_cell hp3 3
    have k4 := blk_cell hp3 4
    have k5 := blk_cell hp3 5
    clear hp2 hp3
    go_wp2_with fail
    obtain ⟨w3, hw3⟩ : ∃ w3, w3 = w2.alloc (.cells #[.slice none 0 0] 123) := ⟨_, rfl⟩
    obtain ⟨g, hg⟩ : ∃ g, g = w2.heap.size := ⟨_, rfl⟩
    rw [← hw3, ← hg]
    have HG := Aside0.mk (show w3.heap[g]? = some (.cells #[.slice none 0 0] 123 (0, 0)) by rw [hw3, hg]; exact heap_alloc_new w2 _)
    have HB3 := Aside0.mk (show Below w.heap.size w w3 by rw [hw3]; exact below_alloc HB2.out _)
    have HGE := Aside0.mk (show w.heap.size ≤ g by rw [hg]; exact HB2.out.size)
    clear hw3 hg k0 k1 k2 k3 k4 k5
    refine (page_entry w w.heap.size g [] s v k se rq A c n l w3 rfl HN.out HC.out hn4 HB3.out ⟨HGE.out, _, HG.out, Kd.R_nil _ _ _ _ _⟩ (by simp)).mono ?_
    rintro e4 w4 ⟨⟨z4, rfl⟩, hp4, hf4⟩
    have HB4 := Aside0.mk (pg_below HB3.out hf4)
    obtain ⟨_, v4, hg4, ho4⟩ := hp4
    obtain ⟨A4, n4, c4, rfl, hn4', hc4⟩ := R8_form ho4
    have HO4 := Aside0.mk ho4
    have q0 : w4.cell? ⟨g, 0, none⟩ = some (.slice A4 n4 c4) := blk_cell hg4 0
    clear hf4 hg4 ho4 hn4' hc4
    go_wp2
    refine bodyPost_ret (results_tmp2 rfl _ _ _) rfl ?_
    exact ⟨_, rfl, HO4.out, HB4.out⟩

end Go.Proofs.Ytdbniihjkiecbaa.PW
