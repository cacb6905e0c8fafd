/- A queue of rows of one's own: a row that may begin inside its block, whose elements lead to no common block. -/
import Derived.Test.YtnanaojjhmpilaaS2
namespace Go.Proofs.Ytnanaojjhmpilaa.PW
open Go.RowKit Go.Proofs.YtnanaojjhmpilaaW.PrintWords Go.Proofs.YtnanaojjhmpilaaW.PrintLast Go.Proofs.YtnanaojjhmpilaaW.PrintMore
set_option linter.unusedVariables false

def SQ {α : Type} (d : Kd α) (e : Nat) (w : World) (base : Nat) (ok : Nat → Prop) (v : Value) (xs : List α) : Prop := ∃ f i0, (Kd.tag f d).Q e w base ok v (xs.zipIdx i0)
section
variable {α : Type} {d : Kd α} {e : Nat} {w w1 W : World} {base : Nat} {ok ok' : Nat → Prop} {v : Value} {xs : List α}
theorem SQ_nil (d : Kd α) (e : Nat) (w : World) (base : Nat) (ok : Nat → Prop) : SQ d e w base ok (.slice none 0 0) [] := ⟨fun _ => 0, 0, Kd.Q_nil _ _ _ _ _⟩
theorem SQ_mono (h : SQ d e w base ok v xs) (hok : ∀ k, ok k → ok' k) : SQ d e w base ok' v xs := by
  obtain ⟨f, i0, h⟩ := h
  exact ⟨f, i0, Kd.Q_mono h hok⟩
theorem SQ_step (h : SQ d e w base ok v xs) (hm : ∀ k, ok k → k < w.heap.size → w1.heap[k]? = w.heap[k]?) : SQ d e w1 base ok v xs := by
  obtain ⟨f, i0, h⟩ := h
  exact ⟨f, i0, Kd.Q_step h hm⟩
theorem SQ_bound (h : SQ d e w base ok v xs) : SQ d e w base (fun k => ok k ∧ base ≤ k ∧ k < w.heap.size ∧ ∃ q, q ∈ e :: d.E ∧ ∃ cells, w.heap[k]? = some (.cells cells q (0, 0))) v xs := by
  obtain ⟨f, i0, h⟩ := h
  exact ⟨f, i0, Kd.Q_bound h⟩
theorem SQ_ok (h : SQ d e w base ok v xs) : ∀ k, v.ownBlock = some k → ok k := by
  obtain ⟨f, i0, h⟩ := h
  exact h.1
theorem SQ_slice (h : SQ d e w base ok v xs) : ∃ A c, v = .slice A xs.length c ∧ xs.length ≤ c := by
  obtain ⟨f, i0, h⟩ := h
  obtain ⟨A, c, e1, hl⟩ := Kd.Q_slice h
  rw [List.length_zipIdx] at e1 hl
  exact ⟨A, c, e1, hl⟩
theorem SQ_lower {base' : Nat} (h : SQ d e w base ok v xs) (hb : base' ≤ base) : SQ d e w base' ok v xs := by
  obtain ⟨f, i0, h⟩ := h
  exact ⟨f, i0, Kd.Q_lower h hb⟩
end
theorem Q_tag {α : Type} {d : Kd α} {e base : Nat} {ok : Nat → Prop} {w : World} {v : Value} {f f' : Nat → Nat} {zs : List (α × Nat)} (h : (Kd.tag f d).Q e w base ok v zs) (hf : ∀ k, ok k → k < w.heap.size → f' k = f k) : (Kd.tag f' d).Q e w base ok v zs := by
  obtain ⟨h0, inner, ho, hr⟩ := Kd.Q_bound h
  exact ⟨fun k hk => (h0 k hk).1, inner, ho, hr.1, fun j p hj => d.M_mono (fun k hk => ⟨⟨hk.1.1.1, hk.1.2⟩, (hf k hk.1.1.1 hk.1.1.2.2.1).trans hk.2⟩) (hr.2 j p hj)⟩
theorem zip_snoc' {α : Type} (xs : List α) (p : α) (i0 : Nat) : (xs ++ [p]).zipIdx i0 = xs.zipIdx i0 ++ [(p, i0 + xs.length)] := by rw [List.zipIdx_append]; simp
open Classical in
/-- append(v, p): p's blocks are okp, none of them the queue's. -/
theorem SQ_run {α : Type} {P : Program} (d : Kd α) {w0 W : World} (base : Nat) (t ty e : TypeId) (z : Value) (bytes : Nat)
    (ht : P.underlying t = some (.slice e)) (hinfo : (P.info? e).map (fun i => (i.zero, i.size, i.bytes)) = some (some z, d.sz, bytes)) (hz : z.cells.size = d.sz) (hs0 : 0 < d.sz) (hb0 : 0 < bytes)
    (v : Value) (xs : List α) (p : α) (cs : List Value) (ok okp : Nat → Prop) (hp : d.M W base okp p cs) (hokp : ∀ k, okp k → ok k ∧ some k ≠ v.ownBlock) (hfresh : ∀ k, W.heap.size ≤ k → ok k)
    (HO : SQ d e W base (fun k => ok k ∧ ¬ okp k) v xs) (HB : Below base w0 W) (hbase : base ≤ W.heap.size) (hl : (xs.length + 1) * bytes ≤ 140737488355328) :
    ∃ v1 w1, (Builtin.append_ #[t, t] ty #[v, .slice (some ⟨W.heap.size, 0, none⟩) 1 1]).run P (W.alloc (.cells cs.toArray e)) = .ok v1 w1 ∧ SQ d e w1 base ok v1 (xs ++ [p]) ∧ Below base w0 w1 ∧ W.grownBy w1 v.ownBlock ∧ (v1.ownBlock = v.ownBlock ∨ ∃ b, v1.ownBlock = some b ∧ W.heap.size ≤ b) := by
  obtain ⟨f, i0, h⟩ := HO
  have h' : (Kd.tag (fun k => if okp k then i0 + xs.length else f k) d).Q e W base (fun k => ok k ∧ ¬ okp k) v (xs.zipIdx i0) := Q_tag h (fun k hk _ => if_neg hk.2)
  obtain ⟨v1, w1, hr, h1, h2, h3, h4⟩ := Kd.Q_run (P := P) (Kd.tag (fun k => if okp k then i0 + xs.length else f k) d) base t ty e z bytes ht hinfo hz hs0 hb0 v (xs.zipIdx i0) (p, i0 + xs.length) cs ok okp
    (d.M_mono (fun k hk => ⟨hk, if_pos hk⟩) hp) hokp hfresh (Kd.Q_mono h' (fun _ hk => hk.1)) HB hbase (by rw [List.length_zipIdx]; exact hl)
  rw [← zip_snoc'] at h1
  exact ⟨v1, w1, hr, ⟨_, i0, h1⟩, h2, h3, h4⟩
/-- The head goes out: its blocks are none of the rest's. -/
theorem SQ_pop {α : Type} {d : Kd α} {e : Nat} {W : World} {base : Nat} {ok : Nat → Prop} {A : Option Addr} {n c : Nat} {x : α} {xs : List α} (h : SQ d e W base ok (.slice A n c) (x :: xs)) :
    ∃ (okx : Nat → Prop) (ad : Addr) (cs : List Value), A = some ad ∧ cs.length = d.sz ∧ d.M W base okx x cs ∧ (∀ j u, cs[j]? = some u → W.cell? (ad.add j) = some u) ∧ (∀ k, okx k → ok k ∧ some k ≠ (Value.slice A n c).ownBlock) ∧
      SQ d e W base (fun k => ok k ∧ ¬ okx k) (.slice (if c = 1 then A else A.map (·.add (1 * d.sz))) (n - 1) (c - 1)) xs := by
  obtain ⟨f, i0, h⟩ := h
  have hn := (Kd.Q_reads' h).1
  rw [List.length_zipIdx, List.length_cons] at hn
  have hd := Kd.Q_drop (k := 1) h (by simp)
  obtain ⟨h0, inner, ho, hr⟩ := h
  rw [List.length_zipIdx, List.length_cons, ← hn] at ho
  obtain ⟨ad, hA, hc⟩ := q_cells ho (by omega)
  have hb : (Value.slice (if c = 1 then A else A.map (·.add (1 * d.sz))) (n - 1) (c - 1)).ownBlock = (Value.slice A n c).ownBlock := by
    split
    · cases A <;> rfl
    · cases A with
      | none => rfl
      | some a => simp [Value.ownBlock]; unfold Addr.add; split <;> rfl
  have hM := hr.2 0 (x, i0) (by simp)
  refine ⟨fun k => (ok k ∧ some k ≠ (Value.slice A n c).ownBlock) ∧ f k = i0, ad, (inner.drop (0 * d.sz)).take d.sz, hA, (Kd.tag f d).K_len ((Kd.tag f d).K_of_M hM), hM, fun j u hu => ?_, fun k hk => hk.1, f, i0 + 1, ?_⟩
  · rw [List.getElem?_take] at hu
    split at hu
    · rw [List.getElem?_drop, Nat.zero_mul, Nat.zero_add] at hu
      exact hc j u hu
    · cases hu
  · have e1 : ((x :: xs).zipIdx i0).drop 1 = xs.zipIdx (i0 + 1) := by simp [List.zipIdx_cons]
    rw [e1] at hd
    obtain ⟨h1, inner1, ho1, hr1⟩ := hd
    refine ⟨fun k hk => ⟨h1 k hk, fun hx => hx.1.2 (by rw [← hb]; exact hk.symm)⟩, inner1, ho1, hr1.1, fun j p hj => d.M_mono (fun k hk => ⟨⟨⟨hk.1.1, fun hx => ?_⟩, hk.1.2⟩, hk.2⟩) (hr1.2 j p hj)⟩
    rw [List.getElem?_zipIdx] at hj
    obtain ⟨q, hq, rfl⟩ := Option.map_eq_some_iff.1 hj
    have h3 := hk.2
    have h4 := hx.2
    simp only at h3
    omega
end Go.Proofs.Ytnanaojjhmpilaa.PW
