/- Streams: a body taken out; what is known while bodies are taken. -/
import Derived.Test.YtnanaojjhmpilaaL2
import Derived.Outline
namespace Go.Proofs.Ytnanaojjhmpilaa.PW
open Go.RowKit Go.Proofs.YtnanaojjhmpilaaW.PrintWords Go.Proofs.YtnanaojjhmpilaaW.PrintLast Go.Proofs.YtnanaojjhmpilaaW.PrintMore
set_option linter.unusedVariables false
set_option linter.unusedSimpArgs false
attribute [local go_sem] Oper.semAt_some

/-- A block of the stream's kinds: its struct, a row of bodies, a row of bytes. -/
def Rowy (w : World) (base k : Nat) : Prop := base ≤ k ∧ ∃ cs q, w.heap[k]? = some (.cells cs q (0, 0)) ∧ (q = 53 ∨ q = 22 ∨ q = 5)
theorem Rowy.lt {w : World} {base k : Nat} (h : Rowy w base k) : k < w.heap.size := by obtain ⟨_, cs, q, h, _⟩ := h; exact blk_lt h
theorem Rowy.ne {w : World} {base k g t : Nat} {cs : Array Value} (h : Rowy w base k) (hg : w.heap[g]? = some (.cells cs t (0, 0))) (ht : t ≠ 53 ∧ t ≠ 22 ∧ t ≠ 5) : k ≠ g := by
  obtain ⟨_, cs', q, h, hq⟩ := h
  rintro rfl
  rw [h] at hg
  injection hg with hg
  injection hg with _ hg
  rcases hq with h | h | h <;> simp_all
theorem R_rowy {w : World} {base : Nat} {ok : Nat → Prop} {v : Value} {l : List Int} (h : Kd.R (Kd.int .u8) 5 w base ok v l) : Kd.R (Kd.int .u8) 5 w base (fun k => ok k ∧ Rowy w base k) v l :=
  Kd.R_mono (Kd.R_bound h) (fun k hk => ⟨hk.1, hk.2.1, by obtain ⟨q, hq, cs, hc⟩ := hk.2.2.2; exact ⟨cs, q, hc, .inr (.inr (by simpa [Kd.int, Kd.scalar] using hq))⟩⟩)
theorem SQ_rowy {w : World} {base : Nat} {ok : Nat → Prop} {v : Value} {fs : List (List Int)} (h : SQ (Kd.slice 5 (Kd.int .u8)) 22 w base ok v fs) : SQ (Kd.slice 5 (Kd.int .u8)) 22 w base (fun k => ok k ∧ Rowy w base k) v fs :=
  SQ_mono (SQ_bound h) (fun k hk => ⟨hk.1, hk.2.1, by obtain ⟨q, hq, cs, hc⟩ := hk.2.2.2; exact ⟨cs, q, hc, .inr (by simpa [Kd.int, Kd.scalar, Kd.slice] using hq)⟩⟩)
theorem Strm_rowy {w : World} {base b sk : Nat} {ok : Nat → Prop} {op : List Int} {fs : List (List Int)} (h : Strm w base ok b op fs sk) : Strm w base (fun k => ok k ∧ Rowy w base k) b op fs sk := by
  obtain ⟨h1, h2, vo, vf, okf, h3, h4, h5, h6⟩ := h
  exact ⟨h1, ⟨h2, h1, _, _, h3, .inl rfl⟩, vo, vf, fun k => okf k ∧ Rowy w base k, h3, Kd.R_mono (R_rowy h4) (fun k hk => ⟨⟨hk.1.1, hk.2⟩, hk.1.2.1, fun h7 => hk.1.2.2 h7.1⟩), SQ_rowy h5, fun k hk => ⟨⟨(h6 k hk.1).1, hk.2⟩, (h6 k hk.1).2⟩⟩
theorem Strm_blk {w : World} {base b sk : Nat} {ok : Nat → Prop} {op : List Int} {fs : List (List Int)} (h : Strm w base ok b op fs sk) : ∃ vo A c, w.heap[b]? = some (.cells #[vo, .slice A fs.length c, .int .i64 (sk : Int)] 53 (0, 0)) ∧ fs.length ≤ c := by
  obtain ⟨h1, h2, vo, vf, okf, h3, h4, h5, h6⟩ := h
  obtain ⟨A, c, rfl, hl⟩ := SQ_slice h5
  exact ⟨vo, A, c, h3, hl⟩
/-- The first body taken out. -/
theorem Strm_pop {w : World} {base b sk : Nat} {ok : Nat → Prop} {op x : List Int} {fs : List (List Int)} (h : Strm w base ok b op (x :: fs) sk) :
    ∃ vo A c okx ad Ax cx, w.heap[b]? = some (.cells #[vo, .slice A (fs.length + 1) c, .int .i64 (sk : Int)] 53 (0, 0)) ∧ fs.length + 1 ≤ c ∧ A = some ad ∧ w.cell? ad = some (.slice Ax x.length cx) ∧ (∀ k, okx k → ok k) ∧
      Strm (w.setCell ⟨b, 1, none⟩ (.slice (if c = 1 then A else A.map (·.add 1)) (fs.length + 1 - 1) (c - 1))) base (fun k => ok k ∧ ¬ okx k) b op fs sk ∧
      Kd.R (Kd.int .u8) 5 (w.setCell ⟨b, 1, none⟩ (.slice (if c = 1 then A else A.map (·.add 1)) (fs.length + 1 - 1) (c - 1))) base okx (.slice Ax x.length cx) x := by
  obtain ⟨h1, h2, vo, vf, okf, h3, h4, h5, h6⟩ := h
  obtain ⟨A, c, rfl, hl⟩ := SQ_slice h5
  obtain ⟨okx, ad, cs, hA, hcs, hM, hc, hox, hq⟩ := SQ_pop h5
  obtain ⟨v, rfl, hr⟩ : ∃ v, cs = [v] ∧ Kd.R (Kd.int .u8) 5 w base okx v x := hM
  obtain ⟨Ax, cx, rfl, _⟩ := Kd.R_reads hr
  have hcell := hc 0 _ (by simp; rfl)
  rw [Addr.add_zero'] at hcell
  refine ⟨vo, A, c, okx, ad, Ax, cx, h3, hl, hA, hcell, fun k hk => (h6 k (hox k hk).1).1, ⟨h1, ⟨h2, fun hb => (h6 b (hox b hb).1).2 rfl⟩, vo, _, (fun k => okf k ∧ ¬ okx k), by simpa using blk_set h3 1 (.slice (if c = 1 then A else A.map (·.add 1)) (fs.length + 1 - 1) (c - 1)), ?_, ?_, fun k hk => ⟨⟨(h6 k hk.1).1, hk.2⟩, (h6 k hk.1).2⟩⟩, Kd.R_far hr (fun k hk => (h6 k (hox k hk).1).2) _⟩
  · exact Kd.R_mono (Kd.R_far h4 (fun k hk => hk.2.1) _) (fun k hk => ⟨⟨hk.1, fun hx => hk.2.2 (hox k hx).1⟩, hk.2.1, fun hx => hk.2.2 hx.1⟩)
  · exact SQ_step hq (fun k hk _ => Below.heap_setCell w _ _ k (h6 k hk.1).2)
/-- Rows of bodies, appended to, in a plain region. -/
theorem SQ_append {α : Type} {ops : Array Oper} {o : Oper} {a : Act} {Q : Exit → Act → World → Prop} {rest : List Oper} {P : Program} (d : Kd α) {w0 W : World} (base : Nat) (hgd : o.guard = none) (s x : Operand) (t e : TypeId) (z : Value) (bytes : Nat)
    (ho : o.op = .call { callee := .builtin .append, args := #[s, x], argTypes := #[t, t] })
    (ht : P.underlying t = some (.slice e)) (hinfo : (P.info? e).map (fun i => (i.zero, i.size, i.bytes)) = some (some z, d.sz, bytes)) (hz : z.cells.size = d.sz) (hs0 : 0 < d.sz) (hb0 : 0 < bytes)
    (v : Value) (xs : List α) (p : α) (cs : List Value) (ok okp : Nat → Prop) (hs : a.eval s = v) (hx : a.eval x = .slice (some ⟨W.heap.size, 0, none⟩) 1 1) (hp : d.M W base okp p cs) (hokp : ∀ k, okp k → ok k ∧ some k ≠ v.ownBlock) (hfresh : ∀ k, W.heap.size ≤ k → ok k)
    (HO : SQ d e W base (fun k => ok k ∧ ¬ okp k) v xs) (HB : Below base w0 W) (hbase : base ≤ W.heap.size) (hl : (xs.length + 1) * bytes ≤ 140737488355328)
    (h : ∀ v1 w1, SQ d e w1 base ok v1 (xs ++ [p]) → Below base w0 w1 → W.grownBy w1 v.ownBlock → (v1.ownBlock = v.ownBlock ∨ ∃ b, v1.ownBlock = some b ∧ W.heap.size ≤ b) → wpList P ops Q rest (a.put o.dst v1) w1) :
    Stop (wpList P ops Q (o :: rest) a (W.alloc (.cells cs.toArray e))) := by
  obtain ⟨v1, w1, hr, h1, h2, h3, h4⟩ := SQ_run (P := P) d base t o.type e z bytes ht hinfo hz hs0 hb0 v xs p cs ok okp hp hokp hfresh HO HB hbase hl
  refine wpList_plain hgd fun K hK => ?_
  unfold Oper.wp execOp
  simp only [ho, resolve, invoke, builtin, Sem.run_bind, Sem.run_pure, Result.andThen_ok, List.map_toArray, List.map_cons, List.map_nil, hs, hx, hr]
  exact hK _ _ (h v1 w1 h1 h2 h3 h4)
/-- A plain region in a round (the wide fence). -/
theorem region_round {P : Program} {id : Nat} {L : List Oper} {Q : Exit → Act → World → Prop} {a : Act} {w : World} (l₀ : Nat) (hno : ¬ LetsOut Q) (hd : ∀ o ∈ L, ∀ c, o.op ≠ .defer c) (h : wpList P L.toArray Q L a w) : (Code.region id L.toArray false).wpIn (Fence.wide.inRound l₀) 0 P Q a w :=
  wpIn_region_lit (wpListIn_of l₀ L a w hno hd h)

/-- While bodies are taken: pre so far, fs2 still in the stream; okx: the body that is on its way. -/
def TkC (w0 : World) (base b B6 B3 Bn : Nat) (ok : Nat → Prop) (op : List Int) (sk : Nat) (most : Int) (T : Nat → Prop) (pre fs2 : List (List Int)) (okx : Nat → Prop) (W : World) : Prop :=
  ∃ v okS okr, Strm W base okS b op fs2 sk ∧ SQ (Kd.slice 5 (Kd.int .u8)) 22 W base okr v pre ∧ W.heap[B6]? = some (.cells #[v] 37 (0, 0)) ∧ W.heap[B3]? = some (.cells #[.int .i64 most] 3 (0, 0)) ∧ W.heap[Bn]? = some (.cells #[.pointer (some ⟨b, 0, none⟩)] 51 (0, 0)) ∧
    (∀ k, okS k → ok k ∧ ¬ okr k ∧ ¬ okx k ∧ Rowy W base k) ∧ (∀ k, okr k → (ok k ∨ w0.heap.size ≤ k) ∧ ¬ okx k ∧ Rowy W base k) ∧ (∀ k, okx k → ok k ∧ Rowy W base k) ∧ (∀ k, T k → ¬ okS k ∧ ¬ okr k ∧ ¬ okx k ∧ k ≠ B6 ∧ k < W.heap.size) ∧ Frm w0 W (fun k => k = b) ∧ ∀ k, v.ownBlock = some k → w0.heap.size ≤ k
section
variable {w0 W W' : World} {base b B6 B3 Bn sk : Nat} {ok okx T T' : Nat → Prop} {op : List Int} {most : Int} {pre fs2 : List (List Int)}
theorem TkC_own (h : TkC w0 base b B6 B3 Bn ok op sk most T pre fs2 okx W) {row : Option Nat} (hg : W.grownBy W' row) (hr : ∀ r, row = some r → w0.heap.size ≤ r ∧ ∃ o : Obj, W.heap[r]? = some o ∧ o.isCells = false) (hT : ∀ k, T' k → T k ∨ (W.heap.size ≤ k ∧ k < W'.heap.size)) :
    TkC w0 base b B6 B3 Bn ok op sk most T' pre fs2 okx W' := by
  obtain ⟨v, okS, okr, h1, h2, h3, h4, h5, h6, h7, h8, h9, h10, h11⟩ := h
  have key : ∀ {k : Nat} {cs : Array Value} {q : TypeId} {m : Nat × Nat}, W.heap[k]? = some (.cells cs q m) → W'.heap[k]? = some (.cells cs q m) := fun {k cs q m} hk =>
    (hg.block k (blk_lt hk) (fun e => by obtain ⟨_, o, ho, hc⟩ := hr k e.symm; rw [hk] at ho; cases ho; cases hc)).trans hk
  have keyr : ∀ {k : Nat}, Rowy W base k → Rowy W' base k := fun {k} hk => by obtain ⟨hb, cs, q, hc, hq⟩ := hk; exact ⟨hb, cs, q, key hc, hq⟩
  have keyk : ∀ {k : Nat}, Rowy W base k → W'.heap[k]? = W.heap[k]? := fun {k} hk => by obtain ⟨hb, cs, q, hc, hq⟩ := hk; rw [key hc, hc]
  refine ⟨v, okS, okr, Strm_step h1 (fun k hk _ => keyk (h6 k hk).2.2.2), SQ_step h2 (fun k hk _ => keyk (h7 k hk).2.2), key h3, key h4, key h5, fun k hk => ⟨(h6 k hk).1, (h6 k hk).2.1, (h6 k hk).2.2.1, keyr (h6 k hk).2.2.2⟩, fun k hk => ⟨(h7 k hk).1, (h7 k hk).2.1, keyr (h7 k hk).2.2⟩, fun k hk => ⟨(h8 k hk).1, keyr (h8 k hk).2⟩, fun k hk => ?_, h10.then_ (Frm.of_grown hg (S := fun k => w0.heap.size ≤ k) (fun k e => (hr k e).1)) (fun k h1 h2 => by omega), h11⟩
  rcases hT k hk with h | h
  · have := h9 k h
    exact ⟨this.1, this.2.1, this.2.2.1, this.2.2.2.1, Nat.lt_of_lt_of_le this.2.2.2.2 hg.size⟩
  · exact ⟨fun hx => by have := (h6 k hx).2.2.2.lt; omega, fun hx => by have := (h7 k hx).2.2.lt; omega, fun hx => by have := (h8 k hx).2.lt; omega, fun e => by have := blk_lt h3; omega, h.2⟩
theorem Rowy.set {W : World} {base k g j : Nat} (h : Rowy W base k) (u : Value) : Rowy (W.setCell ⟨g, j, none⟩ u) base k := by
  obtain ⟨hb, cs', q', hc, hq⟩ := h
  by_cases e : k = g
  · subst e; exact ⟨hb, _, q', blk_set hc j u, hq⟩
  · exact ⟨hb, cs', q', blk_far hc e _, hq⟩
theorem TkC_pop (h : TkC w0 base b B6 B3 Bn ok op sk most T pre fs2 (fun _ => False) W) : Pops b (fun x W' => ∃ hd fs3 okx Ax cx, x = .slice Ax hd.length cx ∧ fs2 = hd :: fs3 ∧ Kd.R (Kd.int .u8) 5 W' base okx x hd ∧ TkC w0 base b B6 B3 Bn ok op sk most T pre fs3 okx W') W := by
  obtain ⟨v, okS, okr, h1, h2, h3, h4, h5, h6, h7, h8, h9, h10, h11⟩ := h
  cases fs2 with
  | nil =>
    obtain ⟨vo, A, c, hb, hl⟩ := Strm_blk h1
    exact ⟨vo, A, 0, c, _, hb, Nat.zero_le _, fun h => absurd h (by omega)⟩
  | cons hd fs3 =>
    obtain ⟨vo, A, c, okx, ad, Ax, cx, hb, hl, hA, hcell, hox, hs, hr⟩ := Strm_pop h1
    have hbS := h1.2.1
    refine ⟨vo, A, fs3.length + 1, c, _, hb, hl, fun _ => ⟨ad, Ax, hd.length, cx, hA, hcell, hd, fs3, okx, Ax, cx, rfl, rfl, hr, v, _, okr, hs, SQ_step h2 (fun k hk _ => Below.heap_setCell W _ _ k (fun e => (h6 b hbS).2.1 (by have e' : k = b := e; rw [← e']; exact hk))),
      blk_far h3 (blk_ne h3 hb (by decide)) _, blk_far h4 (blk_ne h4 hb (by decide)) _, blk_far h5 (blk_ne h5 hb (by decide)) _, fun k hk => ⟨(h6 k hk.1).1, (h6 k hk.1).2.1, hk.2, (h6 k hk.1).2.2.2.set _⟩,
      fun k hk => ⟨(h7 k hk).1, fun hx => (h6 k (hox k hx)).2.1 hk, (h7 k hk).2.2.set _⟩, fun k hk => ⟨(h6 k (hox k hk)).1, (h6 k (hox k hk)).2.2.2.set _⟩,
      fun k hk => ⟨fun hx => (h9 k hk).1 hx.1, (h9 k hk).2.1, fun hx => (h9 k hk).1 (hox k hx), (h9 k hk).2.2.2.1, by simpa [World.setCell] using (h9 k hk).2.2.2.2⟩, h10.set_ (.inl rfl) _, h11⟩⟩
end
end Go.Proofs.Ytnanaojjhmpilaa.PW
