/- Ranges over a function that takes bodies from a stream: the iterator's contract, the loop's law. -/
import Derived.Test.YtnanaojjhmpilaaS7
import Derived.RangeFuncNested
import Derived.RangeFuncBound
import Derived.RangeFuncCalls
import Derived.RangeFuncLeaves
import Derived.WalkKit
import Derived.OwnWalkIn
import Derived.TacticsInMore
import Derived.LoopNIn
import Derived.LoopIn
namespace Go.Proofs.Ytnanaojjhmpilaa.PW
open Go.RowKit Go.Proofs.YtnanaojjhmpilaaW.PrintWords Go.Proofs.YtnanaojjhmpilaaW.PrintLast Go.Proofs.YtnanaojjhmpilaaW.PrintMore
set_option linter.unusedVariables false
set_option linter.unusedSimpArgs false

/-- The stream in block b: its bodies can be counted, and the first one taken: Jp of it then. -/
def Pops (b : Nat) (Jp : Value → World → Prop) (W : World) : Prop :=
  ∃ vo A n c sk, W.heap[b]? = some (.cells #[vo, .slice A n c, sk] 53 (0, 0)) ∧ n ≤ c ∧ (0 < n → ∃ ad Ax nx cx, A = some ad ∧ W.cell? ad = some (.slice Ax nx cx) ∧
    Jp (.slice Ax nx cx) (W.setCell ⟨b, 1, none⟩ (.slice (if c = 1 then A else A.map (·.add 1)) (n - 1) (c - 1))))
/-- The stream in block b has no body to hand on. -/
def NoneLeft (b : Nat) (W : World) : Prop := ∃ vo A c sk, W.heap[b]? = some (.cells #[vo, .slice A 0 c, sk] 53 (0, 0))
/-- I speaks of cells, none of them in T, and abides new blocks and the turn of a block from B on that is no cells; what is new, and what it spoke not of, may be barred from then on. -/
def TOwn {σ : Type} (B : Nat) (I : (Nat → Prop) → σ → World → Prop) : Prop :=
  ∀ T s W W' row T', I T s W → W.grownBy W' row → (∀ r, row = some r → B ≤ r ∧ ∃ o : Obj, W.heap[r]? = some o ∧ o.isCells = false) → (∀ k, T' k → T k ∨ (W.heap.size ≤ k ∧ k < W'.heap.size)) → I T' s W'
section
variable {σ : Type} {B B' : Nat} {I : (Nat → Prop) → σ → World → Prop} {T T' : Nat → Prop} {s : σ} {W : World}
theorem TOwn.weak (h : TOwn B I) (hB : B ≤ B') : TOwn B' I := fun T s W W' row T' hs hg hr hT => h T s W W' row T' hs hg (fun r e => ⟨Nat.le_trans hB (hr r e).1, (hr r e).2⟩) hT
theorem TOwn.alloc (h : TOwn B I) (o : Obj) (hs : I T s W) (hT : ∀ k, T' k → T k ∨ k = W.heap.size) : I T' s (W.alloc o) := h T s W _ none T' hs (World.grownBy_alloc W o none) (fun r e => by cases e) (fun k hk => (hT k hk).imp_right (fun e => by rw [World.size_alloc]; omega))
theorem TOwn.drew (h : TOwn B I) (hs : I T s W) : I T s W.drew := h T s W W.drew none T hs ⟨rfl, rfl, rfl, Nat.le_refl _, fun _ _ _ => rfl⟩ (fun r e => by cases e) (fun k hk => .inl hk)
theorem TOwn.less (h : TOwn B I) (hs : I T s W) (hT : ∀ k, T' k → T k) : I T' s W := h T s W W none T' hs ⟨rfl, rfl, rfl, Nat.le_refl _, fun _ _ _ => rfl⟩ (fun r e => by cases e) (fun k hk => .inl (hT k hk))
theorem TOwn.putObj (h : TOwn B I) {l : Nat} {o : Obj} (o' : Obj) (hs : I T s W) (hB : B ≤ l) (hl : W.heap[l]? = some o) (ho : o.isCells = false) : I T s (W.putObj l o') :=
  h T s W _ (some l) T hs (grownBy_putObj' W l o') (fun r e => by cases e; exact ⟨hB, o, hl, ho⟩) (fun k hk => .inl hk)
end
/-- An iterator over the stream in block b: function g, whose captured variable is block Bn. -/
def ItSpec (P : Program) (g Bn b : Nat) (W : World) : Prop :=
  ∀ (σ : Type) (l : Nat) (J : (Nat → Prop) → σ → World → Prop) (Jp : (Nat → Prop) → σ → Value → World → Prop) (Jx : World → Prop) (μ : σ → Nat) (s0 : σ) (T0 : Nat → Prop),
    TOwn W.heap.size J → (∀ x, TOwn W.heap.size (fun T s => Jp T s x)) → OwnFrom W.heap.size (fun (_ : Unit) => Jx) →
    (∀ T s W, J T s W → W.cell? ⟨Bn, 0, none⟩ = some (.pointer (some ⟨b, 0, none⟩))) →
    (∀ T s W, J T s W → Pops b (Jp T s) W) →
    (∀ T s x W1, (∀ k, T0 k → T k) → Jp T s x W1 → YieldAt Fence.wide 0 P l #[x] W1 fun e W' => ((e = .returned (.bool true) ∧ ∃ s', μ s' < μ s ∧ J T s' W') ∨ (e = .returned (.bool false) ∧ Jx W')) ∧ ∀ k, T k → W.heap.size ≤ k → W'.heap[k]? = W1.heap[k]?) →
    J T0 s0 W →
    Calls P g #[.func (.yield l) #[] #[], .pointer (some ⟨Bn, 0, none⟩)] W fun e W' => (∃ v, e = .returned v) ∧ ((∃ s, J T0 s W' ∧ NoneLeft b W') ∨ Jx W')

/-- How the body of a round may be left. -/
def strPost (T : Nat → Prop) (good : World → Prop) (Ix : Code → World → Prop) (W : World) : Exit → Act → World → Prop
  | .normal, _, W' => (∀ k, T k → W'.heap[k]? = W.heap[k]?) ∧ good W'
  | .ret, _, W' => (∀ k, T k → W'.heap[k]? = W.heap[k]?) ∧ Ix .ret W'
  | .exit id, _, W' => (∀ k, T k → W'.heap[k]? = W.heap[k]?) ∧ Ix (.exit id) W'
  | .goto t, _, W' => (∀ k, T k → W'.heap[k]? = W.heap[k]?) ∧ Ix (.goto t) W'
  | .panic _, _, _ => False
  | .outgrown, _, _ => False

theorem OwnFrom.weak {β : Type} {B B' : Nat} {I : β → World → Prop} (h : OwnFrom B I) (hB : B ≤ B') : OwnFrom B' I := fun s W W' row hs hg hr => h s W W' row hs hg (fun r e => ⟨Nat.le_trans hB (hr r e).1, (hr r e).2⟩)
theorem pops_and {b : Nat} {Jp : Value → World → Prop} {W : World} {R : World → Prop} (h : Pops b Jp W) (hR : ∀ v, R (W.setCell ⟨b, 1, none⟩ v)) : Pops b (fun x W' => Jp x W' ∧ R W') W := by
  obtain ⟨vo, A, n, c, sk, h1, h2, h3⟩ := h
  refine ⟨vo, A, n, c, sk, h1, h2, fun h0 => ?_⟩
  obtain ⟨ad, Ax, nx, cx, h4, h5, h6⟩ := h3 h0
  exact ⟨ad, Ax, nx, cx, h4, h5, h6, hR _⟩

variable {P : Program}
/-- The loop over such an iterator, in a frame that is no round. -/
theorem rangeStream {σ : Type} {g : Operand} {ps : Array Tmp} {assign body : Code} {Q : Exit → Act → World → Prop} {a : Act} {w : World} {gf Bn b : Nat}
    (hg : a.eval g = .func (.func gf) #[] #[.pointer (some ⟨Bn, 0, none⟩)]) (eg : ∀ args w, (callFunc gf args).run P w = .ok (.enter gf args) w)
    (hit : ∀ W, ItSpec P gf Bn b W) (hps : ps.size = 1)
    (I : (Nat → Prop) → σ → World → Prop) (Ip : (Nat → Prop) → σ → Value → World → Prop) (Ix : Code → World → Prop) (μ : σ → Nat) (s0 : σ) (T0 : Nat → Prop) (hI : TOwn w.heap.size I) (hIp : ∀ x, TOwn w.heap.size (fun T s => Ip T s x)) (hIx : ∀ c, OwnFrom w.heap.size (fun (_ : Unit) => Ix c)) (h0 : I T0 s0 w)
    (hbox : ∀ T s W, I T s W → W.cell? ⟨Bn, 0, none⟩ = some (.pointer (some ⟨b, 0, none⟩)))
    (hpop : ∀ T s W, I T s W → Pops b (Ip T s) W) (a₁ : Value → Act)
    (hassign : ∀ (l : Nat) (x : Value) (W : World) (K : Act → World → Prop), K (a₁ x) W →
      assign.wpIn (Fence.wide.inRound l) 0 P (Exit.then K (fun _ _ _ => False)) { tmps := (ps.zip #[x]).foldl (fun t (p, v) => t.setIfInBounds p v) a.tmps, defers := [] } W)
    (hbody : ∀ (T : Nat → Prop) (l : Nat) (s : σ) (x : Value) (W : World), (∀ k, T0 k → T k) → T l → w.heap.size ≤ l → (∃ r, W.heap[l]? = some (.loop r)) → Ip T s x W →
      body.wpIn (Fence.wide.inRound l) 0 P (strPost (fun k => T k ∧ w.heap.size ≤ k) (fun W' => ∃ s', μ s' < μ s ∧ I T s' W') Ix W) (a₁ x) W)
    (hdone : ∀ (D : Nat) (s : σ) (W : World), w.heap.size ≤ D → I T0 s W → NoneLeft b W → W.heap[D]? = some (.deferred (some [])) → Q .normal { a with defers := { target := .collected D, args := #[] } :: a.defers } W)
    (hstop : ∀ (D : Nat) (c : Code) (W : World), w.heap.size ≤ D → Ix c W → W.heap[D]? = some (.deferred (some [])) → c.wp P Q { a with defers := { target := .collected D, args := #[] } :: a.defers } W) :
    (Code.rangeFunc g ps assign body).wp P Q a w := by
  refine (wpIn_wide (n := 0)).1 ?_
  refine wpIn_rangeFunc ?_
  intro fn hfn
  show ∃ (l : Nat) (mark : List Deferred) (w₁ : World) (d : Deferred) (w₁' : World) (f : FuncId) (args : Array Value) (w₂ : World),
      (Instr.enterLoop fn a.tmps ps assign body none).run P w = .ok (l, mark) w₁ ∧ _
  obtain ⟨rec, hrec⟩ : ∃ rec : LoopState → Option Code → Loop, rec = fun st pe => { state := st, pending := pe, fn, tmps := a.tmps, params := ps, assign, body, defers := w.heap.size } := ⟨_, rfl⟩
  obtain ⟨W1, hW1⟩ : ∃ W1, (w.alloc (.deferred (some []))).alloc (.loop (rec .ready none)) = W1 := ⟨_, rfl⟩
  have hs1 : W1.heap.size = w.heap.size + 2 := by rw [← hW1]; simp
  have hL1 : W1.heap[w.heap.size + 1]? = some (.loop (rec .ready none)) := by
    rw [← hW1]; have := World.alloc_heap_new (w.alloc (.deferred (some []))) (.loop (rec .ready none)); rwa [World.size_alloc] at this
  have hK1 : W1.heap[w.heap.size]? = some (.deferred (some [])) := by
    rw [← hW1]; exact (Below.heap_alloc _ _ _ (by simp)).trans (World.alloc_heap_new w _)
  obtain ⟨T1, hT1⟩ : ∃ T1 : Nat → Prop, T1 = fun k => T0 k ∨ k = w.heap.size ∨ k = w.heap.size + 1 := ⟨_, rfl⟩
  have hI1 : I T1 s0 W1 := by rw [← hW1, hT1]; exact hI.alloc (T := fun k => T0 k ∨ k = w.heap.size) _ (hI.alloc _ h0 (fun k hk => hk)) (fun k hk => by simp only [World.size_alloc]; rcases hk with h | h | h; exact .inl (.inl h); exact .inl (.inr h); exact .inr h)
  refine ⟨w.heap.size + 1, [{ target := .collected w.heap.size, args := #[] }], W1, { target := .fn (.func gf) #[.pointer (some ⟨Bn, 0, none⟩)], args := #[.func (.yield (w.heap.size + 1)) #[] #[]] }, W1, gf,
    #[.func (.yield (w.heap.size + 1)) #[] #[]] ++ #[.pointer (some ⟨Bn, 0, none⟩)], W1, ?_, ?_, ?_, ?_, fun h => by simp [Fence.wide] at h, ?_⟩
  · rw [← hW1, hrec]; exact run_enterLoop_outer _ _ _ _ _
  · simp only [resolve, hg]
    simp [go_sem]
  · intro f' hf'; trivial
  · simp [invoke, go_sem, eg]
  · have hR : ∀ {A B : World} {row : Option Nat} {k : Nat} {o : Obj}, A.grownBy B row → (∀ r, row = some r → W1.heap.size ≤ r ∧ ∃ o : Obj, A.heap[r]? = some o ∧ o.isCells = false) → k < w.heap.size + 2 → A.heap[k]? = some o → B.heap[k]? = some o :=
      fun hg' hr hk ho => (hg'.block _ (blk_lt ho) (fun e => by have := (hr _ e.symm).1; omega)).trans ho
    have hcell : ∀ {W : World} {k : Nat} {o : Obj} (v : Value), (∃ cs, W.heap[b]? = some (.cells cs 53 (0, 0))) → W.heap[k]? = some o → o.isCells = false → (W.setCell ⟨b, 1, none⟩ v).heap[k]? = some o := by
      rintro W k o v ⟨cs, hb⟩ ho hc
      exact (Below.heap_setCell W _ _ k (fun e => by simp only at e; subst e; rw [ho] at hb; cases hb; cases hc)).trans ho
    refine (callsIn_wide.2 (hit W1 σ (w.heap.size + 1)
      (fun T s W => I T s W ∧ W.heap[w.heap.size + 1]? = some (.loop (rec .ready none)) ∧ W.heap[w.heap.size]? = some (.deferred (some [])))
      (fun T s x W => Ip T s x W ∧ W.heap[w.heap.size + 1]? = some (.loop (rec .ready none)) ∧ W.heap[w.heap.size]? = some (.deferred (some [])))
      (fun W => ∃ c, Ix c W ∧ W.heap[w.heap.size + 1]? = some (.loop (rec .done (some c))) ∧ W.heap[w.heap.size]? = some (.deferred (some []))) μ s0 T1
      (fun T s A B row T' hs hg' hr hT => ⟨TOwn.weak hI (by omega) T s A B row T' hs.1 hg' hr hT, hR hg' hr (by omega) hs.2.1, hR hg' hr (by omega) hs.2.2⟩)
      (fun x T s A B row T' hs hg' hr hT => ⟨TOwn.weak (hIp x) (by omega) T s A B row T' hs.1 hg' hr hT, hR hg' hr (by omega) hs.2.1, hR hg' hr (by omega) hs.2.2⟩)
      (fun s A B row hs hg' hr => by
        obtain ⟨c, hc, hl, hk⟩ := hs
        exact ⟨c, OwnFrom.weak (hIx c) (by omega) () A B row hc hg' hr, hR hg' hr (by omega) hl, hR hg' hr (by omega) hk⟩)
      (fun T s W hs => hbox T s W hs.1)
      (fun T s W hs => by
        have hp := hpop T s W hs.1
        obtain ⟨vo, A, n, c, sk, hb, _⟩ := id hp
        exact pops_and hp (fun v => ⟨hcell v ⟨_, hb⟩ hs.2.1 rfl, hcell v ⟨_, hb⟩ hs.2.2 rfl⟩))
      ?_ ⟨hI1, hL1, hK1⟩)).mono ?_
    · -- ONE ROUND
      rintro T s x W hT0 ⟨hi, hl, hk⟩
      have hTl : T (w.heap.size + 1) := hT0 _ (by rw [hT1]; exact .inr (.inr rfl))
      have hTd : T w.heap.size := hT0 _ (by rw [hT1]; exact .inr (.inl rfl))
      have hTT : ∀ k, T0 k → T k := fun k hk => hT0 k (by rw [hT1]; exact .inl hk)
      have hlt : w.heap.size + 1 < W.heap.size := (Array.getElem?_eq_some_iff.1 hl).1
      have hy := run_yield (P := P) (args := #[x]) hl (by rw [hrec]; simp [hps])
      rw [hrec] at hy
      refine ⟨fn, _, assign, body, hy, roundIn_of_wpIn hfn (hassign _ x W _ ⟨_, run_beginRound hl (by rw [hrec]), ?_⟩)⟩
      have hl2 : (W.putObj (w.heap.size + 1) (.loop { rec .ready none with state := .busy })).heap[w.heap.size + 1]? = some (.loop { rec .ready none with state := .busy }) := World.putObj_heap_same hlt
      have hk2 : (W.putObj (w.heap.size + 1) (.loop { rec .ready none with state := .busy })).heap[w.heap.size]? = some (.deferred (some [])) := (World.putObj_heap_other (by omega)).trans hk
      refine wpIn_mono (hbody T _ s x _ hTT hTl (by omega) ⟨_, hl2⟩ ((hIp x).putObj _ hi (by omega) hl rfl)) ?_
      have fin : ∀ (jump : Option Code) (W3 : World), (∀ k, T k ∧ w.heap.size ≤ k → W3.heap[k]? = (W.putObj (w.heap.size + 1) (.loop { rec .ready none with state := .busy })).heap[k]?) →
          (Instr.endRound (w.heap.size + 1) jump).run P W3 = .ok (.bool jump.isNone) (W3.putObj (w.heap.size + 1) (.loop (rec (if jump.isNone then .ready else .done) jump))) ∧
          W3.heap[w.heap.size + 1]? = some (.loop { rec .ready none with state := .busy }) ∧
          (W3.putObj (w.heap.size + 1) (.loop (rec (if jump.isNone then .ready else .done) jump))).heap[w.heap.size + 1]? = some (.loop (rec (if jump.isNone then .ready else .done) jump)) ∧
          (W3.putObj (w.heap.size + 1) (.loop (rec (if jump.isNone then .ready else .done) jump))).heap[w.heap.size]? = some (.deferred (some [])) ∧
          (∀ k, T k → W1.heap.size ≤ k → (W3.putObj (w.heap.size + 1) (.loop (rec (if jump.isNone then .ready else .done) jump))).heap[k]? = W.heap[k]?) := fun jump W3 hk3 => by
        have hl3 := (hk3 _ ⟨hTl, by omega⟩).trans hl2
        have := run_endRound (P := P) jump hl3
        rw [hrec] at this ⊢
        exact ⟨this, by rw [hrec] at hl3; exact hl3, World.putObj_heap_same (Array.getElem?_eq_some_iff.1 hl3).1, (World.putObj_heap_other (by omega)).trans ((hk3 _ ⟨hTd, Nat.le_refl _⟩).trans hk2), fun k hTk hsz => (World.putObj_heap_other (by omega)).trans ((hk3 k ⟨hTk, by omega⟩).trans (World.putObj_heap_other (by omega)))⟩
      rintro e a3 W3 hp
      cases e with
      | normal =>
        obtain ⟨hk3, s', hm3, hi3⟩ := hp
        obtain ⟨hr, hl3, hl4, hk4, hT4⟩ := fin none W3 hk3
        exact ⟨_, _, hr, .inl ⟨rfl, s', hm3, hI.putObj _ hi3 (by omega) hl3 rfl, hl4, hk4⟩, hT4⟩
      | ret =>
        obtain ⟨hk3, hi3⟩ := hp
        obtain ⟨hr, hl3, hl4, hk4, hT4⟩ := fin (some .ret) W3 hk3
        exact ⟨_, _, hr, .inr ⟨rfl, .ret, (hIx _).putObj (s := ()) _ hi3 (by omega) hl3 rfl, hl4, hk4⟩, hT4⟩
      | exit id =>
        obtain ⟨hk3, hi3⟩ := hp
        obtain ⟨hr, hl3, hl4, hk4, hT4⟩ := fin (some (.exit id)) W3 hk3
        exact ⟨_, _, hr, .inr ⟨rfl, .exit id, (hIx _).putObj (s := ()) _ hi3 (by omega) hl3 rfl, hl4, hk4⟩, hT4⟩
      | goto t =>
        obtain ⟨hk3, hi3⟩ := hp
        obtain ⟨hr, hl3, hl4, hk4, hT4⟩ := fin (some (.goto t)) W3 hk3
        exact ⟨_, _, hr, .inr ⟨rfl, .goto t, (hIx _).putObj (s := ()) _ hi3 (by omega) hl3 rfl, hl4, hk4⟩, hT4⟩
      | panic ch => exact hp.elim
      | outgrown => exact hp.elim
    · -- BEHIND THE ITERATOR
      rintro e W2 ⟨⟨v, rfl⟩, (⟨s, ⟨hi, hl, hk⟩, hn⟩ | ⟨c, hi, hl, hk⟩)⟩
      · refine ⟨none, _, by have := run_endLoop (P := P) hl (by rw [hrec]; simp); rw [hrec] at this; exact this, hdone _ s _ (Nat.le_refl _) (hI.less (hI.putObj _ hi (by omega) hl rfl) (fun k hk => by rw [hT1]; exact .inl hk)) ?_ ((World.putObj_heap_other (by omega)).trans hk)⟩
        obtain ⟨vo, A, c, sk, hb⟩ := hn
        exact ⟨vo, A, c, sk, (World.putObj_heap_other (fun e => by subst e; rw [hl] at hb; cases hb)).trans hb⟩
      · exact ⟨some c, _, by have := run_endLoop (P := P) hl (by rw [hrec]; simp); rw [hrec] at this; exact this, (wpIn_wide (n := 0)).2 (hstop _ c _ (Nat.le_refl _) ((hIx c).putObj (s := ()) _ hi (by omega) hl rfl) ((World.putObj_heap_other (by omega)).trans hk))⟩
end Go.Proofs.Ytnanaojjhmpilaa.PW
