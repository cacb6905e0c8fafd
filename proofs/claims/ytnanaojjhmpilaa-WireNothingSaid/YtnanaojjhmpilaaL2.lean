/- The iterators over a stream: each$1 (67) and Bodies$1 (62). -/
import Derived.Test.YtnanaojjhmpilaaL1
import Derived.Outline
namespace Go.Proofs.Ytnanaojjhmpilaa.PW
open Go.RowKit Go.Proofs.YtnanaojjhmpilaaW.PrintWords Go.Proofs.YtnanaojjhmpilaaW.PrintLast Go.Proofs.YtnanaojjhmpilaaW.PrintMore
set_option linter.unusedVariables false
set_option linter.unusedSimpArgs false
attribute [local go_sem] Oper.semAt_some

/-- In a round an operation that is no defer is carried out as everywhere (the wide fence). -/
theorem wpListIn_of {P : Program} {ops : Array Oper} {Q : Exit → Act → World → Prop} {n : Nat} (l₀ : Nat) : ∀ (L : List Oper) (a : Act) (w : World), ¬ LetsOut Q → (∀ o ∈ L, ∀ c, o.op ≠ .defer c) → wpList P ops Q L a w → wpListIn (Fence.wide.inRound l₀) n P ops Q L a w := by
  intro L
  induction L with
  | nil => intro a w _ _ h; exact h
  | cons o L ih =>
    intro a w hno hd h
    have hd' : ∀ o ∈ L, ∀ c, o.op ≠ .defer c := fun o ho => hd o (List.mem_cons_of_mem _ ho)
    unfold wpListIn
    unfold wpList at h
    split
    · rename_i hw
      rw [if_pos hw] at h
      refine ⟨fun _ _ => trivial, ?_⟩
      have hs : o.semAt (Fence.wide.inRound l₀).round a.eval = execOp a.eval o := Oper.semAt_some l₀ _ _ (hd o List.mem_cons_self)
      rw [hs]
      replace h := h.resolve_right (fun h2 => hno h2.2)
      unfold Oper.wp at h
      revert h
      cases hr : (execOp a.eval o).run P w with
      | ok x w' =>
        cases x with
        | value v => intro h; exact ih _ _ hno hd' h
        | skip => intro h; exact ih _ _ hno hd' h
        | defer d => intro h; exact ih _ _ hno hd' h
        | enter f args =>
          intro h
          refine ⟨fun h => by simp [Fence.wide, Fence.inRound] at h, CallsIn.inRound l₀ (callsIn_wide.2 (Calls.mono h ?_))⟩
          rintro (v | c | _) w'' h2
          · exact ih _ _ hno hd' h2
          · exact h2
          · exact h2
        | row r args => intro h; exact ⟨fun h => by simp [Fence.wide, Fence.inRound] at h, fun c cs _ => let ⟨v, w', r, s⟩ := h c cs; ⟨v, w', ih _ _ hno hd' r, stepsIn_wide.2 s⟩⟩
        | _ => intro h; exact h.elim
      | halt e w' =>
        cases e with
        | panic v => intro h; exact h
        | _ => intro h; exact h.elim
    · rename_i hw
      rw [if_neg hw] at h
      exact ⟨fun _ _ => trivial, ih _ _ hno hd' h⟩

/-- One operation that yields a value, under a wide fence. -/
theorem listIn_value {P : Program} {ops : Array Oper} {Q : Exit → Act → World → Prop} {n : Nat} {r : Option Nat} {o : Oper} {rest : List Oper} {a : Act} {W W1 : World} {v : Value} (hgd : o.guard = none) (hnd : ∀ c, o.op ≠ .defer c) (hrun : (execOp a.eval o).run P W = .ok (.value v) W1)
    (h : wpListIn { Fence.wide with round := r } n P ops Q rest (a.put o.dst v) W1) : wpListIn { Fence.wide with round := r } n P ops Q (o :: rest) a W := by
  refine wpListIn_plain hgd fun K hK => ⟨fun _ _ => trivial, ?_⟩
  have hs : o.semAt r a.eval = execOp a.eval o := by
    cases r with
    | none => rfl
    | some l₀ => exact Oper.semAt_some l₀ _ _ hnd
  show o.uponIn _ n P a K Q ((o.semAt r a.eval).run P W)
  rw [hs, hrun]
  exact hK _ _ h
/-- A call of yield, under a wide fence. -/
theorem listIn_yield {P : Program} {ops : Array Oper} {Q : Exit → Act → World → Prop} {r : Option Nat} {o : Oper} {rest : List Oper} {a : Act} {W : World} {R : Ending → World → Prop} {l : Nat} (x y : Operand) (ts : Array TypeId) (hgd : o.guard = none) (ho : o.op = .call { callee := .value x, args := #[y], argTypes := ts })
    (hx : a.eval x = .func (.yield l) #[] #[]) {v : Value} (hy : a.eval y = v) (hY : YieldAt Fence.wide 0 P l #[v] W R)
    (h : ∀ v W', R (.returned v) W' → wpListIn { Fence.wide with round := r } 0 P ops Q rest (a.put o.dst v) W') (hp : ∀ c W', ¬ R (.panicked c) W') (hg : ∀ W', ¬ R .outgrown W') : wpListIn { Fence.wide with round := r } 0 P ops Q (o :: rest) a W := by
  refine wpListIn_plain hgd fun K hK => ⟨fun _ _ => trivial, ?_⟩
  have hs : o.semAt r a.eval = execOp a.eval o := by
    cases r with
    | none => rfl
    | some l₀ => exact Oper.semAt_some l₀ _ _ (by rw [ho]; simp)
  obtain ⟨fn, tmps, assign, body, hrun, hR⟩ := hY
  have hrun2 : (execOp a.eval o).run P W = .ok (.round l fn tmps assign body) W := by
    unfold execOp
    simp [ho, resolve, invoke, hx, hy, Deferred.ofValue, hrun, Sem.run_bind, Result.andThen]
  show o.uponIn _ 0 P a K Q ((o.semAt r a.eval).run P W)
  rw [hs, hrun2]
  refine ⟨fun h => by simp [Fence.wide] at h, RoundIn.mono (F := { Fence.wide with round := r }) hR ?_⟩
  rintro (v | c | _) W' hr
  · exact hK _ _ (h v W' hr)
  · exact (hp _ _ hr).elim
  · exact (hg _ hr).elim

theorem cutf22 {A : Option Addr} {n c : Nat} (hn : 0 < n) : ∃ A', (∀ W : World, (Instr.slice 37 (.slice A n c) (some (.int .i64 1)) none none).run Try.prog W = .ok (.slice A' (n - 1) (c - 1)) W) ∧ A' = if c = 1 then A else A.map (·.add 1) := by
  obtain ⟨i0, hi, hzz⟩ := Option.map_eq_some_iff.1 info22
  simp only [Prod.mk.injEq] at hzz
  have hrun := cut_from (P := Try.prog) 37 22 .i64 Try.underlying37 hi 1 hzz.2.1 A n c 1 (by omega) (by omega)
  exact ⟨_, hrun, rfl⟩
theorem OwnFrom.drew {β : Type} {B : Nat} {I : β → World → Prop} (h : OwnFrom B I) {s : β} {W : World} (hs : I s W) : I s W.drew := h s W W.drew none hs ⟨rfl, rfl, rfl, Nat.le_refl _, fun _ _ _ => rfl⟩ (fun r e => by cases e)

def rg67.T2 : Bool × List (List Nat × List Nat) := (true, [([], []), ([], []), ([1], [1]), ([2], [2]), ([3], [3]), ([4], [4]), ([0, 0, 1, 2, 3, 4, 5], [0]), ([6, 0, 1, 2, 3, 4, 5], [6]), ([7, 5, 0, 1, 2, 3, 4, 5], [5, 7])])
def rg67.B2 : List Nat := [0, 0, 2, 6, 14, 30, 63, 127, 255]
theorem rg67.tab2 : rtab .any (opsOf Try.f67 2) = rg67.T2 := by kernel_rfl
theorem rg67.bits2 : waitsOk rg67.T2.2 rg67.B2 = true := by kernel_rfl
set_option maxHeartbeats 4000000 in
set_option maxRecDepth 100000 in
theorem each1_spec (Bn b : Nat) (W0 : World) : ItSpec Try.prog 67 Bn b W0 := by
  intro σ l J Jp Jx μ s0 T0 hJ hJp hJx hbox hpop hY h0
  have H1 := Aside0.mk hJ
  have H2 := Aside0.mk hbox
  have H3 := Aside0.mk hpop
  have H4 := Aside0.mk hY
  have HZ := Aside0.mk h0
  clear hJ hJp hJx hbox hpop hY h0
  go_enter Try.func67, Try.ntmps67
  go_wp2
  go_loopg [] (μ s0) (fun k wr => ∃ s, μ s = k ∧ Aside0 (J T0 s wr))
  case atStart => exact ⟨s0, rfl, HZ⟩
  case round =>
    obtain ⟨s, hk, HJ⟩ := hrel
    have hJd : J T0 s wr.drew := TOwn.drew H1.out HJ.out
    obtain ⟨vo, A, n, c, sk, hb, hnc, hp⟩ := H3.out T0 s _ hJd
    have hbx : wr.cell? ⟨Bn, 0, none⟩ = some (.pointer (some ⟨b, 0, none⟩)) := H2.out T0 s _ HJ.out
    have hcell : wr.cell? ⟨b, 1, none⟩ = some (.slice A n c) := blk_cell (w := wr) hb 1
    have hfz : wr.frozen? ⟨b, 1, none⟩ = false := blk_frozen (w := wr) hb 1
    have HB := Aside0.mk hb
    have HP := Aside0.mk hp
    have HNC := Aside0.mk hnc
    have HK := Aside0.mk hk
    clear hp hb hJd hnc hk
    by_cases h0 : n = 0
    · subst h0
      go_wp2
      go_end0
      exact ⟨⟨_, rfl⟩, .inl ⟨s, HJ.out, _, _, _, _, HB.out⟩⟩
    · have h0' : 0 < n := by omega
      have h1' : (0 : Int) < (n : Int) := by omega
      obtain ⟨ad, Ax, nx, cx, rfl, hx, hjp⟩ := HP.out h0'
      have hx' : wr.cell? ad = some (.slice Ax nx cx) := hx
      have HX := Aside0.mk hx
      have HJP := Aside0.mk hjp
      obtain ⟨A', hcut, hA'⟩ := cutf22 (A := some ad) (n := n) (c := c) h0'
      have HA := Aside0.mk hA'
      have hbx2 : wr.drew.cell? ⟨Bn, 0, none⟩ = some (.pointer (some ⟨b, 0, none⟩)) := hbx
      have hcell2 : wr.drew.cell? ⟨b, 1, none⟩ = some (.slice (some ad) n c) := hcell
      clear hx hjp hA' h0
      go_wp2
      refine start_ (n := 9) (S := fun w' => w'.cell? ⟨Bn, 0, none⟩ = some (.pointer (some ⟨b, 0, none⟩)) ∧ w'.cell? ⟨b, 1, none⟩ = some (.slice (some ad) n c)) (ds := [8]) #[false, false, false, false, false, false, false, false, false] (by kernel_rfl) rfl rfl ⟨hbx2, hcell2⟩ (fun hHeld => ?_)
      refine with_tabW rg67.tab2 rg67.bits2 (fun HT_ HW_ => ?_)
      refine take_ (i := 0) (N := some 16) (v := ?_) (a' := ?_) #[true, false, false, false, false, false, false, false, false] rfl rfl (take_ofW HT_.out HW_.out (by kernel_rfl)) (fun _ _ _ h => h) (Or.inl ⟨by rfl, ?_⟩) hHeld ?_ ?_
      rotate_left
      · rintro w' ⟨s0, s1⟩
        go_simp
        with_reducible rfl
      rotate_left
      · simp only [Act.put, List.setIfInBounds_toArray, List.set_cons_zero, List.set_cons_succ, i64_w, i32_w]
        rfl
      refine take_ (i := 1) (N := some 17) (v := ?_) (a' := ?_) #[true, true, false, false, false, false, false, false, false] rfl rfl (take_ofW HT_.out HW_.out (by kernel_rfl)) (fun _ _ _ h => h) (Or.inl ⟨by rfl, ?_⟩) hHeld ?_ ?_
      rotate_left
      · rintro w' ⟨s0, s1⟩
        go_simp
        with_reducible rfl
      rotate_left
      · simp only [Act.put, List.setIfInBounds_toArray, List.set_cons_zero, List.set_cons_succ, i64_w, i32_w]
        rfl
      refine pure_ (i := 2) (N := some 18) (v := ?_) (a' := ?_) #[true, true, true, false, false, false, false, false, false] rfl rfl (any_of HT_.out (by kernel_rfl)) (fun _ _ _ h => h) (Or.inl ⟨by rfl, ?_⟩) ?_ ?_
      rotate_left
      · intro w'
        go_simp
        with_reducible rfl
      rotate_left
      · simp only [Act.put, List.setIfInBounds_toArray, List.set_cons_zero, List.set_cons_succ, i64_w, i32_w]
        rfl
      refine pure_ (i := 3) (N := some 19) (v := ?_) (a' := ?_) #[true, true, true, true, false, false, false, false, false] rfl rfl (any_of HT_.out (by kernel_rfl)) (fun _ _ _ h => h) (Or.inl ⟨by rfl, ?_⟩) ?_ ?_
      rotate_left
      · intro w'
        go_simp
        with_reducible rfl
      rotate_left
      · simp only [Act.put, List.setIfInBounds_toArray, List.set_cons_zero, List.set_cons_succ, i64_w, i32_w]
        rfl
      refine take_ (i := 4) (N := some 20) (v := ?_) (a' := ?_) #[true, true, true, true, true, false, false, false, false] rfl rfl (take_ofW HT_.out HW_.out (by kernel_rfl)) (fun _ _ _ h => h) (Or.inl ⟨by rfl, ?_⟩) hHeld ?_ ?_
      rotate_left
      · rintro w' ⟨s0, s1⟩
        go_simp
        with_reducible rfl
      rotate_left
      · simp only [Act.put, List.setIfInBounds_toArray, List.set_cons_zero, List.set_cons_succ, i64_w, i32_w]
        rfl
      refine pure_ (i := 5) (N := some 21) (v := ?_) (a' := ?_) #[true, true, true, true, true, true, false, false, false] rfl rfl (any_of HT_.out (by kernel_rfl)) (fun _ _ _ h => h) (Or.inl ⟨by rfl, ?_⟩) ?_ ?_
      rotate_left
      · intro w'
        go_simp
        with_reducible rfl
      rotate_left
      · simp only [Act.put, List.setIfInBounds_toArray, List.set_cons_zero, List.set_cons_succ, i64_w, i32_w]
        rfl
      refine pure_ (i := 6) (N := some 22) (v := ?_) (a' := ?_) #[true, true, true, true, true, true, true, false, false] rfl rfl (any_of HT_.out (by kernel_rfl)) (fun _ _ _ h => h) (Or.inl ⟨by rfl, ?_⟩) ?_ ?_
      rotate_left
      · intro w'
        go_simp
        with_reducible rfl
      rotate_left
      · simp only [Act.put, List.setIfInBounds_toArray, List.set_cons_zero, List.set_cons_succ, i64_w, i32_w]
        rfl
      refine pure_ (i := 7) (N := some 23) (v := ?_) (a' := ?_) #[true, true, true, true, true, true, true, true, false] rfl rfl (any_of HT_.out (by kernel_rfl)) (fun _ _ _ h => h) (Or.inl ⟨by rfl, ?_⟩) ?_ ?_
      rotate_left
      · intro w'
        go_simp
        with_reducible rfl
      rotate_left
      · simp only [Act.put, List.setIfInBounds_toArray, List.set_cons_zero, List.set_cons_succ, i64_w, i32_w]
        rfl
      refine last_ (i := 8) (N := none) #[true, true, true, true, true, true, true, true, true] rfl rfl (one_of HT_.out (by kernel_rfl)) (by decide) (fun K hK => ?_)
      refine skip_ (w1 := ?_) (by rfl) rfl ?_ ?_
      rotate_left
      · go_simp
        rfl
      refine hK.out _ _ ?_
      clear hK K
      refine done_ (done_of HT_.out (by kernel_rfl)) ?_
      refine ‹∀ (a : Act) (w : World), Code.wp Try.prog _ _ a w → _› _ _ ?_
      refine wp_seq ?_
      refine (wpIn_wide (n := 0)).1 ?_
      refine wpIn_region_lit ?_
      refine listIn_value (r := none) rfl (by simp) (by rfl) ?_
      refine listIn_value (r := none) rfl (by simp) (by rfl) ?_
      refine listIn_yield (r := none) (.tmp 24) (.tmp 25) _ rfl rfl (by rfl) (by rfl) (H4.out T0 s (.slice Ax nx cx) _ (fun _ hk => hk) (by rw [HA.out]; exact HJP.out)) ?_ (by rintro c W' ⟨(⟨h, _⟩ | ⟨h, _⟩), _⟩ <;> cases h) (by rintro W' ⟨(⟨h, _⟩ | ⟨h, _⟩), _⟩ <;> cases h)
      rintro v W' ⟨(⟨h, s', hm, hj'⟩ | ⟨h, hjx⟩), _⟩
      · cases h
        have HJ' := Aside0.mk hj'
        have HM := Aside0.mk hm
        clear hj' hm
        refine listIn_value (r := none) rfl (by simp) (by rfl) ?_
        refine wpListIn_nil ?_
        go_wp2
        go_roundg (μ s')
        case measure => rw [← HK.out]; exact HM.out
        case rel => exact ⟨s', rfl, HJ'⟩
      · cases h
        have HJX := Aside0.mk hjx
        clear hjx
        refine listIn_value (r := none) rfl (by simp) (by rfl) ?_
        refine wpListIn_nil ?_
        go_wp2
        refine bodyPost_ret (results_none rfl _ _ _) rfl ?_
        exact ⟨⟨_, rfl⟩, .inr HJX.out⟩

/-- each (63): a closure over the stream's pointer. -/
theorem each_C (p : Option Addr) (w : World) : Calls Try.prog 63 #[.pointer p] w fun e w' => e = .returned (.func (.func 67) #[] #[.pointer (some ⟨w.heap.size, 0, none⟩)]) ∧ w' = w.alloc (.cells #[.pointer p] 51) := by
  go_enter Try.func63, Try.ntmps63
  go_wp2
  go_ret
  exact ⟨rfl, rfl⟩
/-- Bodies (43). -/
theorem bodies_C (p : Option Addr) (w : World) : Calls Try.prog 43 #[.pointer p] w fun e w' => e = .returned (.func (.func 62) #[] #[.pointer (some ⟨w.heap.size, 0, none⟩)]) ∧ w' = w.alloc (.cells #[.pointer p] 51) := by
  go_enter Try.func43, Try.ntmps43
  go_wp2
  go_ret
  exact ⟨rfl, rfl⟩
set_option maxHeartbeats 4000000 in
set_option maxRecDepth 100000 in
theorem bodies1_spec (Bn b : Nat) (W0 : World) : ItSpec Try.prog 62 Bn b W0 := by
  intro σ l J Jp Jx μ s0 T0 hJ hJp hJx hbox hpop hY h0
  have H0 := Aside0.mk hJ
  have H1 := Aside0.mk hJp
  have H1x := Aside0.mk hJx
  have H2 := Aside0.mk hbox
  have H3 := Aside0.mk hpop
  have H4 := Aside0.mk hY
  have HZ := Aside0.mk h0
  have hbx : W0.cell? ⟨Bn, 0, none⟩ = some (.pointer (some ⟨b, 0, none⟩)) := hbox T0 s0 W0 h0
  have hbx1 : (W0.alloc (.cells #[.func (.yield l) #[] #[]] 33)).cell? ⟨Bn, 0, none⟩ = some (.pointer (some ⟨b, 0, none⟩)) := pw_cell_below (below_alloc (Below.refl _ _) _) hbx
  clear hJ hJp hJx hbox hpop hY h0
  have hsz : (W0.alloc (.cells #[.func (.yield l) #[] #[]] 33)).heap.size = W0.heap.size + 1 := by simp
  have hy0 : ((W0.alloc (.cells #[.func (.yield l) #[] #[]] 33)).alloc (.cells #[.pointer (some ⟨b, 0, none⟩)] 51)).heap[W0.heap.size]? = some (.cells #[.func (.yield l) #[] #[]] 33 (0, 0)) :=
    (Below.heap_alloc _ _ _ (by simp)).trans (World.alloc_heap_new W0 _)
  have hb0 : ((W0.alloc (.cells #[.func (.yield l) #[] #[]] 33)).alloc (.cells #[.pointer (some ⟨b, 0, none⟩)] 51)).heap[W0.heap.size + 1]? = some (.cells #[.pointer (some ⟨b, 0, none⟩)] 51 (0, 0)) := by
    have := World.alloc_heap_new (W0.alloc (.cells #[.func (.yield l) #[] #[]] 33)) (.cells #[.pointer (some ⟨b, 0, none⟩)] 51)
    rwa [hsz] at this
  have HY0 := Aside0.mk hy0
  have HB0 := Aside0.mk hb0
  clear hsz hy0 hb0
  refine (callsIn_wide (n := 0)).1 (callsIn_of_wp_marks Try.func62 rfl trivial ?_)
  refine (wpIn_wide (n := 0)).2 ?_
  simp only [Try.ntmps62, List.size_toArray, List.length_cons, List.length_nil, Nat.reduceAdd, Nat.reduceSub, Array.replicate_succ, Array.replicate_zero, List.push_toArray, List.append_toArray, List.nil_append, List.cons_append]
  go_wp2_with fail
  refine (each_C _ _).mono ?_
  rintro e w1 ⟨rfl, rfl⟩
  go_wp2
  obtain ⟨w2, hw2⟩ : ∃ w2 : World, w2 = (W0.alloc (.cells #[.func (.yield l) #[] #[]] 33)).alloc (.cells #[.pointer (some ⟨b, 0, none⟩)] 51) := ⟨_, rfl⟩
  have hz2 : w2.heap.size = W0.heap.size + 2 := by rw [hw2]; simp
  have hY0 := HY0.out
  have hB0 := HB0.out
  rw [← hw2] at hY0 hB0 ⊢
  refine rangeStream (σ := σ) (gf := 67) (Bn := W0.heap.size + 1) (b := b) rfl (enters_ Try.func67 (by kernel_rfl) rfl) (each1_spec _ b) rfl
    (fun T s W => J T s W ∧ W.heap[W0.heap.size]? = some (.cells #[.func (.yield l) #[] #[]] 33 (0, 0)) ∧ W.heap[W0.heap.size + 1]? = some (.cells #[.pointer (some ⟨b, 0, none⟩)] 51 (0, 0)))
    (fun T s x W => Jp T s x W ∧ W.heap[W0.heap.size]? = some (.cells #[.func (.yield l) #[] #[]] 33 (0, 0)) ∧ W.heap[W0.heap.size + 1]? = some (.cells #[.pointer (some ⟨b, 0, none⟩)] 51 (0, 0)))
    (fun c W => c = .ret ∧ Jx W) μ s0 (fun k => T0 k ∨ k = W0.heap.size ∨ k = W0.heap.size + 1) ?hI ?hIp ?hIx ?h0 ?hbox ?hpop
    (fun x => { tmps := #[.func (.yield l) #[] #[], .pointer (some ⟨Bn, 0, none⟩), .pointer (some ⟨W0.heap.size, 0, none⟩), x, .pointer (some ⟨b, 0, none⟩), .bool false, .pointer (some ⟨b, 0, none⟩), .func (.func 67) #[] #[.pointer (some ⟨W0.heap.size + 1, 0, none⟩)], x, undef, undef, undef, undef], defers := [] }) ?assign ?body ?done ?stop
  case hI => exact fun T s A B row T' hs hg hr hT => ⟨TOwn.weak H0.out (by omega) T s A B row T' hs.1 hg hr hT, blk_grown hs.2.1 hg (fun e => by have := (hr _ e.symm).1; omega), blk_grown hs.2.2 hg (fun e => by have := (hr _ e.symm).1; omega)⟩
  case hIp => exact fun x T s A B row T' hs hg hr hT => ⟨TOwn.weak (H1.out x) (by omega) T s A B row T' hs.1 hg hr hT, blk_grown hs.2.1 hg (fun e => by have := (hr _ e.symm).1; omega), blk_grown hs.2.2 hg (fun e => by have := (hr _ e.symm).1; omega)⟩
  case hIx => exact fun c s A B row hs hg hr => ⟨hs.1, OwnFrom.weak H1x.out (by omega) () A B row hs.2 hg hr⟩
  case h0 =>
    refine ⟨?_, hY0, hB0⟩
    rw [hw2]
    exact H0.out.alloc (T := fun k => T0 k ∨ k = W0.heap.size) _ (H0.out.alloc _ HZ.out (fun k hk => hk)) (fun k hk => by simp only [World.size_alloc]; rcases hk with h | h | h; exact .inl (.inl h); exact .inl (.inr h); exact .inr h)
  case hbox => exact fun T s W hs => blk_cell hs.2.2 0
  case hpop =>
    intro T s W hs
    obtain ⟨vo, A, n, c, sk, hb, _⟩ := id (H3.out T s W hs.1)
    exact pops_and (H3.out T s W hs.1) (fun v => ⟨blk_far hs.2.1 (blk_ne hs.2.1 hb (by decide)) _, blk_far hs.2.2 (blk_ne hs.2.2 hb (by decide)) _⟩)
  case assign =>
    intro l' x W K hK
    gi_wp2
    exact hK
  case body =>
    rintro T l' s x W hT hTl hle _ ⟨hjp, hy, hbn⟩
    obtain ⟨fn, tmps, assign, body, hrun, hR⟩ := H4.out T s x W (fun k hk => hT k (.inl hk)) hjp
    have hcy := blk_cell hy 0
    simp only [List.getElem?_toArray, List.getElem?_cons_zero] at hcy
    have HY := Aside0.mk hy
    have HBN := Aside0.mk hbn
    clear hy hbn
    have hY1 := hT W0.heap.size (.inr (.inl rfl))
    have hB1 := hT (W0.heap.size + 1) (.inr (.inr rfl))
    gi_wp2
    refine ⟨rfl, RoundIn.mono (F := Fence.wide.inRound l') hR ?_⟩
    rintro e W' ⟨(⟨rfl, s', hm, hj⟩ | ⟨rfl, hjx⟩), hTk⟩
    · have HJ := Aside0.mk hj
      have HM := Aside0.mk hm
      have HT := Aside0.mk hTk
      clear hj hm hTk
      gi_wp2
      exact ⟨fun k hk => HT.out k hk.1 (by have := hk.2; omega), s', HM.out, HJ.out, (HT.out _ hY1 (Nat.le_refl _)).trans HY.out, (HT.out _ hB1 (by omega)).trans HBN.out⟩
    · have HJ := Aside0.mk hjx
      have HT := Aside0.mk hTk
      clear hjx hTk
      gi_wp2
      exact ⟨fun k hk => HT.out k hk.1 (by have := hk.2; omega), rfl, HJ.out⟩
  case done =>
    rintro D s W hD ⟨hj, _⟩ hn hdef
    go_wp2
    refine ⟨by simp, .inl ⟨_, _, rfl, run_takeDeferred hdef, ?_⟩⟩
    refine ⟨_, results_none rfl _ _ _, ⟨_, rfl⟩, .inl ⟨s, H0.out.less (H0.out.putObj _ hj (by omega) hdef rfl) (fun k hk => .inl hk), ?_⟩⟩
    obtain ⟨vo, A, c, sk, hb⟩ := hn
    exact ⟨vo, A, c, sk, (World.putObj_heap_other (fun e => by subst e; rw [hdef] at hb; cases hb)).trans hb⟩
  case stop =>
    rintro D c W hD ⟨rfl, hjx⟩ hdef
    go_wp2
    refine ⟨by simp, .inl ⟨_, _, rfl, run_takeDeferred hdef, ?_⟩⟩
    exact ⟨_, results_none rfl _ _ _, ⟨_, rfl⟩, .inr (H1x.out.putObj (s := ()) _ hjx (by omega) hdef rfl)⟩
end Go.Proofs.Ytnanaojjhmpilaa.PW
