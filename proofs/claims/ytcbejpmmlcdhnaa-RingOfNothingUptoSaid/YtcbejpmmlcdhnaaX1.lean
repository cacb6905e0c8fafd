/- Words, contracts and walks of the law RingOfNothing, in one text. -/
import Derived.Test.YtcbejpmmlcdhnaaX0
import Derived.Outline
namespace Go.Proofs.Ytcbejpmmlcdhnaa.PW
open Go.RowKit Go.Proofs.YtcbejpmmlcdhnaaW.PrintWords Go.Proofs.YtcbejpmmlcdhnaaW.PrintLast Go.Proofs.YtcbejpmmlcdhnaaW.PrintMore
set_option linter.unusedVariables false
set_option linter.unusedSimpArgs false
attribute [local go_sem] Oper.semAt_some

/-- The elements of a row of entries, each with blocks of its own. -/
theorem S_entries {w : World} {base g n cap : Nat} {ok : Nat → Prop} {L : List S33} (h : Kd.S k33 33 w base ok (.slice (some ⟨g, 0, none⟩) n cap) L) :
    ∃ f : Nat → Nat, ∀ (k : Nat) (y : S33), L[k]? = some y → ∃ A c, (∀ (j : Nat) (v : Value), (cells6 y (.slice A y.f5.length c))[j]? = some v → w.cell? ⟨g, k * 6 + j, none⟩ = some v) ∧
      Kd.R k55 55 w base (fun j => j ≠ g ∧ f j = k ∧ base ≤ j ∧ j < w.heap.size ∧ ok j) (.slice A y.f5.length c) y.f5 := by
  obtain ⟨f, hS⟩ := h
  obtain ⟨h0, inner, ⟨hl, ho⟩, hrl, hr⟩ := Kd.R_bound hS
  refine ⟨f, fun k y hk => ?_⟩
  have hz : L.zipIdx[k]? = some (y, k) := Kd.zip_at hk
  have hM := hr k _ hz
  obtain ⟨v5, hcs, hv⟩ := k33_openM (show k33.M w base _ y _ from hM)
  obtain ⟨A, c, rfl⟩ := Kd.R_slice hv
  rcases ho with ⟨he, _⟩ | ⟨g', cap', cur, he, hb, hh, hnc, hcm, hcs2, hcur⟩
  · cases he
  · injection he with he1 he2 he3
    injection he1 with he1
    injection he1 with he1
    subst he1
    refine ⟨A, c, ?_, Kd.R_mono hv (fun j hj => ⟨fun e => hj.1.2 (by rw [e]; simp [Value.ownBlock]), hj.2, hj.1.1.2.1, hj.1.1.2.2.1, hj.1.1.1⟩)⟩
    intro j v hj
    have hj6 : j < 6 := (List.getElem?_eq_some_iff.1 hj).1
    have h5 : ((inner.drop (k * 6)).take 6)[j]? = some v := by
      rw [show (inner.drop (k * 6)).take 6 = cells6 y (.slice A y.f5.length c) from hcs]
      exact hj
    rw [List.getElem?_take_of_lt hj6, List.getElem?_drop] at h5
    rw [blk_cell hh, ← Array.getElem?_toList]
    rw [← hcur] at h5
    have h6 := (List.getElem?_eq_some_iff.1 h5).1
    rw [List.length_take] at h6
    rw [List.getElem?_take_of_lt (by omega)] at h5
    exact h5
theorem setCells_drawn (g : Nat) : ∀ (vs : List Value) (o : Nat) (w : World), (w.setCells g o vs).drawn = w.drawn
  | [], _, _ => rfl
  | v :: r, o, w => by rw [World.setCells, setCells_drawn g r]; rfl
theorem alloc_full {w : World} {cur : Array Value} {e : TypeId} (vs : List Value) (hs : cur.size = vs.length) : (w.alloc (.cells cur e)).setCells w.heap.size 0 vs = w.alloc (.cells vs.toArray e) := by
  obtain ⟨h1, h2, h3, h4⟩ := setCells_same w.heap.size vs 0 (w.alloc (.cells cur e))
  have hb := blk_full (w := w.alloc (.cells cur e)) (g := w.heap.size) vs (heap_alloc_new w _) hs
  have hh : ((w.alloc (.cells cur e)).setCells w.heap.size 0 vs).heap = (w.alloc (.cells vs.toArray e)).heap := by
    apply Array.ext_getElem?
    intro i
    by_cases hi : i = w.heap.size
    · subst hi
      rw [hb, heap_alloc_new]
    · rw [setCells_far vs 0 i hi]
      simp only [World.alloc]
      rw [Array.getElem?_push, Array.getElem?_push, if_neg hi, if_neg hi]
  have h5 := setCells_drawn w.heap.size vs 0 (w.alloc (.cells cur e))
  cases hA : (w.alloc (.cells cur e)).setCells w.heap.size 0 vs
  rw [hA] at h1 h2 h3 h5 hh
  simp only [World.alloc] at h1 h2 h3 h5 hh ⊢
  subst h1 h2 h3 h5 hh
  rfl
/-- What the iterator itself holds while element k and those behind it are to come. -/
def Mine (T0 : Nat → Prop) (N0 N1 g : Nat) (f : Nat → Nat) (k : Nat) : Nat → Prop := fun j => T0 j ∨ (N0 ≤ j ∧ j < N1 ∧ (j = g ∨ k ≤ f j))
theorem out_all {W : World} {base b nn : Nat} {ok : Nat → Prop} {s : RS} (h : RingIs W base ok (some b) s) (hn : nn = s.l.length) :
    Calls Try.prog 34 #[.pointer (some ⟨b, 0, none⟩), .int .i64 (s.fl : Int), .int .i64 (nn : Int)] W fun e w' => e = .returned (.slice (some ⟨W.heap.size, 0, none⟩) nn nn) ∧ Kd.S k33 33 w' W.heap.size (fun _ => True) (.slice (some ⟨W.heap.size, 0, none⟩) nn nn) s.l ∧ Below W.heap.size W w' := by
  have := out_R h (s.fl : Int) (nn : Int) (.inr ⟨Int.le_refl _, by simp only [RS.la]; omega⟩)
  rw [Int.toNat_natCast, Int.toNat_natCast, Nat.sub_self, List.drop_zero, hn, List.take_length] at this
  rw [hn]
  exact this
def rg33.T1 : Bool × List (List Nat × List Nat) := (true, [([], []), ([], []), ([1], [1]), ([2], [2]), ([3], [3]), ([], []), ([5], [5]), ([6], [6]), ([7], [7]), ([], []), ([9], [9]), ([10], [10]), ([11], [11]), ([8, 12], [8, 12]), ([0, 4, 13], [0, 4, 13]), ([14], [14]), ([], [])])
def rg33.B1 : List Nat := [0, 0, 2, 6, 14, 0, 32, 96, 224, 0, 512, 1536, 3584, 8160, 16383, 32767, 0]
theorem rg33.tab1 : rtab .any (opsOf Try.f33 1) = rg33.T1 := by kernel_rfl
theorem rg33.bits1 : waitsOk rg33.T1.2 rg33.B1 = true := by kernel_rfl
set_option maxHeartbeats 4000000 in
set_option maxRecDepth 100000 in
theorem it33_some (Bn b : Nat) (s : RS) (base : Nat) (ok : Nat → Prop) (W : World) (hbox : W.cell? ⟨Bn, 0, none⟩ = some (.pointer (some ⟨b, 0, none⟩))) (hring : RingIs W base ok (some b) s) : ItRing Try.prog 33 Bn s.l W := by
  intro l J Jx T0 hJ hJx hT0 hY h0
  have HJ := Aside0.mk hJ
  have HY := Aside0.mk hY
  have HT0 := Aside0.mk hT0
  have H0 := Aside0.mk h0
  have HR := Aside0.mk hring
  obtain ⟨⟨r1, r2, r3, r4, r5, r6⟩, E, hR, _⟩ := id hring
  obtain ⟨c1, c2, c3, c4, c5⟩ := RingAt_cells hR
  obtain ⟨nn, hnn⟩ : ∃ nn, nn = s.l.length := ⟨_, rfl⟩
  have hlen : (s.la : Int) - (s.fl : Int) = (nn : Int) := by simp only [RS.la]; omega
  have hn64 : nn ≤ 64 := by omega
  have HNN := Aside0.mk hnn
  have hwr2 : wrap64 (nn : Int) = (nn : Int) := by unfold wrap64; omega
  have hla : (s.la : Int) ≤ 2147483647 := by omega
  have hflla : (s.fl : Int) ≤ (s.la : Int) := by simp only [RS.la]; omega
  have HRR := Aside0.mk (And.intro r1 (And.intro r2 r6))
  have d0 : W.drew.cell? ⟨Bn, 0, none⟩ = some (.pointer (some ⟨b, 0, none⟩)) := hbox
  have d1 : W.drew.cell? ⟨b, 385, none⟩ = some (.int .i64 (s.fl : Int)) := c2
  have d2 : W.drew.cell? ⟨b, 386, none⟩ = some (.int .i64 (s.la : Int)) := c3
  clear hJ hJx hY h0 hT0 hring hR r1 r2 r3 r4 r5 r6 c1 c4 c5 hnn
  go_enter Try.func33, Try.ntmps33
  go_wp2
  refine start_ (n := 17) (S := fun w' => w'.cell? ⟨Bn, 0, none⟩ = some (.pointer (some ⟨b, 0, none⟩)) ∧ w'.cell? ⟨b, 385, none⟩ = some (.int .i64 (s.fl : Int)) ∧ w'.cell? ⟨b, 386, none⟩ = some (.int .i64 (s.la : Int))) (ds := []) #[false, false, false, false, false, false, false, false, false, false, false, false, false, false, false, false, false] (by kernel_rfl) rfl rfl ⟨d0, d1, d2⟩ (fun hHeld => ?_)
  refine with_tabW rg33.tab1 rg33.bits1 (fun HT_ HW_ => ?_)
  refine pure_ (i := 16) (N := some 23) (v := ?_) (a' := ?_) #[false, false, false, false, false, false, false, false, false, false, false, false, false, false, false, false, true] rfl rfl (any_of HT_.out (by kernel_rfl)) (fun _ _ _ h => h) (Or.inl ⟨by rfl, ?_⟩) ?_ ?_
  rotate_left
  · intro w'
    go_simp
    with_reducible rfl
  rotate_left
  · simp only [Act.put, List.setIfInBounds_toArray, List.set_cons_zero, List.set_cons_succ, i64_w, i32_w]
    rfl
  refine take_ (i := 0) (N := some 7) (v := ?_) (a' := ?_) #[true, false, false, false, false, false, false, false, false, false, false, false, false, false, false, false, true] rfl rfl (take_ofW HT_.out HW_.out (by kernel_rfl)) (fun _ _ _ h => h) (Or.inl ⟨by rfl, ?_⟩) hHeld ?_ ?_
  rotate_left
  · rintro w' ⟨s0, s1, s2⟩
    go_simp
    with_reducible rfl
  rotate_left
  · simp only [Act.put, List.setIfInBounds_toArray, List.set_cons_zero, List.set_cons_succ, i64_w, i32_w]
    rfl
  refine take_ (i := 1) (N := some 8) (v := ?_) (a' := ?_) #[true, true, false, false, false, false, false, false, false, false, false, false, false, false, false, false, true] rfl rfl (take_ofW HT_.out HW_.out (by kernel_rfl)) (fun _ _ _ h => h) (Or.inl ⟨by rfl, ?_⟩) hHeld ?_ ?_
  rotate_left
  · rintro w' ⟨s0, s1, s2⟩
    go_simp
    with_reducible rfl
  rotate_left
  · simp only [Act.put, List.setIfInBounds_toArray, List.set_cons_zero, List.set_cons_succ, i64_w, i32_w]
    rfl
  refine pure_ (i := 2) (N := some 9) (v := ?_) (a' := ?_) #[true, true, true, false, false, false, false, false, false, false, false, false, false, false, false, false, true] rfl rfl (any_of HT_.out (by kernel_rfl)) (fun _ _ _ h => h) (Or.inl ⟨by rfl, ?_⟩) ?_ ?_
  rotate_left
  · intro w'
    go_simp
    with_reducible rfl
  rotate_left
  · simp only [Act.put, List.setIfInBounds_toArray, List.set_cons_zero, List.set_cons_succ, i64_w, i32_w]
    rfl
  refine pure_ (i := 3) (N := some 10) (v := ?_) (a' := ?_) #[true, true, true, true, false, false, false, false, false, false, false, false, false, false, false, false, true] rfl rfl (any_of HT_.out (by kernel_rfl)) (fun _ _ _ h => h) (Or.inl ⟨by rfl, ?_⟩) ?_ ?_
  rotate_left
  · intro w'
    go_simp
    with_reducible rfl
  rotate_left
  · simp only [Act.put, List.setIfInBounds_toArray, List.set_cons_zero, List.set_cons_succ, i64_w, i32_w]
    rfl
  refine take_ (i := 4) (N := some 11) (v := ?_) (a' := ?_) #[true, true, true, true, true, false, false, false, false, false, false, false, false, false, false, false, true] rfl rfl (take_ofW HT_.out HW_.out (by kernel_rfl)) (fun _ _ _ h => h) (Or.inl ⟨by rfl, ?_⟩) hHeld ?_ ?_
  rotate_left
  · rintro w' ⟨s0, s1, s2⟩
    go_simp
    with_reducible rfl
  rotate_left
  · simp only [Act.put, List.setIfInBounds_toArray, List.set_cons_zero, List.set_cons_succ, i64_w, i32_w]
    rfl
  refine take_ (i := 5) (N := some 12) (v := ?_) (a' := ?_) #[true, true, true, true, true, true, false, false, false, false, false, false, false, false, false, false, true] rfl rfl (take_ofW HT_.out HW_.out (by kernel_rfl)) (fun _ _ _ h => h) (Or.inl ⟨by rfl, ?_⟩) hHeld ?_ ?_
  rotate_left
  · rintro w' ⟨s0, s1, s2⟩
    go_simp
    with_reducible rfl
  rotate_left
  · simp only [Act.put, List.setIfInBounds_toArray, List.set_cons_zero, List.set_cons_succ, i64_w, i32_w]
    rfl
  refine pure_ (i := 6) (N := some 13) (v := ?_) (a' := ?_) #[true, true, true, true, true, true, true, false, false, false, false, false, false, false, false, false, true] rfl rfl (any_of HT_.out (by kernel_rfl)) (fun _ _ _ h => h) (Or.inl ⟨by rfl, ?_⟩) ?_ ?_
  rotate_left
  · intro w'
    go_simp
    with_reducible rfl
  rotate_left
  · simp only [Act.put, List.setIfInBounds_toArray, List.set_cons_zero, List.set_cons_succ, i64_w, i32_w]
    rfl
  refine pure_ (i := 7) (N := some 14) (v := ?_) (a' := ?_) #[true, true, true, true, true, true, true, true, false, false, false, false, false, false, false, false, true] rfl rfl (any_of HT_.out (by kernel_rfl)) (fun _ _ _ h => h) (Or.inl ⟨by rfl, ?_⟩) ?_ ?_
  rotate_left
  · intro w'
    go_simp
    with_reducible rfl
  rotate_left
  · simp only [Act.put, List.setIfInBounds_toArray, List.set_cons_zero, List.set_cons_succ, i64_w, i32_w]
    rfl
  refine take_ (i := 8) (N := some 15) (v := ?_) (a' := ?_) #[true, true, true, true, true, true, true, true, true, false, false, false, false, false, false, false, true] rfl rfl (take_ofW HT_.out HW_.out (by kernel_rfl)) (fun _ _ _ h => h) (Or.inl ⟨by rfl, ?_⟩) hHeld ?_ ?_
  rotate_left
  · rintro w' ⟨s0, s1, s2⟩
    go_simp
    with_reducible rfl
  rotate_left
  · simp only [Act.put, List.setIfInBounds_toArray, List.set_cons_zero, List.set_cons_succ, i64_w, i32_w]
    rfl
  refine take_ (i := 9) (N := some 16) (v := ?_) (a' := ?_) #[true, true, true, true, true, true, true, true, true, true, false, false, false, false, false, false, true] rfl rfl (take_ofW HT_.out HW_.out (by kernel_rfl)) (fun _ _ _ h => h) (Or.inl ⟨by rfl, ?_⟩) hHeld ?_ ?_
  rotate_left
  · rintro w' ⟨s0, s1, s2⟩
    go_simp
    with_reducible rfl
  rotate_left
  · simp only [Act.put, List.setIfInBounds_toArray, List.set_cons_zero, List.set_cons_succ, i64_w, i32_w]
    rfl
  refine pure_ (i := 10) (N := some 17) (v := ?_) (a' := ?_) #[true, true, true, true, true, true, true, true, true, true, true, false, false, false, false, false, true] rfl rfl (any_of HT_.out (by kernel_rfl)) (fun _ _ _ h => h) (Or.inl ⟨by rfl, ?_⟩) ?_ ?_
  rotate_left
  · intro w'
    go_simp
    with_reducible rfl
  rotate_left
  · simp only [Act.put, List.setIfInBounds_toArray, List.set_cons_zero, List.set_cons_succ, i64_w, i32_w]
    rfl
  refine pure_ (i := 11) (N := some 18) (v := ?_) (a' := ?_) #[true, true, true, true, true, true, true, true, true, true, true, true, false, false, false, false, true] rfl rfl (any_of HT_.out (by kernel_rfl)) (fun _ _ _ h => h) (Or.inl ⟨by rfl, ?_⟩) ?_ ?_
  rotate_left
  · intro w'
    go_simp
    with_reducible rfl
  rotate_left
  · simp only [Act.put, List.setIfInBounds_toArray, List.set_cons_zero, List.set_cons_succ, i64_w, i32_w]
    rfl
  refine take_ (i := 12) (N := some 19) (v := ?_) (a' := ?_) #[true, true, true, true, true, true, true, true, true, true, true, true, true, false, false, false, true] rfl rfl (take_ofW HT_.out HW_.out (by kernel_rfl)) (fun _ _ _ h => h) (Or.inl ⟨by rfl, ?_⟩) hHeld ?_ ?_
  rotate_left
  · rintro w' ⟨s0, s1, s2⟩
    go_simp
    with_reducible rfl
  rotate_left
  · simp only [Act.put, List.setIfInBounds_toArray, List.set_cons_zero, List.set_cons_succ, i64_w, i32_w]
    rfl
  refine pure_ (i := 13) (N := some 20) (v := ?_) (a' := ?_) #[true, true, true, true, true, true, true, true, true, true, true, true, true, true, false, false, true] rfl rfl (any_of HT_.out (by kernel_rfl)) (fun _ _ _ h => h) (Or.inl ⟨by rfl, ?_⟩) ?_ ?_
  rotate_left
  · intro w'
    go_simp
    with_reducible rfl
  rotate_left
  · simp only [Act.put, List.setIfInBounds_toArray, List.set_cons_zero, List.set_cons_succ, i64_w, i32_w]
    rfl
  refine one_ (i := 14) (N := some 21) #[true, true, true, true, true, true, true, true, true, true, true, true, true, true, true, false, true] rfl rfl (one_of HT_.out (by kernel_rfl)) (by decide) (fun K hK => ?_)
  refine goes_ Try.func34 (by kernel_rfl) rfl #[.pointer (some ⟨b, 0, none⟩), .int .i64 (s.fl : Int), .int .i64 (wrap64 (nn : Int))] (by rfl) rfl rfl (by simp only [List.map_toArray, List.map_cons, List.map_nil]; rfl) ?_
  rw [hwr2]
  with_reducible refine (out_all (RingIs_below HR.out (below_drew (Below.refl W.heap.size W))) HNN.out).mono ?_
  rintro e w3 ⟨rfl, hs3, hb3⟩
  refine ⟨_, rfl, ?_⟩
  refine hK.out _ _ ⟨(pw_cell_below hb3 d0), (pw_cell_below hb3 d1), (pw_cell_below hb3 d2)⟩ (fun hHeld => ?_)
  clear hK K
  refine norm_ (a' := ?_) ?_ ?_
  rotate_left
  · show Act.put _ (some 21) _ = _
    simp only [Act.put, List.setIfInBounds_toArray, List.set_cons_zero, List.set_cons_succ, i64_w, i32_w]
    rfl
  refine pure_ (i := 15) (N := some 22) (v := ?_) (a' := ?_) #[true, true, true, true, true, true, true, true, true, true, true, true, true, true, true, true, true] rfl rfl (any_of HT_.out (by kernel_rfl)) (fun _ _ _ h => h) (Or.inl ⟨by rfl, ?_⟩) ?_ ?_
  rotate_left
  · intro w'
    go_simp
    with_reducible rfl
  rotate_left
  · simp only [Act.put, List.setIfInBounds_toArray, List.set_cons_zero, List.set_cons_succ, i64_w, i32_w]
    rfl
  refine done_ (done_of HT_.out (by kernel_rfl)) ?_
  obtain ⟨f, hf⟩ := S_entries hs3
  have HSE := Aside0.mk hf
  have HB3 := Aside0.mk (show Below W.heap.size W w3 from below_then (below_drew (Below.refl W.heap.size W)) (Nat.le_refl _) hb3)
  have hg3 : W.heap.size < w3.heap.size := by
    have := Kd.S_lt hs3 W.heap.size (by simp [Value.ownBlock])
    exact this
  have HG3 := Aside0.mk hg3
  have HJ3 := Aside0.mk (show J (Mine T0 W.heap.size w3.heap.size W.heap.size f 0) 0 w3 from HJ.out T0 0 W w3 none _ H0.out (grown_of_below HB3.out none) (fun r e => by cases e) (fun k hk => hk.imp_right (fun h => ⟨h.1, h.2.1⟩)))
  clear hs3 hb3 hf hg3 d0 d1 d2
  go_wp2
  go_loopg [4, 23] nn (fun kq v4 v23 wr => ∃ k : Nat, k ≤ nn ∧ Aside0 (nn - k = kq) ∧ v23 = .int .i64 (k : Int) ∧ Aside0 (J (Mine T0 W.heap.size w3.heap.size W.heap.size f k) k wr) ∧ Aside0 (∀ j, W.heap.size ≤ j → j < w3.heap.size → (j = W.heap.size ∨ k ≤ f j) → wr.heap[j]? = w3.heap[j]?))
  case atStart => exact ⟨0, Nat.zero_le _, ⟨rfl⟩, rfl, HJ3, ⟨fun _ _ _ _ => rfl⟩⟩
  case round =>
    obtain ⟨k, hk, HKQ, rfl, HJK, HKP⟩ := hrel
    by_cases hlt : k < nn
    · have hd : decide ((k : Int) < (nn : Int)) = true := decide_eq_true (by omega)
      have hx := List.getElem?_eq_getElem (show k < s.l.length by rw [← HNN.out]; exact hlt)
      obtain ⟨y, hy⟩ : ∃ y, y = s.l[k]'(by rw [← HNN.out]; exact hlt) := ⟨_, rfl⟩
      rw [← hy] at hx
      obtain ⟨A, c, hcell, hrow⟩ := HSE.out k y hx
      have hgb : wr.heap[W.heap.size]? = w3.heap[W.heap.size]? := HKP.out _ (Nat.le_refl _) HG3.out (.inl rfl)
      have hcell2 : ∀ (j : Nat) (v : Value), (cells6 y (.slice A y.f5.length c))[j]? = some v → wr.cell? ⟨W.heap.size, k * 6 + j, none⟩ = some v := fun j v hj => by
        rw [show wr.cell? ⟨W.heap.size, k * 6 + j, none⟩ = w3.cell? ⟨W.heap.size, k * 6 + j, none⟩ by simp only [World.cell?]; rw [hgb]]
        exact hcell j v hj
      obtain ⟨m5, hm5⟩ : ∃ m5, m5 = y.f5.length := ⟨_, rfl⟩
      rw [← hm5] at hcell2 hrow
      have v0 : wr.cell? ⟨W.heap.size, k * 6, none⟩ = some (.int .i64 y.f0) := hcell2 0 _ rfl
      have v1 : wr.cell? ⟨W.heap.size, k * 6 + 1, none⟩ = some (.int .i64 y.f1) := hcell2 1 _ rfl
      have v2 : wr.cell? ⟨W.heap.size, k * 6 + 2, none⟩ = some (.int .i64 y.f2) := hcell2 2 _ rfl
      have v3 : wr.cell? ⟨W.heap.size, k * 6 + 3, none⟩ = some (.int .i64 y.f3) := hcell2 3 _ rfl
      have v4 : wr.cell? ⟨W.heap.size, k * 6 + 4, none⟩ = some (.int .i64 y.f4) := hcell2 4 _ rfl
      have v5 : wr.cell? ⟨W.heap.size, k * 6 + 5, none⟩ = some (.slice A m5 c) := hcell2 5 _ rfl
      have hnew : (wr.alloc (.cells zeroCells 33)).heap[wr.heap.size]? = some (.cells zeroCells 33) := heap_alloc_new _ _
      have HX := Aside0.mk hx
      have HM := Aside0.mk hm5
      have HROW := Aside0.mk hrow
      have HNEW := Aside0.mk hnew
      clear hx hy hcell hcell2 hgb hrow hm5 hnew
      go_wp2_with (with_reducible refine stop_store rfl ?_)
      refine wpList_store rfl rfl 33 (.tmp 4) (.tmp 26) rfl (.agg #[.int .i64 y.f0, .int .i64 y.f1, .int .i64 y.f2, .int .i64 y.f3, .int .i64 y.f4, .slice A m5 c]) (cells6 y (.slice A m5 c)) rfl rfl HNEW.out rfl size33 (by show 0 + 6 ≤ 6; omega) (by simp [cells6, Value.oneCell']) ?_
      rw [alloc_full (w := wr) (cur := zeroCells) (e := 33) (cells6 y (.slice A m5 c)) rfl]
      have hb2 : (wr.alloc (.cells (cells6 y (.slice A m5 c)).toArray 33)).heap[wr.heap.size]? = some (.cells (cells6 y (.slice A m5 c)).toArray 33) := heap_alloc_new _ _
      have hJ2 : J (fun j => Mine T0 W.heap.size w3.heap.size W.heap.size f (k + 1) j ∨ (j ≠ W.heap.size ∧ f j = k ∧ W.heap.size ≤ j ∧ j < w3.heap.size)) k (wr.alloc (.cells (cells6 y (.slice A m5 c)).toArray 33)) := by
        refine TOwn.less HJ.out (HJ.out.alloc (T' := Mine T0 W.heap.size w3.heap.size W.heap.size f k) _ HJK.out (fun j hj => .inl hj)) (fun j hj => ?_)
        rcases hj with (h | ⟨h1, h2, h3⟩) | ⟨h1, h2, h3, h4⟩
        · exact .inl h
        · exact .inr ⟨h1, h2, h3.imp_right (fun h => by omega)⟩
        · exact .inr ⟨h3, h4, .inr (by omega)⟩
      have hbel : Below wr.heap.size wr (wr.alloc (.cells (cells6 y (.slice A m5 c)).toArray 33)) := below_alloc (Below.refl _ _) _
      obtain ⟨wx, hwx⟩ : ∃ wx, wx = wr.alloc (.cells (cells6 y (.slice A m5 c)).toArray 33) := ⟨_, rfl⟩
      rw [← hwx] at hb2 hJ2 hbel ⊢
      have hkeep : ∀ j, W.heap.size ≤ j → j < w3.heap.size → (j = W.heap.size ∨ k ≤ f j) → wx.heap[j]? = w3.heap[j]? := fun j h1 h2 h3 => by
        have h4 := HKP.out j h1 h2 h3
        have h5 : j < wr.heap.size := by
          rw [Array.getElem?_eq_getElem h2] at h4
          exact (Array.getElem?_eq_some_iff.1 h4).1
        exact (hbel.block j h5).trans h4
      have hhand : Handed W.heap.size (Mine T0 W.heap.size w3.heap.size W.heap.size f (k + 1)) y A c (fun j => j ≠ W.heap.size ∧ f j = k ∧ W.heap.size ≤ j ∧ j < w3.heap.size) wx := by
        refine ⟨?_, fun j hj => ⟨fun hm => ?_, hj.2.2.1, ?_⟩⟩
        · rw [← HM.out]
          exact Kd.R_step (Kd.R_mono HROW.out (fun j hj => ⟨hj.1, hj.2.1, hj.2.2.1, hj.2.2.2.1⟩)) (fun j hj _ => hkeep j hj.2.2.1 hj.2.2.2 (.inr (by omega)))
        · rcases hm with hm | ⟨_, _, hm⟩
          · have := HT0.out j hm
            omega
          · rcases hm with hm | hm
            · exact hj.1 hm
            · omega
        · have h4 := hkeep j hj.2.2.1 hj.2.2.2 (.inr (by omega))
          rw [Array.getElem?_eq_getElem hj.2.2.2] at h4
          exact (Array.getElem?_eq_some_iff.1 h4).1
      have u0 : wx.cell? ⟨wr.heap.size, 0, none⟩ = some (.int .i64 y.f0) := (blk_cell hb2 0).trans rfl
      have u1 : wx.cell? ⟨wr.heap.size, 1, none⟩ = some (.int .i64 y.f1) := (blk_cell hb2 1).trans rfl
      have u2 : wx.cell? ⟨wr.heap.size, 2, none⟩ = some (.int .i64 y.f2) := (blk_cell hb2 2).trans rfl
      have u3 : wx.cell? ⟨wr.heap.size, 3, none⟩ = some (.int .i64 y.f3) := (blk_cell hb2 3).trans rfl
      have u4 : wx.cell? ⟨wr.heap.size, 4, none⟩ = some (.int .i64 y.f4) := (blk_cell hb2 4).trans rfl
      have u5 : wx.cell? ⟨wr.heap.size, 5, none⟩ = some (.slice A m5 c) := (blk_cell hb2 5).trans rfl
      have hTlt : ∀ j, Mine T0 W.heap.size w3.heap.size W.heap.size f (k + 1) j → j < wx.heap.size := by
        have hg := hkeep W.heap.size (Nat.le_refl _) HG3.out (.inl rfl)
        rw [Array.getElem?_eq_getElem HG3.out] at hg
        have hglt : W.heap.size < wx.heap.size := (Array.getElem?_eq_some_iff.1 hg).1
        intro j hj
        rcases hj with hj | ⟨h1, h2, h3⟩
        · have := HT0.out j hj
          omega
        · have h4 := hkeep j h1 h2 (h3.imp_right (fun h => by omega))
          rw [Array.getElem?_eq_getElem h2] at h4
          exact (Array.getElem?_eq_some_iff.1 h4).1
      have hYA := HY.out _ k y A c _ wx (fun j hj => .inl hj) hTlt HX.out hJ2 hhand
      rw [← HM.out] at hYA
      have HYA := Aside0.mk hYA
      have HKE := Aside0.mk hkeep
      have HTL := Aside0.mk hTlt
      have HBX := Aside0.mk hb2
      clear hYA hkeep hTlt hJ2 hhand hbel hb2 hwx
      refine wpList_nil ?_
      refine ‹∀ (a : Act) (w : World), Code.wp Try.prog _ _ a w → _› _ _ ?_
      refine wp_seq ?_
      refine (wpIn_wide (n := 0)).1 ?_
      refine wpIn_region_lit ?_
      refine listIn_value (r := none) (W1 := wx) (v := .func (.yield l) #[] #[]) rfl (by simp) (by rfl) ?_
      refine listIn_value (r := none) (W1 := wx) (v := .agg #[.int .i64 y.f0, .int .i64 y.f1, .int .i64 y.f2, .int .i64 y.f3, .int .i64 y.f4, .slice A m5 c]) rfl (by simp) ?_ ?_
      · go_simp
      refine listIn_yield (r := none) (.tmp 27) (.tmp 28) _ rfl rfl (by rfl) (by rfl) HYA.out ?_ (by rintro c W' ⟨(⟨h, _⟩ | ⟨h, _⟩), _⟩ <;> cases h) (by rintro W' ⟨(⟨h, _⟩ | ⟨h, _⟩), _⟩ <;> cases h)
      rintro v W' ⟨(⟨h, hj'⟩ | ⟨h, hjx⟩), hTk⟩
      · cases h
        have HJ' := Aside0.mk hj'
        have HK' := Aside0.mk (show ∀ j, W.heap.size ≤ j → j < w3.heap.size → (j = W.heap.size ∨ k + 1 ≤ f j) → W'.heap[j]? = w3.heap[j]? from fun j h1 h2 h3 => (hTk j (.inr ⟨h1, h2, h3⟩) h1 (HTL.out j (.inr ⟨h1, h2, h3⟩))).trans (HKE.out j h1 h2 (h3.imp_right (fun h => by omega))))
        clear hj' hTk u0 u1 u2 u3 u4 u5 v0 v1 v2 v3 v4 v5
        refine listIn_value (r := none) rfl (by simp) (by rfl) ?_
        refine wpListIn_nil ?_
        go_wp2
        go_roundg (nn - (k + 1))
        case measure => have := HKQ.out; omega
        case rel => exact ⟨k + 1, by omega, ⟨rfl⟩, by go_num, HJ', HK'⟩
      · cases h
        have HJX := Aside0.mk hjx
        clear hjx hTk u0 u1 u2 u3 u4 u5 v0 v1 v2 v3 v4 v5
        refine listIn_value (r := none) rfl (by simp) (by rfl) ?_
        refine wpListIn_nil ?_
        go_wp2
        refine bodyPost_ret (results_none rfl _ _ _) rfl ?_
        exact ⟨⟨_, rfl⟩, .inr HJX.out⟩
    · have hd : decide ((k : Int) < (nn : Int)) = false := decide_eq_false (by omega)
      have hkn : k = nn := by omega
      have HJF := Aside0.mk (TOwn.less HJ.out (hkn ▸ HJK.out) (fun j hj => (.inl hj : Mine T0 W.heap.size w3.heap.size W.heap.size f nn j)))
      rw [HNN.out] at HJF
      clear hkn
      go_wp2
      go_end0
      exact ⟨⟨_, rfl⟩, .inl HJF.out⟩
set_option maxRecDepth 100000 in
theorem it33 (Bn : Nat) (p : Option Nat) (s : RS) (base : Nat) (ok : Nat → Prop) (W : World) (hbox : W.cell? ⟨Bn, 0, none⟩ = some (ptr p)) (hring : RingIs W base ok p s) : ItRing Try.prog 33 Bn s.l W := by
  cases p with
  | some b => exact it33_some Bn b s base ok W hbox hring
  | none =>
    intro l J Jx T0 hJ hJx hT0 hY h0
    obtain ⟨_, rfl⟩ := hring
    have HZ := Aside0.mk h0
    have hb : W.cell? ⟨Bn, 0, none⟩ = some (.pointer none) := hbox
    clear hJ hJx hT0 hY h0 hbox
    go_enter Try.func33, Try.ntmps33
    go_wp2
    refine bodyPost_ret (results_none rfl _ _ _) rfl ?_
    exact ⟨⟨_, rfl⟩, .inl HZ.out⟩
end Go.Proofs.Ytcbejpmmlcdhnaa.PW
namespace Go.Proofs.Ytcbejpmmlcdhnaa.PW
open Go.RowKit Go.Proofs.YtcbejpmmlcdhnaaW.PrintWords Go.Proofs.YtcbejpmmlcdhnaaW.PrintLast Go.Proofs.YtcbejpmmlcdhnaaW.PrintMore
set_option linter.unusedVariables false
set_option linter.unusedSimpArgs false
attribute [local go_sem] Oper.semAt_some

/-- A block of cells. -/
def Celly (W : World) (j : Nat) : Prop := ∃ cs q, W.heap[j]? = some (.cells cs q (0, 0))
theorem Celly.lt {W : World} {j : Nat} (h : Celly W j) : j < W.heap.size := by obtain ⟨cs, q, h⟩ := h; exact blk_lt h
theorem S_celly {α : Type} {d : Kd α} {e base : Nat} {ok : Nat → Prop} {w : World} {v : Value} {xs : List α} (h : Kd.S d e w base ok v xs) : Kd.S d e w base (fun k => ok k ∧ base ≤ k ∧ Celly w k) v xs :=
  Kd.S_mono (Kd.S_bound h) (fun k hk => ⟨hk.1, hk.2.1, by obtain ⟨q, _, cs, hc⟩ := hk.2.2.2; exact ⟨cs, q, hc⟩⟩)
theorem R_celly {α : Type} {d : Kd α} {e base : Nat} {ok : Nat → Prop} {w : World} {v : Value} {xs : List α} (h : d.R e w base ok v xs) : d.R e w base (fun k => ok k ∧ base ≤ k ∧ Celly w k) v xs :=
  Kd.R_mono (Kd.R_bound h) (fun k hk => ⟨hk.1, hk.2.1, by obtain ⟨q, _, cs, hc⟩ := hk.2.2.2; exact ⟨cs, q, hc⟩⟩)
/-- What a turn of a block that is no cells, or new blocks, leave alone. -/
theorem celly_grown {W W' : World} {row : Option Nat} {j B : Nat} (hc : Celly W j) (hg : W.grownBy W' row) (hr : ∀ r, row = some r → B ≤ r ∧ ∃ o : Obj, W.heap[r]? = some o ∧ o.isCells = false) : W'.heap[j]? = W.heap[j]? := by
  obtain ⟨cs, q, h⟩ := hc
  refine hg.block j (blk_lt h) (fun e => ?_)
  obtain ⟨_, o, ho, hc⟩ := hr j e.symm
  rw [h] at ho
  cases ho
  cases hc
theorem Celly.grown {W W' : World} {row : Option Nat} {j B : Nat} (hc : Celly W j) (hg : W.grownBy W' row) (hr : ∀ r, row = some r → B ≤ r ∧ ∃ o : Obj, W.heap[r]? = some o ∧ o.isCells = false) : Celly W' j := by
  have := celly_grown hc hg hr
  obtain ⟨cs, q, h⟩ := hc
  exact ⟨cs, q, this.trans h⟩
theorem blk_celly {W W' : World} {row : Option Nat} {j B : Nat} {cs : Array Value} {q : TypeId} (h : W.heap[j]? = some (.cells cs q (0, 0))) (hg : W.grownBy W' row) (hr : ∀ r, row = some r → B ≤ r ∧ ∃ o : Obj, W.heap[r]? = some o ∧ o.isCells = false) : W'.heap[j]? = some (.cells cs q (0, 0)) := (celly_grown ⟨cs, q, h⟩ hg hr).trans h
/-- All: a closure over the ring's pointer. -/
theorem All_C (p : Option Nat) (w : World) : Calls Try.prog 13 #[ptr p] w fun e w' => e = .returned (.func (.func 33) #[] #[.pointer (some ⟨w.heap.size, 0, none⟩)]) ∧ w' = w.alloc (.cells #[ptr p] 23) := by
  unfold ptr
  go_enter Try.func13, Try.ntmps13
  go_wp2
  go_ret
  exact ⟨rfl, rfl⟩
/-- While entries are collected: L.take k in the row at block n0 + 2. -/
def AllI (w0 : World) (p : Option Nat) (L : List S33) (T : Nat → Prop) (k : Nat) (W : World) : Prop :=
  ∃ v okr, Kd.S k33 33 W w0.heap.size okr v (L.take k) ∧ W.heap[w0.heap.size]? = some (.cells #[.slice none 0 0] 25 (0, 0)) ∧ W.heap[w0.heap.size + 1]? = some (.cells #[.bool false] 4 (0, 0)) ∧ W.heap[w0.heap.size + 2]? = some (.cells #[v] 25 (0, 0)) ∧ W.heap[w0.heap.size + 3]? = some (.cells #[ptr p] 23 (0, 0)) ∧
    (∀ j, okr j → w0.heap.size + 4 ≤ j ∧ ¬ T j ∧ Celly W j) ∧ Below w0.heap.size w0 W
theorem AllI_own (w0 : World) (p : Option Nat) (L : List S33) (hB : w0.heap.size ≤ w0.heap.size + 4) : TOwn (w0.heap.size + 4) (AllI w0 p L) := by
  rintro T k W W' row T' ⟨v, okr, h1, h2, h3, h4, h5, h6, h7⟩ hg hr hT
  refine ⟨v, okr, Kd.S_step h1 (fun j hj _ => celly_grown (h6 j hj).2.2 hg hr), blk_celly h2 hg hr, blk_celly h3 hg hr, blk_celly h4 hg hr, blk_celly h5 hg hr, fun j hj => ⟨(h6 j hj).1, fun hx => ?_, (h6 j hj).2.2.grown hg hr⟩, h7.grown hg h7.size (fun r e => by have := (hr r e).1; omega)⟩
  rcases hT j hx with h | h
  · exact (h6 j hj).2.1 h
  · have := (h6 j hj).2.2.lt
    omega
end Go.Proofs.Ytcbejpmmlcdhnaa.PW
namespace Go.Proofs.Ytcbejpmmlcdhnaa.PW
open Go.RowKit Go.Proofs.YtcbejpmmlcdhnaaW.PrintWords Go.Proofs.YtcbejpmmlcdhnaaW.PrintLast Go.Proofs.YtcbejpmmlcdhnaaW.PrintMore
set_option linter.unusedVariables false
set_option linter.unusedSimpArgs false
attribute [local go_sem] Oper.semAt_some

theorem results_25_4 {fn : Func} {p q : Tmp} (h : fn.results = #[.cell p 25, .cell q 4]) (tmps : Array Value) (w : World) (g1 g2 n c : Nat) (A : Option Addr) (b : Bool)
    (hp : tmps.getD p undef = .pointer (some ⟨g1, 0, none⟩)) (hq : tmps.getD q undef = .pointer (some ⟨g2, 0, none⟩)) (c1 : w.cell? ⟨g1, 0, none⟩ = some (.slice A n c)) (c2 : w.cell? ⟨g2, 0, none⟩ = some (.bool b)) :
    (results fn tmps).run Try.prog w = .ok (.tuple #[.slice A n c, .bool b]) w := by
  have hp' : tmps[p]?.getD undef = .pointer (some ⟨g1, 0, none⟩) := by simpa using hp
  have hq' : tmps[q]?.getD undef = .pointer (some ⟨g2, 0, none⟩) := by simpa using hq
  have l1 : (loadVar 25 ⟨g1, 0, none⟩).run Try.prog w = .ok (.slice A n c) w := by go_simp
  have l2 : (loadVar 4 ⟨g2, 0, none⟩).run Try.prog w = .ok (.bool b) w := by go_simp
  simp [results, h, hp', hq', asAddr, l1, l2]
theorem blk4 (w : World) (o0 o1 o2 o3 : Obj) {W : World} (hW : W = (((w.alloc o0).alloc o1).alloc o2).alloc o3) : W.heap[w.heap.size]? = some o0 ∧ W.heap[w.heap.size + 1]? = some o1 ∧ W.heap[w.heap.size + 2]? = some o2 ∧ W.heap[w.heap.size + 3]? = some o3 ∧ W.heap.size = w.heap.size + 4 ∧ Below w.heap.size w W := by
  subst hW
  have s1 := szA w o0
  have s2 := szA (w.alloc o0) o1
  have s3 := szA ((w.alloc o0).alloc o1) o2
  have s4 := szA (((w.alloc o0).alloc o1).alloc o2) o3
  have n0 := heap_alloc_new w o0
  have n1 := heap_alloc_new (w.alloc o0) o1
  have n2 := heap_alloc_new ((w.alloc o0).alloc o1) o2
  have n3 := heap_alloc_new (((w.alloc o0).alloc o1).alloc o2) o3
  have b2 : Below (w.alloc o0).heap.size (w.alloc o0) ((w.alloc o0).alloc o1) := below_alloc (Below.refl _ _) _
  have b3 : Below ((w.alloc o0).alloc o1).heap.size ((w.alloc o0).alloc o1) (((w.alloc o0).alloc o1).alloc o2) := below_alloc (Below.refl _ _) _
  have b4 : Below (((w.alloc o0).alloc o1).alloc o2).heap.size (((w.alloc o0).alloc o1).alloc o2) ((((w.alloc o0).alloc o1).alloc o2).alloc o3) := below_alloc (Below.refl _ _) _
  rw [s1] at n1
  rw [s2, s1] at n2
  rw [s3, s2, s1] at n3
  refine ⟨?_, ?_, ?_, ?_, by omega, below_alloc (below_alloc (below_alloc (below_alloc (Below.refl _ _) _) _) _) _⟩
  · exact (b4.block _ (by omega)).trans ((b3.block _ (by omega)).trans ((b2.block _ (by omega)).trans n0))
  · exact (b4.block _ (by omega)).trans ((b3.block _ (by omega)).trans n1)
  · exact (b4.block _ (by omega)).trans n2
  · exact n3
theorem eq29 (f : FuncId) (xs : Array Value) : ∀ W : World, (binOp .eql 29 (.func (.func f) #[] xs) .nilFunc).run Try.prog W = .ok (.bool false) W := fun W => by kernel_rfl
set_option maxHeartbeats 8000000 in
set_option maxRecDepth 100000 in
theorem all_R {w : World} {base : Nat} {ok : Nat → Prop} {p : Option Nat} {s : RS} (h : RingIs w base ok p s) :
    Calls Try.prog 12 #[ptr p] w fun e w' => ∃ A n c, e = .returned (.tuple #[.slice A n c, .bool true]) ∧ n = s.l.length ∧ n ≤ c ∧ Kd.S k33 33 w' w.heap.size (fun _ => True) (.slice A n c) s.l ∧ Below w.heap.size w w' := by
  have H := Aside0.mk h
  have hlen : s.l.length ≤ 64 := Nat.le_trans h.1.2.1 h.1.1
  have HLEN := Aside0.mk hlen
  clear h hlen
  refine (callsIn_wide (n := 0)).1 (callsIn_of_wp_marks Try.func12 rfl trivial ?_)
  refine (wpIn_wide (n := 0)).2 ?_
  simp only [Try.ntmps12, List.size_toArray, List.length_cons, List.length_nil, Nat.reduceAdd, Nat.reduceSub, Array.replicate_succ, Array.replicate_zero, List.push_toArray, List.append_toArray, List.nil_append, List.cons_append]
  go_wp2_with fail
  refine (All_C p _).mono ?_
  rintro e w1 ⟨rfl, rfl⟩
  obtain ⟨w1, hw1⟩ : ∃ w1, w1 = (((w.alloc (.cells #[.slice none 0 0] 25)).alloc (.cells #[.bool false] 4)).alloc (.cells #[.slice none 0 0] 25)).alloc (.cells #[ptr p] 23) := ⟨_, rfl⟩
  have hsz : (((w.alloc (.cells #[.slice none 0 0] 25)).alloc (.cells #[.bool false] 4)).alloc (.cells #[.slice none 0 0] 25)).heap.size = w.heap.size + 3 := by rw [szA, szA, szA]
  obtain ⟨b0, b1, b2, b3, b4, b5⟩ := blk4 w _ _ _ _ hw1
  rw [← hw1, hsz]
  have HB := Aside0.mk (And.intro b0 (And.intro b1 (And.intro b2 (And.intro b3 (And.intro b4 b5)))))
  have he := eq29 33 #[.pointer (some ⟨w.heap.size + 3, 0, none⟩)]
  have e2 : w.heap.size + 1 + 1 = w.heap.size + 2 := rfl
  rw [e2]
  clear hw1 hsz b0 b1 b2 b3 b4 b5 e2
  go_wp2
  have hI0 : AllI w p s.l (fun _ => False) 0 w1 := ⟨.slice none 0 0, fun _ => False, Kd.S_nil _ _ _ _ _, HB.out.1, HB.out.2.1, HB.out.2.2.1, HB.out.2.2.2.1, fun j hj => hj.elim, HB.out.2.2.2.2.2⟩
  refine rangeRing (gf := 33) (Bn := w.heap.size + 3) 6 s.l rfl (enters_ Try.func33 (by kernel_rfl) rfl) rfl (AllI w p s.l) (fun _ _ => False) (fun _ => False) ?hI ?hIx ?h0 ?hT0 ?hit ?assign ?body ?done ?stop
  case hI => exact TOwn.weak (AllI_own w p s.l (by omega)) (by have := HB.out.2.2.2.2.1; omega)
  case hIx => exact fun c s A B row hs hg hr => hs
  case h0 => exact hI0
  case hT0 => exact fun j hj => hj.elim
  case hit =>
    rintro T W ⟨v, okr, h1, h2, h3, h4, h5, h6, h7⟩
    exact it33 _ p s base ok W (blk_cell h5 0) (RingIs_below H.out h7)
  case assign =>
    intro l y A c W K hK
    simp only [List.zip_toArray, List.zip_cons_cons, List.zip_nil_left, List.zip_nil_right, List.foldl_toArray, List.foldl_toArray', List.foldl_cons, List.foldl_nil, List.setIfInBounds_toArray, List.set_cons_zero, List.set_cons_succ] at hK ⊢
    refine region_round l (by rintro ⟨a, w, h⟩; exact h) (by simp) ?_
    obtain ⟨m5, hm5⟩ : ∃ m5, m5 = y.f5.length := ⟨_, rfl⟩
    rw [← hm5] at hK ⊢
    have HK := Aside0.mk hK
    have HNEW := Aside0.mk (heap_alloc_new W (.cells zeroCells 33))
    clear hK hm5
    unfold entV at *
    go_wp2_with (with_reducible refine stop_store rfl ?_)
    refine wpList_store rfl rfl 33 (.tmp 6) (.tmp 12) rfl (.agg #[.int .i64 y.f0, .int .i64 y.f1, .int .i64 y.f2, .int .i64 y.f3, .int .i64 y.f4, .slice A m5 c]) (cells6 y (.slice A m5 c)) rfl rfl HNEW.out rfl size33 (by show 0 + 6 ≤ 6; omega) (by simp [cells6, Value.oneCell']) ?_
    rw [alloc_full (w := W) (cur := zeroCells) (e := 33) (cells6 y (.slice A m5 c)) rfl]
    exact wpList_nil HK.out
  case body =>
    rintro T l k y A c okx B W hT hTlt hTl hle hloop hy ⟨v, okr, h1, h2, h3, h4, h5, h6, h7⟩ ⟨hR, hokx⟩ hBle hbx
    have hs4 : w1.heap.size = w.heap.size + 4 := HB.out.2.2.2.2.1
    rw [hs4] at hle hR hokx hBle
    simp only [List.zip_toArray, List.zip_cons_cons, List.zip_nil_left, List.zip_nil_right, List.foldl_toArray, List.foldl_toArray', List.foldl_cons, List.foldl_nil, List.setIfInBounds_toArray, List.set_cons_zero, List.set_cons_succ]
    obtain ⟨m5, hm5⟩ : ∃ m5, m5 = y.f5.length := ⟨_, rfl⟩
    rw [← hm5] at hR hbx ⊢
    unfold entV
    have c4 : W.cell? ⟨w.heap.size + 2, 0, none⟩ = some v := (blk_cell h4 0).trans rfl
    have z4 : W.frozen? ⟨w.heap.size + 2, 0, none⟩ = false := blk_frozen h4 0
    have u0 : W.cell? ⟨B, 0, none⟩ = some (.int .i64 y.f0) := (blk_cell hbx 0).trans rfl
    have u1 : W.cell? ⟨B, 1, none⟩ = some (.int .i64 y.f1) := (blk_cell hbx 1).trans rfl
    have u2 : W.cell? ⟨B, 2, none⟩ = some (.int .i64 y.f2) := (blk_cell hbx 2).trans rfl
    have u3 : W.cell? ⟨B, 3, none⟩ = some (.int .i64 y.f3) := (blk_cell hbx 3).trans rfl
    have u4 : W.cell? ⟨B, 4, none⟩ = some (.int .i64 y.f4) := (blk_cell hbx 4).trans rfl
    have u5 : W.cell? ⟨B, 5, none⟩ = some (.slice A m5 c) := (blk_cell hbx 5).trans rfl
    have hkl : k < s.l.length := (List.getElem?_eq_some_iff.1 hy).1
    have htk : s.l.take (k + 1) = s.l.take k ++ [y] := by
      rw [List.take_add_one, hy]
      rfl
    have F1 := Aside0.mk h1
    have F2 := Aside0.mk h2
    have F3 := Aside0.mk h3
    have F4 := Aside0.mk h4
    have F5 := Aside0.mk h5
    have F6 := Aside0.mk h6
    have F7 := Aside0.mk h7
    have FR := Aside0.mk hR
    have FX := Aside0.mk hokx
    have FT := Aside0.mk hTlt
    have FM := Aside0.mk hm5
    have FK := Aside0.mk hkl
    have FTK := Aside0.mk htk
    clear h1 h2 h3 h4 h5 h6 h7 hR hokx hTlt hm5 hkl htk hbx hy hs4 hloop hI0
    refine wpIn_block ?_
    refine wpIn_seq ?_
    refine region_round l (by rintro ⟨a, w, h⟩; exact h) (by simp) ?_
    go_wp2_with (with_reducible refine stop_append rfl ?_)
    refine Kd.S_append k33 (w0 := w) w.heap.size rfl (.tmp 13) (.tmp 15) 25 33 (.agg #[(.int .i64 0), (.int .i64 0), (.int .i64 0), (.int .i64 0), (.int .i64 0), (.slice none 0 0)]) 64 rfl Try.underlying25 info33 rfl (by decide) (by omega) v (s.l.take k) y (cells6 y (.slice A m5 c)) (fun j => okr j ∨ okx j ∨ W.heap.size ≤ j) okx rfl rfl
      (k33_mkM _ _ _ _ (Kd.R_lower FR.out (by omega))) (fun j hj => ⟨.inr (.inl hj), fun e => (F6.out j ((Kd.S_R F1.out).1 j e.symm)).2.1 (.inr hj)⟩) (fun j hj => .inr (.inr hj)) (Kd.S_mono F1.out (fun j hj => ⟨.inl hj, fun hx => (F6.out j hj).2.1 (.inr hx)⟩)) F7.out F7.out.size (by rw [List.length_take]; have := HLEN.out; omega) ?_
    intro v1 w2 ho hb hg hat
    rw [← FTK.out] at ho
    obtain ⟨A1, c1, rfl⟩ := Kd.S_slice ho
    obtain ⟨nn, hnn⟩ : ∃ nn, nn = (s.l.take (k + 1)).length := ⟨_, rfl⟩
    have hnn64 : nn ≤ 64 := by rw [hnn, List.length_take]; have := HLEN.out; omega
    rw [← hnn] at ho ⊢
    have hne : ∀ i, i < 4 → some (w.heap.size + i) ≠ v.ownBlock := fun i hi e => by
      have := (F6.out _ ((Kd.S_R F1.out).1 _ e.symm)).1
      omega
    have hb4 := blk_grown F4.out hg (hne 2 (by omega))
    have c61 : w2.cell? ⟨w.heap.size + 2, 0, none⟩ = some v := (blk_cell hb4 0).trans rfl
    have z61 := blk_frozen hb4 0
    have G1 := Aside0.mk ho
    have G2 := Aside0.mk hg
    have G3 := Aside0.mk hb4
    have G4 := Aside0.mk (And.intro (blk_grown F2.out hg (hne 0 (by omega))) (And.intro (blk_grown F3.out hg (hne 1 (by omega))) (blk_grown F5.out hg (hne 3 (by omega)))))
    have G5 := Aside0.mk hb
    have GN := Aside0.mk hnn
    clear ho hb hg hat hb4 c4 z4 u0 u1 u2 u3 u4 u5 hnn hne
    go_wp2
    obtain ⟨W2, hW2⟩ : ∃ W2, W2 = w2.setCell ⟨w.heap.size + 2, 0, none⟩ (.slice A1 nn c1) := ⟨_, rfl⟩
    rw [← hW2]
    have hb5 : W2.heap[w.heap.size + 2]? = some (.cells #[.slice A1 nn c1] 25 (0, 0)) := by rw [hW2]; simpa using blk_set G3.out 0 (.slice A1 nn c1)
    have hfar : ∀ j, j ≠ w.heap.size + 2 → W2.heap[j]? = w2.heap[j]? := fun j hj => by rw [hW2]; exact Below.heap_setCell w2 _ _ j hj
    have hI : AllI w p s.l T (k + 1) W2 := by
      refine ⟨_, fun j => (okr j ∨ okx j ∨ W.heap.size ≤ j) ∧ Celly w2 j ∧ j ≠ w.heap.size + 2 ∧ w.heap.size + 4 ≤ j, ?_, (hfar _ (by omega)).trans G4.out.1, (hfar _ (by omega)).trans G4.out.2.1, hb5, (hfar _ (by omega)).trans G4.out.2.2, ?_, ?_⟩
      · refine Kd.S_step (Kd.S_mono (S_celly G1.out) (fun j hj => ⟨hj.1, hj.2.2, ?_, ?_⟩)) (fun j hj _ => hfar j hj.2.2.1)
        · rcases hj.1 with h | h | h
          · have := (F6.out j h).1
            omega
          · have := (FX.out j h).2.1
            omega
          · have := F5.out
            have := blk_lt F5.out
            omega
        · rcases hj.1 with h | h | h
          · exact (F6.out j h).1
          · exact (FX.out j h).2.1
          · have := blk_lt F5.out
            omega
      · intro j hj
        refine ⟨hj.2.2.2, fun hT => ?_, ?_⟩
        · rcases hj.1 with h | h | h
          · exact (F6.out j h).2.1 (.inl hT)
          · exact (FX.out j h).1 hT
          · have := FT.out j hT
            omega
        · obtain ⟨cs, q, hc⟩ := hj.2.1
          exact ⟨cs, q, (hfar j hj.2.2.1).trans hc⟩
      · rw [hW2]
        exact below_set G5.out (by show w.heap.size ≤ w.heap.size + 2; omega)
    have hTk : ∀ j, T j ∧ w1.heap.size ≤ j → W2.heap[j]? = W.heap[j]? := fun j hj => by
      have h4 := HB.out.2.2.2.2.1
      exact (hfar j (by omega)).trans (G2.out.block j (FT.out j hj.1) (fun e => (F6.out j ((Kd.S_R F1.out).1 j e.symm)).2.1 (.inl hj.1)))
    have c62 : W2.cell? ⟨w.heap.size + 2, 0, none⟩ = some (.slice A1 nn c1) := (blk_cell hb5 0).trans rfl
    have HI := Aside0.mk hI
    have HTK := Aside0.mk hTk
    clear hW2 hb5 hfar hI hTk c61 z61
    gi_wp2
    exact ⟨HTK.out, HI.out⟩
  case done =>
    rintro D W hD ⟨v, okr, h1, h2, h3, h4, h5, h6, h7⟩ hK
    rw [List.take_length] at h1
    obtain ⟨A1, c1, rfl⟩ := Kd.S_slice h1
    obtain ⟨nn, hnn⟩ : ∃ nn, nn = s.l.length := ⟨_, rfl⟩
    rw [← hnn] at h1 h4
    have c4 : W.cell? ⟨w.heap.size + 2, 0, none⟩ = some (.slice A1 nn c1) := (blk_cell h4 0).trans rfl
    have F1 := Aside0.mk h1
    have F2 := Aside0.mk h2
    have F3 := Aside0.mk h3
    have F6 := Aside0.mk h6
    have F7 := Aside0.mk h7
    have FN := Aside0.mk hnn
    have c2 : W.cell? ⟨w.heap.size, 0, none⟩ = some (.slice none 0 0) := (blk_cell h2 0).trans rfl
    have z2 : W.frozen? ⟨w.heap.size, 0, none⟩ = false := blk_frozen h2 0
    have c3 : W.cell? ⟨w.heap.size + 1, 0, none⟩ = some (.bool false) := (blk_cell h3 0).trans rfl
    have z3 : W.frozen? ⟨w.heap.size + 1, 0, none⟩ = false := blk_frozen h3 0
    clear h1 h2 h3 h4 h5 h6 h7 hnn hI0
    have hdf : ((W.setCell ⟨w.heap.size, 0, none⟩ (.slice A1 nn c1)).setCell ⟨w.heap.size + 1, 0, none⟩ (.bool true)).heap[D]? = some (.deferred (some [])) := by
      have h4 := HB.out.2.2.2.2.1
      exact (Below.heap_setCell _ _ _ D (by show D ≠ w.heap.size + 1; omega)).trans ((Below.heap_setCell _ _ _ D (by show D ≠ w.heap.size; omega)).trans hK)
    have HDF := Aside0.mk hdf
    have HDD := Aside0.mk hD
    clear hK hdf hD
    go_wp2
    obtain ⟨Wf, hWf⟩ : ∃ Wf, Wf = (W.setCell ⟨w.heap.size, 0, none⟩ (.slice A1 nn c1)).setCell ⟨w.heap.size + 1, 0, none⟩ (.bool true) := ⟨_, rfl⟩
    rw [← hWf] at HDF ⊢
    refine ⟨by simp, .inl ⟨_, _, rfl, run_takeDeferred HDF.out, ?_⟩⟩
    have hDne : w.heap.size + 4 ≤ D := by have h4 := HB.out.2.2.2.2.1; have := HDD.out; omega
    have b2 : (Wf.putObj D (.deferred none)).heap[w.heap.size]? = some (.cells #[.slice A1 nn c1] 25 (0, 0)) := by
      rw [World.putObj_heap_other (by omega), hWf]
      refine blk_far ?_ (by show w.heap.size ≠ w.heap.size + 1; omega) _
      simpa using blk_set F2.out 0 (.slice A1 nn c1)
    have b3 : (Wf.putObj D (.deferred none)).heap[w.heap.size + 1]? = some (.cells #[.bool true] 4 (0, 0)) := by
      rw [World.putObj_heap_other (by omega), hWf]
      have := blk_set (w := W.setCell ⟨w.heap.size, 0, none⟩ (.slice A1 nn c1)) (blk_far F3.out (by show w.heap.size + 1 ≠ w.heap.size; omega) _) 0 (.bool true)
      simpa using this
    refine ⟨_, results_25_4 (fn := Try.f12) rfl _ _ w.heap.size (w.heap.size + 1) nn c1 A1 true rfl rfl ((blk_cell b2 0).trans rfl) ((blk_cell b3 0).trans rfl), A1, nn, c1, rfl, FN.out, ?_, ?_, ?_⟩
    · rw [FN.out]
      rw [FN.out] at F1
      exact (Kd.S_reads' F1.out).2.1
    · refine Kd.S_mono (Kd.S_step F1.out (fun j hj _ => ?_)) (fun _ _ => trivial)
      have h6 := F6.out j hj
      rw [hWf]
      have hne : j ≠ D := fun e => by
        obtain ⟨cs, q, hc⟩ := h6.2.2
        have h7 := HDF.out
        rw [hWf, ← e] at h7
        rw [Below.heap_setCell _ ⟨w.heap.size + 1, 0, none⟩ _ j (by show j ≠ w.heap.size + 1; omega), Below.heap_setCell _ ⟨w.heap.size, 0, none⟩ _ j (by show j ≠ w.heap.size; omega), hc] at h7
        cases h7
      exact (World.putObj_heap_other (by omega)).trans ((Below.heap_setCell _ ⟨w.heap.size + 1, 0, none⟩ _ j (by show j ≠ w.heap.size + 1; omega)).trans (Below.heap_setCell _ ⟨w.heap.size, 0, none⟩ _ j (by show j ≠ w.heap.size; omega)))
    · rw [hWf]
      have := below_set (g := w.heap.size + 1) (j := 0) (v := .bool true) (below_set (g := w.heap.size) (j := 0) (v := .slice A1 nn c1) F7.out (Nat.le_refl _)) (by omega)
      exact this.grown (grownBy_putObj' _ D _) this.size (fun r e => by cases e; omega)
  case stop => exact fun D c W _ h _ => h.elim
end Go.Proofs.Ytcbejpmmlcdhnaa.PW
namespace Go.Proofs.Ytcbejpmmlcdhnaa.PW
open Go.RowKit Go.Proofs.YtcbejpmmlcdhnaaW.PrintWords Go.Proofs.YtcbejpmmlcdhnaaW.PrintLast Go.Proofs.YtcbejpmmlcdhnaaW.PrintMore
set_option linter.unusedVariables false
set_option linter.unusedSimpArgs false

/-- The next entry, and the ring with it, held. -/
def nxt (s : RS) : S33 := ⟨(s.la : Int) + 1, s.lv, 0, 9, 0, []⟩
def stepS (s : RS) : RS := (s.app (nxt s)).hold ((s.la : Int) + 1)
def Good (room m : Nat) (s : RS) : Prop := s.room = room ∧ s.ho = s.la ∧ s.la = m ∧ s.l.length = min m room ∧ isB s.lv = true
theorem RS.lv_snoc (s : RS) (l : List S33) (x : S33) (h : s.l = l ++ [x]) : s.lv = x.f1 := by
  unfold RS.lv
  rw [h, List.getLast?_append]
  simp
theorem Good_step {room m : Nat} {s : RS} (h1 : 1 ≤ room) (hm : m ≤ 100000) (h : Good room m s) : Good room (m + 1) (stepS s) := by
  obtain ⟨g1, g2, g3, g4, g5⟩ := h
  have hac : s.acode (nxt s) = 0 := by
    unfold RS.acode
    have hb : isB (nxt s).f1 = true := g5
    rw [hb, if_neg (by simp; omega), if_neg (by simp [nxt]), if_neg (by show ¬ s.lv < s.lv; omega), if_neg]
    rintro ⟨h2, h3⟩
    have : s.la = s.fl + s.l.length := rfl
    omega
  have happ : s.app (nxt s) = s.push (nxt s) := by unfold RS.app; rw [if_pos hac]
  have hla : s.la = s.fl + s.l.length := rfl
  have key : (s.push (nxt s)).room = room ∧ (s.push (nxt s)).ho = s.la ∧ (s.push (nxt s)).la = m + 1 ∧ (s.push (nxt s)).l.length = min (m + 1) room ∧ (s.push (nxt s)).lv = s.lv := by
    unfold RS.push
    by_cases hf : s.l.length = s.room
    · rw [if_pos hf]
      refine ⟨g1, g2, ?_, ?_, (RS.lv_snoc _ _ (nxt s) rfl).trans rfl⟩
      · show s.fl + 1 + (s.l.drop 1 ++ [nxt s]).length = m + 1
        rw [List.length_append, List.length_drop, List.length_singleton]
        omega
      · show (s.l.drop 1 ++ [nxt s]).length = _
        rw [List.length_append, List.length_drop, List.length_singleton]
        omega
    · rw [if_neg hf]
      refine ⟨g1, g2, ?_, ?_, (RS.lv_snoc _ _ (nxt s) rfl).trans rfl⟩
      · show s.fl + (s.l ++ [nxt s]).length = m + 1
        rw [List.length_append, List.length_singleton]
        omega
      · show (s.l ++ [nxt s]).length = _
        rw [List.length_append, List.length_singleton]
        omega
  obtain ⟨k1, k2, k3, k4, k5⟩ := key
  have hc : (s.push (nxt s)).code ((s.la : Int) + 1) = 0 := by
    unfold RS.code
    rw [btw_zero, k2, k3]
    omega
  unfold stepS
  rw [happ]
  unfold RS.hold
  rw [if_pos hc]
  refine ⟨k1, ?_, k3, k4, by show isB (s.push (nxt s)).lv = true; rw [k5]; exact g5⟩
  show ((s.la : Int) + 1).toNat = (s.push (nxt s)).la
  rw [k3]
  omega
theorem Good_fill (room n : Nat) (h1 : 1 ≤ room) (hn : n ≤ 200) : Good room n (fillS room n) := by
  refine ⟨rfl, ?_, fillS_la _ _, fillS_len _ _, ?_⟩
  · rw [fillS_la]; rfl
  · rw [fillS_lv _ _ h1]
    exact decide_eq_true (by omega)
/-- A block of the kinds that a ring, a list of entries, a list of ops lie in. -/
def Rowy (W : World) (j : Nat) : Prop := ∃ cs q, W.heap[j]? = some (.cells cs q (0, 0)) ∧ (q = 66 ∨ q = 55 ∨ q = 33)
theorem Rowy.celly {W : World} {j : Nat} (h : Rowy W j) : Celly W j := by obtain ⟨cs, q, h, _⟩ := h; exact ⟨cs, q, h⟩
theorem Rowy.ne {W : World} {j g t : Nat} {cs : Array Value} (h : Rowy W j) (hg : W.heap[g]? = some (.cells cs t (0, 0))) (ht : t ≠ 66 ∧ t ≠ 55 ∧ t ≠ 33) : j ≠ g := by
  obtain ⟨cs', q, h, hq⟩ := h
  rintro rfl
  rw [h] at hg
  injection hg with hg
  injection hg with _ hg
  rcases hq with h | h | h <;> simp_all
theorem Rowy.same {W W' : World} {j : Nat} (h : Rowy W j) (he : W'.heap[j]? = W.heap[j]?) : Rowy W' j := by obtain ⟨cs, q, h, hq⟩ := h; exact ⟨cs, q, he.trans h, hq⟩
theorem R55_rowy {w : World} {base : Nat} {ok : Nat → Prop} {v : Value} {l : List S55} (h : Kd.R k55 55 w base ok v l) : Kd.R k55 55 w base (fun k => ok k ∧ Rowy w k) v l :=
  Kd.R_mono (Kd.R_bound h) (fun k hk => ⟨hk.1, by
    obtain ⟨q, hq, cs, hc⟩ := hk.2.2.2
    refine ⟨cs, q, hc, .inr (.inl ?_)⟩
    simpa [k55, Kd.iso, Kd.pair, Kd.int, Kd.scalar, Kd.string] using hq⟩)
theorem S33_rowy {w : World} {base : Nat} {ok : Nat → Prop} {v : Value} {l : List S33} (h : Kd.S k33 33 w base ok v l) : Kd.S k33 33 w base (fun k => ok k ∧ Rowy w k) v l :=
  Kd.S_mono (Kd.S_bound h) (fun k hk => ⟨hk.1, by
    obtain ⟨q, hq, cs, hc⟩ := hk.2.2.2
    refine ⟨cs, q, hc, ?_⟩
    have : q = 33 ∨ q = 55 := by simpa [k33, k55, Kd.iso, Kd.pair, Kd.int, Kd.scalar, Kd.string, Kd.slice] using hq
    rcases this with h | h
    · exact .inr (.inr h)
    · exact .inr (.inl h)⟩)
theorem Ring_rowy {W : World} {base b : Nat} {ok : Nat → Prop} {s : RS} (h : RingIs W base ok (some b) s) : RingIs W base (fun k => ok k ∧ Rowy W k) (some b) s := by
  obtain ⟨h0, E, ⟨h1, h2, C, h3, h4, h5, h6, h7, h8, h9, h10⟩, hE⟩ := h
  refine ⟨h0, E, ⟨h1, ⟨h2, C, 66, h3, .inl rfl⟩, C, h3, h4, h5, h6, h7, h8, h9, fun k hk' => ?_⟩, hE⟩
  obtain ⟨e1, e2, e3, e4, e5, v, e6, e7⟩ := h10 k hk'
  exact ⟨e1, e2, e3, e4, e5, v, e6, Kd.R_mono (R55_rowy e7) (fun j hj => ⟨⟨hj.1.1, hj.2⟩, hj.1.2⟩)⟩
theorem Ring_old {W : World} {base b : Nat} {ok : Nat → Prop} {s : RS} (h : RingIs W base ok (some b) s) : RingIs W base (fun k => ok k ∧ k < W.heap.size) (some b) s := by
  obtain ⟨h0, E, h1, hE⟩ := h
  exact ⟨h0, E, RingAt_old h1, hE⟩
theorem Ring_lower {W : World} {base base' b : Nat} {ok : Nat → Prop} {s : RS} (h : RingIs W base ok (some b) s) (hb : base' ≤ base) : RingIs W base' ok (some b) s := by
  obtain ⟨h0, E, ⟨h1, h2, C, h3, h4, h5, h6, h7, h8, h9, h10⟩, hE⟩ := h
  refine ⟨h0, E, ⟨Nat.le_trans hb h1, h2, C, h3, h4, h5, h6, h7, h8, h9, fun k hk' => ?_⟩, hE⟩
  obtain ⟨e1, e2, e3, e4, e5, v, e6, e7⟩ := h10 k hk'
  exact ⟨e1, e2, e3, e4, e5, v, e6, Kd.R_lower e7 hb⟩
/-- The law's own boxes. -/
def Named (p : Nat) (kk : Int) (B8 B9 B11 B12 Bn b : Nat) (v9 : Value) (i : Nat) (W : World) : Prop :=
  W.heap[p]? = some (.cells #[.int .i64 kk] 3 (0, 0)) ∧ W.heap[p + 1]? = some (.cells #[.bool false] 4 (0, 0)) ∧ W.heap[B8]? = some (.cells #[.pointer (some ⟨b, 0, none⟩)] 23 (0, 0)) ∧ W.heap[B9]? = some (.cells #[v9] 25 (0, 0)) ∧
    W.heap[B11]? = some (.cells #[.func (.func 33) #[] #[.pointer (some ⟨Bn, 0, none⟩)]] 29 (0, 0)) ∧ W.heap[B12]? = some (.cells #[.int .i64 (i : Int)] 3 (0, 0)) ∧ W.heap[Bn]? = some (.cells #[ptr (some b)] 23 (0, 0))
theorem Named_step {p B8 B9 B11 B12 Bn b i : Nat} {kk : Int} {v9 : Value} {W W' : World} (h : Named p kk B8 B9 B11 B12 Bn b v9 i W) (hm : ∀ j, Celly W j → (¬ Rowy W j) → W'.heap[j]? = W.heap[j]?) : Named p kk B8 B9 B11 B12 Bn b v9 i W' := by
  have key : ∀ {j : Nat} {cs : Array Value} {q : TypeId}, W.heap[j]? = some (.cells cs q (0, 0)) → (q ≠ 66 ∧ q ≠ 55 ∧ q ≠ 33) → W'.heap[j]? = some (.cells cs q (0, 0)) := fun {j cs q} hj hq => (hm j ⟨cs, q, hj⟩ (fun hr => hr.ne hj hq rfl)).trans hj
  obtain ⟨h1, h2, h3, h4, h5, h6, h7⟩ := h
  exact ⟨key h1 (by decide), key h2 (by decide), key h3 (by decide), key h4 (by decide), key h5 (by decide), key h6 (by decide), key h7 (by decide)⟩
/-- While the entries L are gone through: i of them have come. -/
def MayI (w0 : World) (n room b : Nat) (kk : Int) (B8 B9 B11 B12 Bn : Nat) (A9 : Option Addr) (n9 c9 : Nat) (L : List S33) (T : Nat → Prop) (i : Nat) (W : World) : Prop :=
  ∃ (s : RS) (okr okw : Nat → Prop), Good room (n + i) s ∧ RingIs W w0.heap.size okr (some b) s ∧ Kd.S k33 33 W w0.heap.size okw (.slice A9 n9 c9) L ∧ Named w0.heap.size kk B8 B9 B11 B12 Bn b (.slice A9 n9 c9) i W ∧
    (∀ j, okr j → ¬ T j ∧ ¬ okw j ∧ Rowy W j) ∧ (∀ j, okw j → ¬ T j ∧ Rowy W j) ∧ Below w0.heap.size w0 W ∧ (i = 0 → s.l = L)
theorem MayI_own {w0 : World} {n room b : Nat} {kk : Int} {B8 B9 B11 B12 Bn : Nat} {A9 : Option Addr} {n9 c9 : Nat} {L : List S33} {B : Nat} (hB : w0.heap.size ≤ B) : TOwn B (MayI w0 n room b kk B8 B9 B11 B12 Bn A9 n9 c9 L) := by
  rintro T i W W' row T' ⟨s, okr, okw, h1, h2, h3, h4, h5, h6, h7, h8⟩ hg hr hT
  have hnew : ∀ j, Celly W j → T' j → T j := fun j hj ht => (hT j ht).resolve_right (fun h => by have := hj.lt; omega)
  exact ⟨s, okr, okw, h1, RingIs_step h2 (fun j hj _ => celly_grown (h5 j hj).2.2.celly hg hr), Kd.S_step h3 (fun j hj _ => celly_grown (h6 j hj).2.celly hg hr), Named_step h4 (fun j hj _ => celly_grown hj hg hr),
    fun j hj => ⟨fun hx => (h5 j hj).1 (hnew j (h5 j hj).2.2.celly hx), (h5 j hj).2.1, (h5 j hj).2.2.same (celly_grown (h5 j hj).2.2.celly hg hr)⟩,
    fun j hj => ⟨fun hx => (h6 j hj).1 (hnew j (h6 j hj).2.celly hx), (h6 j hj).2.same (celly_grown (h6 j hj).2.celly hg hr)⟩, h7.grown hg h7.size (fun r e => by have := (hr r e).1; omega), h8⟩
end Go.Proofs.Ytcbejpmmlcdhnaa.PW
namespace Go.Proofs.Ytcbejpmmlcdhnaa.PW
open Go.RowKit Go.Proofs.YtcbejpmmlcdhnaaW.PrintWords Go.Proofs.YtcbejpmmlcdhnaaW.PrintLast Go.Proofs.YtcbejpmmlcdhnaaW.PrintMore
set_option linter.unusedVariables false
set_option linter.unusedSimpArgs false

/-- An act of a script. -/
structure S47 where
  k : Int
  n : Int
  m : Int
  e : S33
def actV (a : S47) (v : Value) : Value := .agg #[.int .i64 a.k, .int .i64 a.n, .int .i64 a.m, .int .i64 a.e.f0, .int .i64 a.e.f1, .int .i64 a.e.f2, .int .i64 a.e.f3, .int .i64 a.e.f4, v]
/-- The entry of an Append near. -/
def setE (e : S33) (x y : Int) : S33 := { e with f0 := x, f1 := y }
theorem setE_f5 (e : S33) (x y : Int) : (setE e x y).f5 = e.f5 := rfl
def nearE (la : Nat) (lv : Int) (a : S47) : S33 := setE a.e (wrap64 (wrap64 ((la : Int) + 1) + a.n)) (wrap64 (lv + a.m))
theorem nearE_f5 (la : Nat) (lv : Int) (a : S47) : (nearE la lv a).f5 = a.e.f5 := by unfold nearE; exact setE_f5 _ _ _
theorem blk3 (w : World) (o0 o1 o2 : Obj) {W : World} (hW : W = ((w.alloc o0).alloc o1).alloc o2) : W.heap[w.heap.size]? = some o0 ∧ W.heap[w.heap.size + 1]? = some o1 ∧ W.heap[w.heap.size + 1 + 1]? = some o2 ∧ W.heap.size = w.heap.size + 3 ∧ Below w.heap.size w W := by
  subst hW
  have s1 := szA w o0
  have s2 := szA (w.alloc o0) o1
  have s3 := szA ((w.alloc o0).alloc o1) o2
  have n0 := heap_alloc_new w o0
  have n1 := heap_alloc_new (w.alloc o0) o1
  have n2 := heap_alloc_new ((w.alloc o0).alloc o1) o2
  have b2 : Below (w.alloc o0).heap.size (w.alloc o0) ((w.alloc o0).alloc o1) := below_alloc (Below.refl _ _) _
  have b3 : Below ((w.alloc o0).alloc o1).heap.size ((w.alloc o0).alloc o1) (((w.alloc o0).alloc o1).alloc o2) := below_alloc (Below.refl _ _) _
  rw [s1] at n1
  rw [s2, s1] at n2
  refine ⟨?_, ?_, ?_, by omega, below_alloc (below_alloc (below_alloc (Below.refl _ _) _) _) _⟩
  · exact (b3.block _ (by omega)).trans ((b2.block _ (by omega)).trans n0)
  · exact (b3.block _ (by omega)).trans n1
  · exact n2
set_option maxHeartbeats 4000000 in
set_option maxRecDepth 100000 in
theorem near_C (la : Nat) (lv : Int) (a : S47) (A : Option Addr) (n c : Nat) (W : World) :
    Calls Try.prog 40 #[.int .i64 (la : Int), .int .i64 lv, actV a (.slice A n c)] W fun e w' => e = .returned (entV (nearE la lv a) (.slice A n c)) ∧ Below W.heap.size W w' := by
  unfold actV entV
  go_enter Try.func40, Try.ntmps40
  go_wp2_with (with_reducible refine stop_store rfl ?_)
  obtain ⟨b0, b1, b2, bs, hB0⟩ := blk3 W (.cells #[.int .i64 a.k, .int .i64 a.n, .int .i64 a.m, .int .i64 a.e.f0, .int .i64 a.e.f1, .int .i64 a.e.f2, .int .i64 a.e.f3, .int .i64 a.e.f4, .slice A n c] 47) (.cells zeroCells 33) (.cells zeroCells 33) rfl
  refine wpList_store rfl rfl 33 (.tmp 7) (.tmp 9) rfl (entV a.e (.slice A n c)) [.int .i64 a.e.f0, .int .i64 a.e.f1, .int .i64 a.e.f2, .int .i64 a.e.f3, .int .i64 a.e.f4, .slice A n c] rfl rfl b2 rfl size33 (by show 0 + 6 ≤ 6; omega) (by simp [Value.oneCell']) ?_
  obtain ⟨w3, hw3⟩ : ∃ w3, w3 = (((W.alloc (.cells #[.int .i64 a.k, .int .i64 a.n, .int .i64 a.m, .int .i64 a.e.f0, .int .i64 a.e.f1, .int .i64 a.e.f2, .int .i64 a.e.f3, .int .i64 a.e.f4, .slice A n c] 47)).alloc (.cells zeroCells 33)).alloc (.cells zeroCells 33)).setCells (W.heap.size + 1 + 1) 0 [.int .i64 a.e.f0, .int .i64 a.e.f1, .int .i64 a.e.f2, .int .i64 a.e.f3, .int .i64 a.e.f4, .slice A n c] := ⟨_, rfl⟩
  have g2 : w3.heap[W.heap.size + 1 + 1]? = some (.cells #[.int .i64 a.e.f0, .int .i64 a.e.f1, .int .i64 a.e.f2, .int .i64 a.e.f3, .int .i64 a.e.f4, .slice A n c] 33 (0, 0)) := by rw [hw3]; exact blk_full [.int .i64 a.e.f0, .int .i64 a.e.f1, .int .i64 a.e.f2, .int .i64 a.e.f3, .int .i64 a.e.f4, .slice A n c] b2 rfl
  have g0 : w3.heap[W.heap.size]? = some (.cells #[.int .i64 a.k, .int .i64 a.n, .int .i64 a.m, .int .i64 a.e.f0, .int .i64 a.e.f1, .int .i64 a.e.f2, .int .i64 a.e.f3, .int .i64 a.e.f4, .slice A n c] 47 (0, 0)) := by rw [hw3]; exact (setCells_far _ _ _ (by omega)).trans b0
  have g1 : w3.heap[W.heap.size + 1]? = some (.cells zeroCells 33 (0, 0)) := by rw [hw3]; exact (setCells_far _ _ _ (by omega)).trans b1
  have hf : Frm W w3 (fun _ => False) := by rw [hw3]; exact (Frm.of_below hB0 _).setCells (.inr (by omega)) _ _
  rw [← hw3]
  have m1 : w3.cell? ⟨W.heap.size, 1, none⟩ = some (.int .i64 a.n) := (blk_cell g0 1).trans rfl
  have m2 : w3.cell? ⟨W.heap.size, 2, none⟩ = some (.int .i64 a.m) := (blk_cell g0 2).trans rfl
  have e0 : w3.cell? ⟨W.heap.size + 1 + 1, 0, none⟩ = some (.int .i64 a.e.f0) := (blk_cell g2 0).trans rfl
  have e1 : w3.cell? ⟨W.heap.size + 1 + 1, 1, none⟩ = some (.int .i64 a.e.f1) := (blk_cell g2 1).trans rfl
  have e2 : w3.cell? ⟨W.heap.size + 1 + 1, 2, none⟩ = some (.int .i64 a.e.f2) := (blk_cell g2 2).trans rfl
  have e3 : w3.cell? ⟨W.heap.size + 1 + 1, 3, none⟩ = some (.int .i64 a.e.f3) := (blk_cell g2 3).trans rfl
  have e4 : w3.cell? ⟨W.heap.size + 1 + 1, 4, none⟩ = some (.int .i64 a.e.f4) := (blk_cell g2 4).trans rfl
  have e5 : w3.cell? ⟨W.heap.size + 1 + 1, 5, none⟩ = some (.slice A n c) := (blk_cell g2 5).trans rfl
  have z0 : w3.frozen? ⟨W.heap.size + 1 + 1, 0, none⟩ = false := blk_frozen g2 0
  have z1 : w3.frozen? ⟨W.heap.size + 1 + 1, 1, none⟩ = false := blk_frozen g2 1
  have G1 := Aside0.mk g1
  have HF := Aside0.mk hf
  clear hw3 g0 g1 g2 b0 b1 b2 bs hB0 hf
  go_wp2_with (with_reducible refine stop_store (t := 33) rfl ?_)
  obtain ⟨x0, hx0⟩ : ∃ x0, Aside0 (wrap64 (wrap64 ((la : Int) + 1) + a.n) = x0) := ⟨_, .mk rfl⟩
  obtain ⟨x1, hx1⟩ : ∃ x1, Aside0 (wrap64 (lv + a.m) = x1) := ⟨_, .mk rfl⟩
  rw [hx0.out, hx1.out]
  have g1' : ((w3.setCell ⟨W.heap.size + 1 + 1, 0, none⟩ (.int .i64 x0)).setCell ⟨W.heap.size + 1 + 1, 1, none⟩ (.int .i64 x1)).heap[W.heap.size + 1]? = some (.cells zeroCells 33 (0, 0)) :=
    (Below.heap_setCell _ _ _ _ (show W.heap.size + 1 ≠ W.heap.size + 1 + 1 by omega)).trans ((Below.heap_setCell _ _ _ _ (show W.heap.size + 1 ≠ W.heap.size + 1 + 1 by omega)).trans G1.out)
  have HF2 := Aside0.mk (((HF.out.set_ (p := ⟨W.heap.size + 1 + 1, 0, none⟩) (.inr (by show W.heap.size ≤ W.heap.size + 1 + 1; omega)) (.int .i64 x0)).set_ (p := ⟨W.heap.size + 1 + 1, 1, none⟩) (.inr (by show W.heap.size ≤ W.heap.size + 1 + 1; omega)) (.int .i64 x1)).setCells (g := W.heap.size + 1) (.inr (by omega)) 0 [.int .i64 x0, .int .i64 x1, .int .i64 a.e.f2, .int .i64 a.e.f3, .int .i64 a.e.f4, .slice A n c])
  refine wpList_store rfl rfl 33 (.tmp 6) (.tmp 21) rfl (entV (setE a.e x0 x1) (.slice A n c)) [.int .i64 x0, .int .i64 x1, .int .i64 a.e.f2, .int .i64 a.e.f3, .int .i64 a.e.f4, .slice A n c] rfl rfl g1' rfl size33 (by show 0 + 6 ≤ 6; omega) (by simp [Value.oneCell']) ?_
  have g3 := Aside0.mk (blk_full [.int .i64 x0, .int .i64 x1, .int .i64 a.e.f2, .int .i64 a.e.f3, .int .i64 a.e.f4, .slice A n c] g1' rfl)
  clear m1 m2 e0 e1 e2 e3 e4 e5 z0 z1 g1'
  go_wp2
  refine bodyPost_ret (results_cell_row rfl _ _ (W.heap.size + 1) 33 _ (0, 0) _ rfl g3.out Try.underlying33 rfl (by kernel_rfl)) rfl ?_
  exact ⟨by rw [show nearE la lv a = setE a.e x0 x1 by unfold nearE; rw [hx0.out, hx1.out]]; rfl, HF2.out.below (fun k hk _ => hk.elim) (Nat.le_refl _)⟩
end Go.Proofs.Ytcbejpmmlcdhnaa.PW
namespace Go.Proofs.Ytcbejpmmlcdhnaa.PW
open Go.RowKit Go.Proofs.YtcbejpmmlcdhnaaW.PrintWords Go.Proofs.YtcbejpmmlcdhnaaW.PrintLast Go.Proofs.YtcbejpmmlcdhnaaW.PrintMore
set_option linter.unusedVariables false
set_option linter.unusedSimpArgs false

/-- What the hold is said to be behind a Hold. -/
def RS.keep (s : RS) (x held : Int) : Int := if s.code x = 0 then x else held
theorem Live.step {W W1 : World} {p : Option Nat} {A : Option Addr} {n : Nat} {l : List S55} (h : Live W p A n l) (hf : Frm W W1 (own1 p)) : Live W1 p A n l := fun W' hw => h W' (hf.then_ hw (fun _ hk _ => hk))
theorem Live.of_R {W w1 : World} {base : Nat} {ok : Nat → Prop} {p : Option Nat} {s : RS} {A : Option Addr} {n c : Nat} {l : List S55} (h : RingIs W base ok p s) (hn : l.length = n) (hv : Kd.R k55 55 w1 W.heap.size (fun _ => True) (.slice A n c) l) : Live w1 p A n l := by
  intro W' hf
  have hv1 := R_frm (ok := fun k => W.heap.size ≤ k) (Kd.R_mono (Kd.R_bound hv) (fun k hk => hk.2.1)) hf (fun k hk hS => by
    cases p with
    | none => cases hS
    | some b =>
      obtain rfl : b = k := Option.some.inj hS
      obtain ⟨_, E, hR, _⟩ := h
      exact absurd (World.block_lt_of_cell? W ⟨b, 384, none⟩ (RingAt_cells hR).1) (by show ¬ b < _; omega))
  obtain ⟨A', c', e, _, hC⟩ := Kd.R_reads hv1
  injection e with e1 e2 e3
  rw [e1, ← hn]
  exact hC
section
variable {W : World} {base : Nat} {ok : Nat → Prop} {p : Option Nat} {s : RS}
set_option maxHeartbeats 4000000 in
set_option maxRecDepth 100000 in
theorem did_none (h : RingIs W base ok p s) (a : S47) (v : Value) (hfresh : ∀ k, W.heap.size ≤ k → ok k) (held : Int) (k1 : (a.k == 1) = false) (k2 : (a.k == 2) = false) (k3 : (a.k == 3) = false) (k4 : (a.k == 4) = false) (k5 : (a.k == 5) = false) (k6 : (a.k == 6) = false) :
    Calls Try.prog 19 #[ptr p, actV a v, .int .i64 held] W fun e w' => e = .returned (.tuple #[.bool false, .int .i64 held]) ∧ RingIs w' base ok p s ∧ Frm W w' (own1 p) := by
  have H := Aside0.mk h
  have HF := Aside0.mk hfresh
  clear h hfresh
  unfold actV
  go_enter Try.func19, Try.ntmps19
  go_wp2_with fail
  refine (last_R (RingIs_below H.out (below_alloc (Below.refl _ _) _))).mono ?_
  rintro e w1 ⟨rfl, ⟨⟨n1, rfl⟩⟩⟩
  go_wp2
  go_ret2
  exact ⟨rfl, RingIs_below H.out (pw_below_drewN (below_alloc (Below.refl _ _) _) _), (Frm.refl W _).alloc _ |>.drewN _⟩
set_option maxHeartbeats 4000000 in
set_option maxRecDepth 100000 in
theorem did_cut (h : RingIs W base ok p s) (a : S47) (v : Value) (hfresh : ∀ k, W.heap.size ≤ k → ok k) (held : Int) (k1 : (a.k == 1) = false) (k2 : (a.k == 2) = false) (k3 : (a.k == 3) = false) (k4 : (a.k == 4) = false) (k5 : (a.k == 5) = false) (k6 : (a.k == 6) = true) :
    Calls Try.prog 19 #[ptr p, actV a v, .int .i64 held] W fun e w' => e = .returned (.tuple #[.bool (s.code a.n == 0), .int .i64 held]) ∧ RingIs w' base ok p (s.cut a.n) ∧ Frm W w' (own1 p) := by
  have H := Aside0.mk h
  have HF := Aside0.mk hfresh
  clear h hfresh
  unfold actV
  go_enter Try.func19, Try.ntmps19
  go_wp2_with fail
  refine (last_R (RingIs_below H.out (below_alloc (Below.refl _ _) _))).mono ?_
  rintro e w1 ⟨rfl, ⟨⟨n1, rfl⟩⟩⟩
  have HB := Aside0.mk (RingIs_below H.out (pw_below_drewN (below_alloc (Below.refl W.heap.size W) (.cells #[.int .i64 a.k, .int .i64 a.n, .int .i64 a.m, .int .i64 a.e.f0, .int .i64 a.e.f1, .int .i64 a.e.f2, .int .i64 a.e.f3, .int .i64 a.e.f4, v] 47)) n1))
  go_wp2_with fail
  refine (cut_R a.n HB.out).mono ?_
  rintro e w2 ⟨rfl, hr, hf⟩
  have HR := Aside0.mk hr
  have HF2 := Aside0.mk (Frm.then_ ((((Frm.refl W (own1 p)).alloc _).drewN n1)) hf (fun _ hk _ => hk))
  clear hr hf
  go_wp2
  go_ret2
  exact ⟨rfl, HR.out, HF2.out⟩
set_option maxHeartbeats 4000000 in
set_option maxRecDepth 100000 in
theorem did_cutn (h : RingIs W base ok p s) (a : S47) (v : Value) (hfresh : ∀ k, W.heap.size ≤ k → ok k) (held : Int) (k1 : (a.k == 1) = false) (k2 : (a.k == 2) = false) (k3 : (a.k == 3) = false) (k4 : (a.k == 4) = false) (k5 : (a.k == 5) = true) :
    Calls Try.prog 19 #[ptr p, actV a v, .int .i64 held] W fun e w' => e = .returned (.tuple #[.bool (s.code (wrap64 ((s.la : Int) - a.n)) == 0), .int .i64 held]) ∧ RingIs w' base ok p (s.cut (wrap64 ((s.la : Int) - a.n))) ∧ Frm W w' (own1 p) := by
  obtain ⟨x0, hx0⟩ : ∃ x0, x0 = wrap64 ((s.la : Int) - a.n) := ⟨_, rfl⟩
  rw [← hx0]
  have HX := Aside0.mk hx0.symm
  clear hx0
  have H := Aside0.mk h
  have HF := Aside0.mk hfresh
  clear h hfresh
  unfold actV
  go_enter Try.func19, Try.ntmps19
  go_wp2_with fail
  refine (last_R (RingIs_below H.out (below_alloc (Below.refl _ _) _))).mono ?_
  rintro e w1 ⟨rfl, ⟨⟨n1, rfl⟩⟩⟩
  have HB := Aside0.mk (RingIs_below H.out (pw_below_drewN (below_alloc (Below.refl W.heap.size W) (.cells #[.int .i64 a.k, .int .i64 a.n, .int .i64 a.m, .int .i64 a.e.f0, .int .i64 a.e.f1, .int .i64 a.e.f2, .int .i64 a.e.f3, .int .i64 a.e.f4, v] 47)) n1))
  go_wp2_with fail
  rw [HX.out]
  refine (cut_R x0 HB.out).mono ?_
  rintro e w2 ⟨rfl, hr, hf⟩
  have HR := Aside0.mk hr
  have HF2 := Aside0.mk (Frm.then_ ((((Frm.refl W (own1 p)).alloc _).drewN n1)) hf (fun _ hk _ => hk))
  clear hr hf
  go_wp2
  go_ret2
  exact ⟨rfl, HR.out, HF2.out⟩
set_option maxHeartbeats 4000000 in
set_option maxRecDepth 100000 in
theorem did_hold (h : RingIs W base ok p s) (a : S47) (v : Value) (hfresh : ∀ k, W.heap.size ≤ k → ok k) (held : Int) (k1 : (a.k == 1) = false) (k2 : (a.k == 2) = false) (k3 : (a.k == 3) = false) (k4 : (a.k == 4) = true) :
    Calls Try.prog 19 #[ptr p, actV a v, .int .i64 held] W fun e w' => e = .returned (.tuple #[.bool (s.code a.n == 0), .int .i64 (s.keep a.n held)]) ∧ RingIs w' base ok p (s.hold a.n) ∧ Frm W w' (own1 p) := by
  have H := Aside0.mk h
  have HF := Aside0.mk hfresh
  clear h hfresh
  unfold actV
  go_enter Try.func19, Try.ntmps19
  go_wp2_with fail
  refine (last_R (RingIs_below H.out (below_alloc (Below.refl _ _) _))).mono ?_
  rintro e w1 ⟨rfl, ⟨⟨n1, rfl⟩⟩⟩
  have HB := Aside0.mk (RingIs_below H.out (pw_below_drewN (below_alloc (Below.refl W.heap.size W) (.cells #[.int .i64 a.k, .int .i64 a.n, .int .i64 a.m, .int .i64 a.e.f0, .int .i64 a.e.f1, .int .i64 a.e.f2, .int .i64 a.e.f3, .int .i64 a.e.f4, v] 47)) n1))
  go_wp2_with fail
  refine (hold_R a.n HB.out).mono ?_
  rintro e w2 ⟨rfl, hr, hf⟩
  have HR := Aside0.mk hr
  have HF2 := Aside0.mk (Frm.then_ ((((Frm.refl W (own1 p)).alloc _).drewN n1)) hf (fun _ hk _ => hk))
  clear hr hf
  by_cases hz : s.code a.n = 0
  · have hz2 : (s.code a.n == 0) = true := beq_iff_eq.mpr hz
    have HZ := Aside0.mk hz
    clear hz
    go_wp2
    go_ret2
    rw [show s.keep a.n held = a.n from if_pos HZ.out]
    try rw [show (s.code a.n == 0) = true from beq_iff_eq.mpr HZ.out]
    exact ⟨rfl, HR.out, HF2.out⟩
  · have hz2 : (s.code a.n == 0) = false := beq_eq_false_iff_ne.mpr hz
    have HZ := Aside0.mk hz
    clear hz
    go_wp2
    go_ret2
    rw [show s.keep a.n held = held from if_neg HZ.out]
    try rw [show (s.code a.n == 0) = false from beq_eq_false_iff_ne.mpr HZ.out]
    exact ⟨rfl, HR.out, HF2.out⟩
set_option maxHeartbeats 4000000 in
set_option maxRecDepth 100000 in
theorem did_holdn (h : RingIs W base ok p s) (a : S47) (v : Value) (hfresh : ∀ k, W.heap.size ≤ k → ok k) (held : Int) (k1 : (a.k == 1) = false) (k2 : (a.k == 2) = false) (k3 : (a.k == 3) = true) :
    Calls Try.prog 19 #[ptr p, actV a v, .int .i64 held] W fun e w' => e = .returned (.tuple #[.bool (s.code (wrap64 (held + a.n)) == 0), .int .i64 (s.keep (wrap64 (held + a.n)) held)]) ∧ RingIs w' base ok p (s.hold (wrap64 (held + a.n))) ∧ Frm W w' (own1 p) := by
  obtain ⟨x0, hx0⟩ : ∃ x0, x0 = wrap64 (held + a.n) := ⟨_, rfl⟩
  rw [← hx0]
  have HX := Aside0.mk hx0.symm
  clear hx0
  have H := Aside0.mk h
  have HF := Aside0.mk hfresh
  clear h hfresh
  unfold actV
  go_enter Try.func19, Try.ntmps19
  go_wp2_with fail
  refine (last_R (RingIs_below H.out (below_alloc (Below.refl _ _) _))).mono ?_
  rintro e w1 ⟨rfl, ⟨⟨n1, rfl⟩⟩⟩
  have HB := Aside0.mk (RingIs_below H.out (pw_below_drewN (below_alloc (Below.refl W.heap.size W) (.cells #[.int .i64 a.k, .int .i64 a.n, .int .i64 a.m, .int .i64 a.e.f0, .int .i64 a.e.f1, .int .i64 a.e.f2, .int .i64 a.e.f3, .int .i64 a.e.f4, v] 47)) n1))
  go_wp2_with fail
  rw [HX.out]
  refine (hold_R x0 HB.out).mono ?_
  rintro e w2 ⟨rfl, hr, hf⟩
  have HR := Aside0.mk hr
  have HF2 := Aside0.mk (Frm.then_ ((((Frm.refl W (own1 p)).alloc _).drewN n1)) hf (fun _ hk _ => hk))
  clear hr hf
  by_cases hz : s.code x0 = 0
  · have hz2 : (s.code x0 == 0) = true := beq_iff_eq.mpr hz
    have HZ := Aside0.mk hz
    clear hz
    go_wp2
    go_ret2
    rw [show s.keep x0 held = x0 from if_pos HZ.out]
    try rw [show (s.code x0 == 0) = true from beq_iff_eq.mpr HZ.out]
    exact ⟨rfl, HR.out, HF2.out⟩
  · have hz2 : (s.code x0 == 0) = false := beq_eq_false_iff_ne.mpr hz
    have HZ := Aside0.mk hz
    clear hz
    go_wp2
    go_ret2
    rw [show s.keep x0 held = held from if_neg HZ.out]
    try rw [show (s.code x0 == 0) = false from beq_eq_false_iff_ne.mpr HZ.out]
    exact ⟨rfl, HR.out, HF2.out⟩
set_option maxHeartbeats 4000000 in
set_option maxRecDepth 100000 in
theorem did_app (h : RingIs W base ok p s) (a : S47) (A : Option Addr) (n c : Nat) (hn : a.e.f5.length = n) (hC : Live W p A n a.e.f5) (hnc : n ≤ c) (hm : opsOk a.e) (hfresh : ∀ k, W.heap.size ≤ k → ok k) (held : Int) (k1 : (a.k == 1) = false) (k2 : (a.k == 2) = true) :
    Calls Try.prog 19 #[ptr p, actV a (.slice A n c), .int .i64 held] W fun e w' => e = .returned (.tuple #[.bool (s.acode a.e == 0), .int .i64 held]) ∧ RingIs w' base ok p (s.app a.e) ∧ Frm W w' (own1 p) := by
  have HC := Aside0.mk hC
  have HN := Aside0.mk hn
  have HNC := Aside0.mk hnc
  have HM := Aside0.mk hm
  clear hC hn hnc hm
  have H := Aside0.mk h
  have HF := Aside0.mk hfresh
  clear h hfresh
  unfold actV
  go_enter Try.func19, Try.ntmps19
  go_wp2_with fail
  refine (last_R (RingIs_below H.out (below_alloc (Below.refl _ _) _))).mono ?_
  rintro e w1 ⟨rfl, ⟨⟨n1, rfl⟩⟩⟩
  have HB := Aside0.mk (RingIs_below H.out (pw_below_drewN (below_alloc (Below.refl W.heap.size W) (.cells #[.int .i64 a.k, .int .i64 a.n, .int .i64 a.m, .int .i64 a.e.f0, .int .i64 a.e.f1, .int .i64 a.e.f2, .int .i64 a.e.f3, .int .i64 a.e.f4, .slice A n c] 47)) n1))
  have HF1 := Aside0.mk (((Frm.refl W (own1 p)).alloc (.cells #[.int .i64 a.k, .int .i64 a.n, .int .i64 a.m, .int .i64 a.e.f0, .int .i64 a.e.f1, .int .i64 a.e.f2, .int .i64 a.e.f3, .int .i64 a.e.f4, .slice A n c] 47)).drewN n1)
  have HSZ := Aside0.mk HF1.out.size
  go_wp2_with fail
  refine (twin_R a.e A n c _ HN.out HM.out ((HC.out.step HF1.out) _ (Frm.refl _ _)) HNC.out).mono ?_
  rintro e w2 ⟨A2, c2, rfl, hv2, hl2, hb2⟩
  have HR2 := Aside0.mk (RingIs_below HB.out hb2)
  have HV2 := Aside0.mk hv2
  have HB2 := Aside0.mk hb2
  clear hv2 hl2 hb2
  go_wp2_with fail
  refine (append_R HR2.out a.e A2 n c2 HN.out (Live.of_R HB.out HN.out HV2.out) HM.out (fun k hk => HF.out k (Nat.le_trans (Nat.le_trans HSZ.out HB2.out.size) hk))).mono ?_
  rintro e w3 ⟨rfl, hr3, hf3⟩
  have HR3 := Aside0.mk hr3
  have HF3 := Aside0.mk (Frm.then_ (HF1.out.step HB2.out) hf3 (fun _ hk _ => hk))
  clear hr3 hf3
  go_wp2
  go_ret2
  exact ⟨rfl, HR3.out, HF3.out⟩
set_option maxHeartbeats 4000000 in
set_option maxRecDepth 100000 in
theorem did_near (h : RingIs W base ok p s) (a : S47) (A : Option Addr) (n c : Nat) (hn : a.e.f5.length = n) (hC : Live W p A n a.e.f5) (hnc : n ≤ c) (hm : opsOk a.e) (hfresh : ∀ k, W.heap.size ≤ k → ok k) (held : Int) (k1 : (a.k == 1) = true) :
    Calls Try.prog 19 #[ptr p, actV a (.slice A n c), .int .i64 held] W fun e w' => e = .returned (.tuple #[.bool (s.acode (nearE s.la s.lv a) == 0), .int .i64 held]) ∧ RingIs w' base ok p (s.app (nearE s.la s.lv a)) ∧ Frm W w' (own1 p) := by
  have HC := Aside0.mk hC
  have HN := Aside0.mk hn
  have HNC := Aside0.mk hnc
  have HM := Aside0.mk hm
  clear hC hn hnc hm
  have H := Aside0.mk h
  have HF := Aside0.mk hfresh
  clear h hfresh
  unfold actV
  go_enter Try.func19, Try.ntmps19
  go_wp2_with fail
  refine (last_R (RingIs_below H.out (below_alloc (Below.refl _ _) _))).mono ?_
  rintro e w1 ⟨rfl, ⟨⟨n1, rfl⟩⟩⟩
  have HB := Aside0.mk (RingIs_below H.out (pw_below_drewN (below_alloc (Below.refl W.heap.size W) (.cells #[.int .i64 a.k, .int .i64 a.n, .int .i64 a.m, .int .i64 a.e.f0, .int .i64 a.e.f1, .int .i64 a.e.f2, .int .i64 a.e.f3, .int .i64 a.e.f4, .slice A n c] 47)) n1))
  have HF1 := Aside0.mk (((Frm.refl W (own1 p)).alloc (.cells #[.int .i64 a.k, .int .i64 a.n, .int .i64 a.m, .int .i64 a.e.f0, .int .i64 a.e.f1, .int .i64 a.e.f2, .int .i64 a.e.f3, .int .i64 a.e.f4, .slice A n c] 47)).drewN n1)
  have HSZ := Aside0.mk HF1.out.size
  go_wp2_with fail
  refine (near_C s.la s.lv a A n c _).mono ?_
  rintro e w2 ⟨rfl, hb2⟩
  have HR2 := Aside0.mk (RingIs_below HB.out hb2)
  have HB2 := Aside0.mk hb2
  have HF2 := Aside0.mk (HF1.out.step hb2)
  clear hb2
  go_wp2_with (with_reducible refine stop_store (t := 33) rfl ?_)
  obtain ⟨x, hx⟩ : ∃ x, Aside0 (nearE s.la s.lv a = x) := ⟨_, .mk rfl⟩
  have hxn : x.f5.length = n := by rw [← hx.out, nearE_f5]; exact HN.out
  have hxm : opsOk x := by unfold opsOk; rw [← hx.out, nearE_f5]; exact HM.out
  have hxc : Live W p A n x.f5 := by rw [← hx.out, nearE_f5]; exact HC.out
  have HXN := Aside0.mk hxn
  have HXM := Aside0.mk hxm
  have HXC := Aside0.mk hxc
  clear hxn hxm hxc
  rw [hx.out]
  refine wpList_store rfl rfl 33 (.tmp 10) (.tmp 25) rfl (entV x (.slice A n c)) [.int .i64 x.f0, .int .i64 x.f1, .int .i64 x.f2, .int .i64 x.f3, .int .i64 x.f4, .slice A n c] rfl rfl (heap_alloc_new w2 _) rfl size33 (by show 0 + 6 ≤ 6; omega) (by simp [Value.oneCell']) ?_
  rw [alloc_full (w := w2) (cur := zeroCells) (e := 33) [.int .i64 x.f0, .int .i64 x.f1, .int .i64 x.f2, .int .i64 x.f3, .int .i64 x.f4, .slice A n c] rfl]
  have HF3 := Aside0.mk (HF2.out.alloc (.cells #[.int .i64 x.f0, .int .i64 x.f1, .int .i64 x.f2, .int .i64 x.f3, .int .i64 x.f4, .slice A n c] 33))
  have HR3 := Aside0.mk (RingIs_below HR2.out (below_alloc (Below.refl _ _) (.cells #[.int .i64 x.f0, .int .i64 x.f1, .int .i64 x.f2, .int .i64 x.f3, .int .i64 x.f4, .slice A n c] 33)))
  have HSZ3 := Aside0.mk (Nat.le_trans HF1.out.size (Nat.le_trans HB2.out.size (by rw [szA]; omega : w2.heap.size ≤ (w2.alloc (.cells #[.int .i64 x.f0, .int .i64 x.f1, .int .i64 x.f2, .int .i64 x.f3, .int .i64 x.f4, .slice A n c] 33)).heap.size)))
  go_wp2_with fail
  refine (twin_R x A n c _ HXN.out HXM.out ((HXC.out.step HF3.out) _ (Frm.refl _ _)) HNC.out).mono ?_
  rintro e w4 ⟨A2, c2, rfl, hv2, hl2, hb4⟩
  have HR4 := Aside0.mk (RingIs_below HR3.out hb4)
  have HV2 := Aside0.mk hv2
  have HB4 := Aside0.mk hb4
  clear hv2 hl2 hb4
  go_wp2_with fail
  refine (append_R HR4.out x A2 n c2 HXN.out (Live.of_R HR3.out HXN.out HV2.out) HXM.out (fun k hk => HF.out k (Nat.le_trans (Nat.le_trans HSZ3.out HB4.out.size) hk))).mono ?_
  rintro e w5 ⟨rfl, hr5, hf5⟩
  have HR5 := Aside0.mk hr5
  have HF5 := Aside0.mk (Frm.then_ (HF3.out.step HB4.out) hf5 (fun _ hk _ => hk))
  clear hr5 hf5
  go_wp2
  go_ret2
  rw [hx.out]
  exact ⟨rfl, HR5.out, HF5.out⟩
end
end Go.Proofs.Ytcbejpmmlcdhnaa.PW
namespace Go.Proofs.Ytcbejpmmlcdhnaa.PW
open Go.RowKit Go.Proofs.YtcbejpmmlcdhnaaW.PrintWords Go.Proofs.YtcbejpmmlcdhnaaW.PrintLast Go.Proofs.YtcbejpmmlcdhnaaW.PrintMore
set_option linter.unusedVariables false
set_option linter.unusedSimpArgs false

/-- The ring behind an act; was it taken; what is said to be held. -/
def RS.did (s : RS) (a : S47) (held : Int) : RS × Bool × Int :=
  bif a.k == 1 then (s.app (nearE s.la s.lv a), s.acode (nearE s.la s.lv a) == 0, held)
  else bif a.k == 2 then (s.app a.e, s.acode a.e == 0, held)
  else bif a.k == 3 then (s.hold (wrap64 (held + a.n)), s.code (wrap64 (held + a.n)) == 0, s.keep (wrap64 (held + a.n)) held)
  else bif a.k == 4 then (s.hold a.n, s.code a.n == 0, s.keep a.n held)
  else bif a.k == 5 then (s.cut (wrap64 ((s.la : Int) - a.n)), s.code (wrap64 ((s.la : Int) - a.n)) == 0, held)
  else bif a.k == 6 then (s.cut a.n, s.code a.n == 0, held)
  else (s, false, held)
theorem did_R {W : World} {base : Nat} {ok : Nat → Prop} {p : Option Nat} {s : RS} (h : RingIs W base ok p s) (a : S47) (A : Option Addr) (n c : Nat) (hn : a.e.f5.length = n) (hC : Live W p A n a.e.f5) (hnc : n ≤ c) (hm : opsOk a.e) (hfresh : ∀ k, W.heap.size ≤ k → ok k) (held : Int) :
    Calls Try.prog 19 #[ptr p, actV a (.slice A n c), .int .i64 held] W fun e w' => e = .returned (.tuple #[.bool (s.did a held).2.1, .int .i64 (s.did a held).2.2]) ∧ RingIs w' base ok p (s.did a held).1 ∧ Frm W w' (own1 p) := by
  unfold RS.did
  cases k1 : a.k == 1 with
  | true =>
    simp only [cond_true]
    exact did_near h a A n c hn hC hnc hm hfresh held k1
  | false =>
  cases k2 : a.k == 2 with
  | true =>
    simp only [cond_true, cond_false]
    exact did_app h a A n c hn hC hnc hm hfresh held k1 k2
  | false =>
  cases k3 : a.k == 3 with
  | true =>
    simp only [cond_true, cond_false]
    exact did_holdn h a _ hfresh held k1 k2 k3
  | false =>
  cases k4 : a.k == 4 with
  | true =>
    simp only [cond_true, cond_false]
    exact did_hold h a _ hfresh held k1 k2 k3 k4
  | false =>
  cases k5 : a.k == 5 with
  | true =>
    simp only [cond_true, cond_false]
    exact did_cutn h a _ hfresh held k1 k2 k3 k4 k5
  | false =>
  cases k6 : a.k == 6 with
  | true =>
    simp only [cond_true, cond_false]
    exact did_cut h a _ hfresh held k1 k2 k3 k4 k5 k6
  | false =>
    simp only [cond_false]
    exact did_none h a _ hfresh held k1 k2 k3 k4 k5 k6
end Go.Proofs.Ytcbejpmmlcdhnaa.PW
namespace Go.Proofs.Ytcbejpmmlcdhnaa.PW
open Go.RowKit
set_option linter.unusedVariables false
set_option linter.unusedSimpArgs false

/-- H: all entries that ever were, by their stamps. -/
def Hist (H : Nat → S33) (s : RS) : Prop := 1 ≤ s.room ∧ s.fl ≤ s.ho ∧ s.ho ≤ s.la ∧ s.o = (H s.fl).f1 ∧ ∀ i, i < s.l.length → s.l[i]? = some (H (s.fl + 1 + i))
theorem Hist.lv {H : Nat → S33} {s : RS} (h : Hist H s) : s.lv = (H s.la).f1 := by
  obtain ⟨h1, h2, h3, h4, h5⟩ := h
  by_cases hn : s.l = []
  · have hla : s.la = s.fl := by simp [RS.la, hn]
    have hlv : s.lv = s.o := by simp [RS.lv, hn]
    rw [hla, hlv, h4]
  · obtain ⟨x, hx1, hx2, hx3⟩ := RS.last_of hn
    have hpos : 0 < s.l.length := List.length_pos_iff.2 hn
    have h6 := h5 (s.l.length - 1) (by omega)
    rw [hx2] at h6
    rw [hx3, Option.some.inj h6]
    congr 2
    simp only [RS.la]
    omega
def Twins (s t : RS) : Prop := s.la = t.la ∧ s.ho = t.ho ∧ ∃ H, Hist H s ∧ Hist H t
theorem Hist.hold {H : Nat → S33} {s : RS} (h : Hist H s) (n : Int) : Hist H (s.hold n) ∧ (s.hold n).la = s.la ∧ (s.hold n).ho = if s.code n = 0 then n.toNat else s.ho := by
  unfold RS.hold
  split
  · rename_i hz
    obtain ⟨h6, h7⟩ := btw_zero.1 hz
    obtain ⟨h1, h2, h3, h4, h5⟩ := h
    have h3' : n.toNat ≤ s.la := by omega
    refine ⟨⟨h1, ?_, ?_, h4, h5⟩, rfl, rfl⟩
    · show s.fl ≤ n.toNat
      omega
    · show n.toNat ≤ s.la
      exact h3'
  · exact ⟨h, rfl, rfl⟩
theorem Hist.cut {H : Nat → S33} {s : RS} (h : Hist H s) (n : Int) : Hist H (s.cut n) ∧ (s.cut n).la = (if s.code n = 0 then n.toNat else s.la) ∧ (s.cut n).ho = s.ho := by
  unfold RS.cut
  split
  · rename_i hz
    obtain ⟨h6, h7⟩ := btw_zero.1 hz
    obtain ⟨h1, h2, h3, h4, h5⟩ := h
    have hla : s.la = s.fl + s.l.length := rfl
    have hnew : s.fl + (s.l.take (n.toNat - s.fl)).length = n.toNat := by rw [List.length_take]; omega
    refine ⟨⟨h1, h2, ?_, h4, fun i hi => ?_⟩, hnew, rfl⟩
    · show s.ho ≤ s.fl + (s.l.take (n.toNat - s.fl)).length
      omega
    · have hi' : i < (s.l.take (n.toNat - s.fl)).length := hi
      rw [List.length_take] at hi'
      show (s.l.take (n.toNat - s.fl))[i]? = _
      rw [List.getElem?_take_of_lt (by omega)]
      exact h5 i (by omega)
  · exact ⟨h, rfl, rfl⟩
theorem Hist.push {H : Nat → S33} {s : RS} (h : Hist H s) (x : S33) (hfull : ¬ (s.l.length = s.room ∧ s.ho ≤ s.fl)) : Hist (fun j => if j = s.la + 1 then x else H j) (s.push x) ∧ (s.push x).la = s.la + 1 ∧ (s.push x).ho = s.ho := by
  obtain ⟨h1, h2, h3, h4, h5⟩ := h
  have hla : s.la = s.fl + s.l.length := rfl
  unfold RS.push
  split
  · rename_i hl
    have hpos : 0 < s.l.length := by omega
    have h0 := h5 0 hpos
    have hd : s.l.getD 0 z33 = H (s.fl + 1) := by rw [List.getD_eq_getElem?_getD, h0]; rfl
    have hlen : (s.l.drop 1 ++ [x]).length = s.l.length := by rw [List.length_append, List.length_drop]; simp only [List.length_singleton]; omega
    have hnl : (s.fl + 1) + (s.l.drop 1 ++ [x]).length = s.la + 1 := by rw [hlen]; omega
    refine ⟨⟨h1, ?_, ?_, ?_, fun i hi => ?_⟩, hnl, rfl⟩
    · show s.fl + 1 ≤ s.ho
      omega
    · show s.ho ≤ (s.fl + 1) + (s.l.drop 1 ++ [x]).length
      omega
    · show (s.l.getD 0 z33).f1 = (if s.fl + 1 = s.la + 1 then x else H (s.fl + 1)).f1
      rw [if_neg (by omega), hd]
    · have hi' : i < (s.l.drop 1 ++ [x]).length := hi
      rw [hlen] at hi'
      show (s.l.drop 1 ++ [x])[i]? = some (if s.fl + 1 + 1 + i = s.la + 1 then x else H (s.fl + 1 + 1 + i))
      by_cases he : i = s.l.length - 1
      · rw [List.getElem?_append_right (by rw [List.length_drop]; omega), if_pos (by omega), List.length_drop, he, Nat.sub_self]
        rfl
      · rw [List.getElem?_append_left (by rw [List.length_drop]; omega), if_neg (by omega), List.getElem?_drop, h5 (1 + i) (by omega)]
        congr 2
        omega
  · rename_i hl
    have hnl : s.fl + (s.l ++ [x]).length = s.la + 1 := by rw [List.length_append]; simp only [List.length_singleton]; omega
    refine ⟨⟨h1, h2, ?_, ?_, fun i hi => ?_⟩, hnl, rfl⟩
    · show s.ho ≤ s.fl + (s.l ++ [x]).length
      omega
    · show s.o = (if s.fl = s.la + 1 then x else H s.fl).f1
      rw [if_neg (by omega)]
      exact h4
    · have hi' : i < (s.l ++ [x]).length := hi
      rw [List.length_append, List.length_singleton] at hi'
      show (s.l ++ [x])[i]? = some (if s.fl + 1 + i = s.la + 1 then x else H (s.fl + 1 + i))
      by_cases he : i = s.l.length
      · rw [List.getElem?_append_right (by omega), if_pos (by omega), he, Nat.sub_self]
        rfl
      · rw [List.getElem?_append_left (by omega), if_neg (by omega)]
        exact h5 i (by omega)
section
variable {s t : RS}
theorem Twins.hold (h : Twins s t) (n : Int) : s.code n = t.code n ∧ Twins (s.hold n) (t.hold n) := by
  obtain ⟨h1, h2, H, h3, h4⟩ := h
  have hc : s.code n = t.code n := by unfold RS.code; rw [h1, h2]
  obtain ⟨k1, k2, k3⟩ := h3.hold n
  obtain ⟨l1, l2, l3⟩ := h4.hold n
  exact ⟨hc, by rw [k2, l2, h1], by rw [k3, l3, hc, h2], H, k1, l1⟩
theorem Twins.cut (h : Twins s t) (n : Int) : s.code n = t.code n ∧ Twins (s.cut n) (t.cut n) := by
  obtain ⟨h1, h2, H, h3, h4⟩ := h
  have hc : s.code n = t.code n := by unfold RS.code; rw [h1, h2]
  obtain ⟨k1, k2, k3⟩ := h3.cut n
  obtain ⟨l1, l2, l3⟩ := h4.cut n
  exact ⟨hc, by rw [k2, l2, hc, h1], by rw [k3, l3, h2], H, k1, l1⟩
theorem acode_full {s : RS} {x : S33} (h : s.acode x = 0) : ¬ (s.l.length = s.room ∧ s.ho ≤ s.fl) := by
  intro hf
  unfold RS.acode at h
  rw [if_pos hf] at h
  repeat' split at h
  all_goals simp at h
theorem Twins.app (h : Twins s t) (x : S33) (hc : (s.acode x == 0) = (t.acode x == 0)) : Twins (s.app x) (t.app x) := by
  obtain ⟨h1, h2, H, h3, h4⟩ := h
  by_cases h5 : s.acode x = 0
  · have h6 : t.acode x = 0 := by rw [h5] at hc; exact beq_iff_eq.1 hc.symm
    obtain ⟨k1, k2, k3⟩ := h3.push x (acode_full h5)
    obtain ⟨l1, l2, l3⟩ := h4.push x (acode_full h6)
    unfold RS.app
    rw [if_pos h5, if_pos h6]
    exact ⟨by rw [k2, l2, h1], by rw [k3, l3, h2], _, k1, by rw [h1]; exact l1⟩
  · have h6 : ¬ t.acode x = 0 := fun e => h5 (by rw [e] at hc; exact beq_iff_eq.1 hc)
    unfold RS.app
    rw [if_neg h5, if_neg h6]
    exact ⟨h1, h2, H, h3, h4⟩
theorem Twins.lv (h : Twins s t) : s.lv = t.lv := by
  obtain ⟨h1, h2, H, h3, h4⟩ := h
  rw [h3.lv, h4.lv, h1]
theorem Twins.did (h : Twins s t) (a : S47) (held : Int) : ((s.did a held).2.1 = (t.did a held).2.1 ∨ (a.k == 1) = true ∨ (a.k == 2) = true) ∧ ((s.did a held).2.1 = (t.did a held).2.1 → (s.did a held).2.2 = (t.did a held).2.2 ∧ Twins (s.did a held).1 (t.did a held).1) := by
  have h1 : s.la = t.la := h.1
  have h2 := h.lv
  unfold RS.did
  cases k1 : a.k == 1 with
  | true =>
    simp only [cond_true]
    rw [h1, h2]
    exact ⟨.inr (.inl trivial), fun e => ⟨trivial, h.app _ e⟩⟩
  | false =>
  cases k2 : a.k == 2 with
  | true =>
    simp only [cond_true, cond_false]
    exact ⟨.inr (.inr trivial), fun e => ⟨trivial, h.app _ e⟩⟩
  | false =>
  cases k3 : a.k == 3 with
  | true =>
    simp only [cond_true, cond_false]
    obtain ⟨c1, c2⟩ := h.hold (wrap64 (held + a.n))
    unfold RS.keep
    rw [c1]
    exact ⟨.inl rfl, fun _ => ⟨rfl, c2⟩⟩
  | false =>
  cases k4 : a.k == 4 with
  | true =>
    simp only [cond_true, cond_false]
    obtain ⟨c1, c2⟩ := h.hold a.n
    unfold RS.keep
    rw [c1]
    exact ⟨.inl rfl, fun _ => ⟨rfl, c2⟩⟩
  | false =>
  cases k5 : a.k == 5 with
  | true =>
    simp only [cond_true, cond_false]
    rw [h1]
    obtain ⟨c1, c2⟩ := h.cut (wrap64 ((t.la : Int) - a.n))
    rw [c1]
    exact ⟨.inl rfl, fun _ => ⟨trivial, c2⟩⟩
  | false =>
  cases k6 : a.k == 6 with
  | true =>
    simp only [cond_true, cond_false]
    obtain ⟨c1, c2⟩ := h.cut a.n
    rw [c1]
    exact ⟨.inl rfl, fun _ => ⟨trivial, c2⟩⟩
  | false =>
    simp only [cond_false]
    exact ⟨.inl trivial, fun _ => ⟨trivial, h⟩⟩
theorem Twins.tail (h : Twins s t) (n : Nat) (h1 : n ≤ s.l.length) (h2 : n ≤ t.l.length) : s.l.drop (s.l.length - n) = t.l.drop (t.l.length - n) := by
  obtain ⟨e1, e2, H, ⟨a1, a2, a3, a4, a5⟩, b1, b2, b3, b4, b5⟩ := h
  have f1 : s.la = s.fl + s.l.length := rfl
  have f2 : t.la = t.fl + t.l.length := rfl
  apply List.ext_getElem?
  intro i
  rw [List.getElem?_drop, List.getElem?_drop]
  by_cases hi : i < n
  · rw [a5 _ (by omega), b5 _ (by omega)]
    congr 2
    omega
  · rw [List.getElem?_eq_none (by omega), List.getElem?_eq_none (by omega)]
theorem Twins.new (r1 r2 fl : Nat) (o : Int) (h1 : 1 ≤ r1) (h2 : 1 ≤ r2) : Twins (RS.new r1 fl o) (RS.new r2 fl o) :=
  ⟨rfl, rfl, fun _ => ⟨0, o, 0, 0, 0, []⟩, ⟨h1, Nat.le_refl _, Nat.le_refl _, rfl, fun i hi => by simp [RS.new] at hi⟩, ⟨h2, Nat.le_refl _, Nat.le_refl _, rfl, fun i hi => by simp [RS.new] at hi⟩⟩
end
end Go.Proofs.Ytcbejpmmlcdhnaa.PW
namespace Go.Proofs.Ytcbejpmmlcdhnaa.PW
open Go.RowKit Go.Proofs.YtcbejpmmlcdhnaaW.PrintWords Go.Proofs.YtcbejpmmlcdhnaaW.PrintLast Go.Proofs.YtcbejpmmlcdhnaaW.PrintMore
set_option linter.unusedVariables false
set_option linter.unusedSimpArgs false

def z47 : S47 := ⟨0, 0, 0, z33⟩
def k47 : Kd S47 := Kd.iso (Kd.pair (Kd.int .i64) (Kd.pair (Kd.int .i64) (Kd.pair (Kd.int .i64) k33))) (fun x : S47 => (x.k, x.n, x.m, x.e))
theorem k47_open {w : World} {x : S47} {cs : List Value} (h : k47.K w x cs) : ∃ A c, cs = [.int .i64 x.k, .int .i64 x.n, .int .i64 x.m, .int .i64 x.e.f0, .int .i64 x.e.f1, .int .i64 x.e.f2, .int .i64 x.e.f3, .int .i64 x.e.f4, .slice A x.e.f5.length c] ∧ x.e.f5.length ≤ c ∧ k55.C w A x.e.f5.length x.e.f5 := by
  obtain ⟨_, _, rfl, rfl, ⟨_, _, rfl, rfl, ⟨_, _, rfl, rfl, h3⟩⟩⟩ := h
  obtain ⟨A, c, h4, h5, h6⟩ := k33_open h3
  exact ⟨A, c, by rw [h4]; rfl, h5, h6⟩
def rd_T47 (xs : List S47) (i : Int) : S47 := xs.getD i.toNat z47
theorem at_T47 {w : World} {A : Option Addr} {n : Nat} {xs : List S47} (h : Kd.C k47 w A n xs) (i : Nat) (h1 : i < n) : ∃ ad A5 c5, A = some ad ∧
    (w.cell? (ad.add (i * 9)) = some (.int .i64 (rd_T47 xs i).k) ∧ w.cell? ⟨(ad.add (i * 9)).block, (ad.add (i * 9)).off + 1, none⟩ = some (.int .i64 (rd_T47 xs i).n) ∧ w.cell? ⟨(ad.add (i * 9)).block, (ad.add (i * 9)).off + 2, none⟩ = some (.int .i64 (rd_T47 xs i).m) ∧
    w.cell? ⟨(ad.add (i * 9)).block, (ad.add (i * 9)).off + 3, none⟩ = some (.int .i64 (rd_T47 xs i).e.f0) ∧ w.cell? ⟨(ad.add (i * 9)).block, (ad.add (i * 9)).off + 4, none⟩ = some (.int .i64 (rd_T47 xs i).e.f1) ∧ w.cell? ⟨(ad.add (i * 9)).block, (ad.add (i * 9)).off + 5, none⟩ = some (.int .i64 (rd_T47 xs i).e.f2) ∧
    w.cell? ⟨(ad.add (i * 9)).block, (ad.add (i * 9)).off + 6, none⟩ = some (.int .i64 (rd_T47 xs i).e.f3) ∧ w.cell? ⟨(ad.add (i * 9)).block, (ad.add (i * 9)).off + 7, none⟩ = some (.int .i64 (rd_T47 xs i).e.f4) ∧ w.cell? ⟨(ad.add (i * 9)).block, (ad.add (i * 9)).off + 8, none⟩ = some (.slice A5 (rd_T47 xs i).e.f5.length c5)) ∧
    (rd_T47 xs i).e.f5.length ≤ c5 ∧ k55.C w A5 (rd_T47 xs i).e.f5.length (rd_T47 xs i).e.f5 := by
  obtain ⟨ad, c, e, _, hK, hc0⟩ := Kd.C_get h z47 (i : Int) (by omega) (by omega)
  rw [Int.toNat_natCast] at hc0
  have hc : ∀ j u, c[j]? = some u → w.cell? (ad.add (i * 9 + j)) = some u := hc0
  obtain ⟨A5, c5, rfl, l5, g5⟩ := k47_open hK
  refine ⟨ad, A5, c5, e, ⟨hc 0 _ rfl, ?_, ?_, ?_, ?_, ?_, ?_, ?_, ?_⟩, l5, g5⟩
  · rw [← add_field _ _ 1 (by omega)]; exact hc 1 _ rfl
  · rw [← add_field _ _ 2 (by omega)]; exact hc 2 _ rfl
  · rw [← add_field _ _ 3 (by omega)]; exact hc 3 _ rfl
  · rw [← add_field _ _ 4 (by omega)]; exact hc 4 _ rfl
  · rw [← add_field _ _ 5 (by omega)]; exact hc 5 _ rfl
  · rw [← add_field _ _ 6 (by omega)]; exact hc 6 _ rfl
  · rw [← add_field _ _ 7 (by omega)]; exact hc 7 _ rfl
  · rw [← add_field _ _ 8 (by omega)]; exact hc 8 _ rfl
theorem rd_T47_mem {xs : List S47} {i : Nat} (h : i < xs.length) : rd_T47 xs (i : Int) ∈ xs := by
  unfold rd_T47
  rw [Int.toNat_natCast, List.getD_eq_getElem?_getD, List.getElem?_eq_getElem h]
  exact List.getElem_mem h
theorem Live.of_C {w W : World} {b : Nat} {A : Option Addr} {n : Nat} {l : List S55} (hC : Kd.C k55 w A n l) (hB : Below w.heap.size w W) (hb : w.heap.size ≤ b) : Live W (some b) A n l := fun W' hf =>
  Kd.C_below hC (hB.trans (hf.below (B := w.heap.size) (fun k hk _ => by obtain rfl : b = k := Option.some.inj hk; exact hb) hB.size))
theorem new_no (room fl o : Int) (w : World) (h : ¬ (1 ≤ room ∧ room ≤ 64 ∧ isB fl = true ∧ isB o = true)) : Calls Try.prog 18 #[.int .i64 room, .int .i64 fl, .int .i64 o] w fun e w' => ∃ c : Int, (c != 0) = true ∧ e = .returned (.tuple #[.pointer none, .int .i64 c]) ∧ w' = w := by
  by_cases hr : 1 ≤ room ∧ room ≤ 64
  · refine (new_num room fl o w hr.1 hr.2 ?_).mono ?_
    · cases h1 : isB fl with
      | false => rfl
      | true =>
        cases h2 : isB o with
        | false => rfl
        | true => exact absurd ⟨hr.1, hr.2, h1, h2⟩ h
    · rintro e w' ⟨rfl, rfl⟩
      exact ⟨3, by decide, rfl, rfl⟩
  · refine (new_room room fl o w (by omega)).mono ?_
    rintro e w' ⟨rfl, rfl⟩
    exact ⟨1, by decide, rfl, rfl⟩
end Go.Proofs.Ytcbejpmmlcdhnaa.PW
namespace Go.Proofs.Ytcbejpmmlcdhnaa.PW
open Go.RowKit Go.Proofs.YtcbejpmmlcdhnaaW.PrintWords Go.Proofs.YtcbejpmmlcdhnaaW.PrintLast Go.Proofs.YtcbejpmmlcdhnaaW.PrintMore
set_option linter.unusedVariables false
set_option linter.unusedSimpArgs false

def rg43.T4 : Bool × List (List Nat × List Nat) := (true, [([], []), ([0], [0]), ([1], [1]), ([2], [2]), ([], []), ([4], [4]), ([3, 5], [3, 5]), ([6], [6]), ([7], [7]), ([], []), ([9], [9]), ([10], [10]), ([11], [11]), ([], []), ([13], [13]), ([12, 14], [12, 14]), ([15], [15]), ([16], [16]), ([8, 0, 1, 2, 3, 4, 5, 6, 7, 8], [8]), ([17, 18, 0, 1, 2, 3, 4, 5, 6, 7, 8, 9, 10, 11, 12, 13, 14, 15, 16, 17, 18], [17])])
def rg43.B4 : List Nat := [0, 1, 3, 7, 0, 16, 63, 127, 255, 0, 512, 1536, 3584, 0, 8192, 32256, 65024, 130560, 511, 524287]
theorem rg43.tab4 : rtab .any (opsOf Try.f43 4) = rg43.T4 := by kernel_rfl
theorem rg43.bits4 : waitsOk rg43.T4.2 rg43.B4 = true := by kernel_rfl
def rg44.T4 : Bool × List (List Nat × List Nat) := (true, [([], []), ([0], [0]), ([1], [1]), ([2], [2]), ([], []), ([4], [4]), ([3, 5], [3, 5]), ([6], [6]), ([7], [7]), ([], []), ([9], [9]), ([10], [10]), ([11], [11]), ([], []), ([13], [13]), ([12, 14], [12, 14]), ([15], [15]), ([16], [16]), ([8, 0, 1, 2, 3, 4, 5, 6, 7, 8], [8]), ([17, 18, 0, 1, 2, 3, 4, 5, 6, 7, 8, 9, 10, 11, 12, 13, 14, 15, 16, 17, 18], [17])])
def rg44.B4 : List Nat := [0, 1, 3, 7, 0, 16, 63, 127, 255, 0, 512, 1536, 3584, 0, 8192, 32256, 65024, 130560, 511, 524287]
theorem rg44.tab4 : rtab .any (opsOf Try.f44 4) = rg44.T4 := by kernel_rfl
theorem rg44.bits4 : waitsOk rg44.T4.2 rg44.B4 = true := by kernel_rfl
/-- The reference's ring: room, first floor and its view, hold, all entries, how many of them count. -/
structure XS where
  room : Nat
  fl : Nat
  o : Int
  ho : Nat
  l : List S33
  kept : Nat
/-- It in block g (type 68). -/
def XAt (W : World) (base : Nat) (ok : Nat → Prop) (g : Nat) (x : XS) : Prop := base ≤ g ∧ ok g ∧ x.kept ≤ x.l.length ∧ ∃ A c, W.heap[g]? = some (.cells #[.int .i64 (x.room : Int), .int .i64 (x.fl : Int), .int .i64 x.o, .int .i64 (x.ho : Int), .slice A x.l.length c, .int .i64 (x.kept : Int)] 68 (0, 0)) ∧
  Kd.S k33 33 W base (fun k => ok k ∧ k ≠ g) (.slice A x.l.length c) x.l
/-- What Last answers. -/
def XS.la (x : XS) : Int := match x.l.getLast? with
  | none => (x.fl : Int)
  | some e => e.f0
def XS.lv (x : XS) : Int := match x.l.getLast? with
  | none => x.o
  | some e => e.f1
set_option maxHeartbeats 4000000 in
set_option maxRecDepth 100000 in
theorem xlast_C {W : World} {base g : Nat} {ok : Nat → Prop} {x : XS} (h : XAt W base ok g x) (hlen : x.l.length ≤ 4294967296) :
    Calls Try.prog 43 #[.pointer (some ⟨g, 0, none⟩)] W fun e w' => e = .returned (.tuple #[.int .i64 x.la, .int .i64 x.lv]) ∧ Drawn0 W w' := by
  obtain ⟨h1, h2, h3, A, c, hb, hS⟩ := h
  have c0 : W.cell? ⟨g, 0, none⟩ = some (.int .i64 (x.room : Int)) := (blk_cell hb 0).trans rfl
  have c1 : W.cell? ⟨g, 1, none⟩ = some (.int .i64 (x.fl : Int)) := (blk_cell hb 1).trans rfl
  have c2 : W.cell? ⟨g, 2, none⟩ = some (.int .i64 x.o) := (blk_cell hb 2).trans rfl
  have c4 : W.cell? ⟨g, 4, none⟩ = some (.slice A x.l.length c) := (blk_cell hb 4).trans rfl
  obtain ⟨n, hn⟩ : ∃ n, x.l.length = n := ⟨_, rfl⟩
  obtain ⟨q1, q2, q3⟩ := Kd.S_reads' hS
  rw [hn] at c4 q3 hlen
  have HB := Aside0.mk hb
  clear hb hS q1 q2
  by_cases h0 : n = 0
  · subst h0
    have hl : x.l = [] := List.eq_nil_of_length_eq_zero hn
    have e1 : x.la = (x.fl : Int) := by simp [XS.la, hl]
    have e2 : x.lv = x.o := by simp [XS.lv, hl]
    rw [e1, e2]
    clear e1 e2 hn hl q3
    go_enter Try.func43, Try.ntmps43
    go_wp2
    go_quiet (fail)
    go_wp2
    go_ret2
    exact ⟨rfl, ⟨⟨_, rfl⟩⟩⟩
  · obtain ⟨m, rfl⟩ : ∃ m, n = m + 1 := ⟨n - 1, by omega⟩
    have hne : x.l ≠ [] := fun e => by rw [e] at hn; simp at hn
    have hlast : x.l.getLast? = some (rd_T33 x.l (m : Int)) := by
      unfold rd_T33
      rw [List.getLast?_eq_getElem?, Int.toNat_natCast, List.getD_eq_getElem?_getD, hn, Nat.add_sub_cancel, List.getElem?_eq_getElem (by omega)]
      rfl
    have e1 : x.la = (rd_T33 x.l (m : Int)).f0 := by simp [XS.la, hlast]
    have e2 : x.lv = (rd_T33 x.l (m : Int)).f1 := by simp [XS.lv, hlast]
    rw [e1, e2]
    obtain ⟨ad, A5, c5, hA, x0, x1, _⟩ := at_T33 q3 (m : Int) (by omega) (by omega)
    subst hA
    rw [Int.toNat_natCast] at x0 x1
    obtain ⟨y, hy⟩ : ∃ y, y = rd_T33 x.l (m : Int) := ⟨_, rfl⟩
    rw [← hy] at x0 x1 ⊢
    have hm1 : ((m + 1 : Nat) : Int) - 1 = (m : Int) := by omega
    obtain ⟨n1, hn1⟩ : ∃ n1, n1 = m + 1 := ⟨_, rfl⟩
    rw [← hn1] at c4 hm1
    have hmn : m < n1 := by omega
    have hn0 : ((n1 : Int) == 0) = false := beq_eq_false_iff_ne.mpr (by omega)
    have hn0n : (n1 == 0) = false := beq_eq_false_iff_ne.mpr (by omega)
    have hn2 : n1 ≤ 4294967296 := by omega
    clear e1 e2 hn hlast hne q3 hy hn1 h0 hlen h3
    go_enter Try.func43, Try.ntmps43
    go_wp2
    have hwm : wrap64 (m : Int) = (m : Int) := by unfold wrap64; omega
    refine start_ (n := 20) (S := fun w' => w'.cell? ⟨g, 4, none⟩ = some (.slice (some ad) n1 c) ∧ w'.cell? (ad.add (m * 6)) = some (.int .i64 y.f0) ∧ w'.cell? ⟨(ad.add (m * 6)).block, (ad.add (m * 6)).off + 1, none⟩ = some (.int .i64 y.f1)) (ds := []) #[false, false, false, false, false, false, false, false, false, false, false, false, false, false, false, false, false, false, false, false] (by kernel_rfl) rfl rfl ⟨c4, x0, x1⟩ (fun hHeld => ?_)
    refine with_tabW rg43.tab4 rg43.bits4 (fun HT_ HW_ => ?_)
    refine pure_ (i := 0) (N := some 20) (v := ?_) (a' := ?_) #[true, false, false, false, false, false, false, false, false, false, false, false, false, false, false, false, false, false, false, false] rfl rfl (any_of HT_.out (by kernel_rfl)) (fun _ _ _ h => h) (Or.inl ⟨by rfl, ?_⟩) ?_ ?_
    rotate_left
    · intro w'
      go_simp
      with_reducible rfl
    rotate_left
    · simp only [Act.put, List.setIfInBounds_toArray, List.set_cons_zero, List.set_cons_succ, i64_w, i32_w]
      rfl
    refine pure_ (i := 1) (N := some 21) (v := ?_) (a' := ?_) #[true, true, false, false, false, false, false, false, false, false, false, false, false, false, false, false, false, false, false, false] rfl rfl (any_of HT_.out (by kernel_rfl)) (fun _ _ _ h => h) (Or.inl ⟨by rfl, ?_⟩) ?_ ?_
    rotate_left
    · intro w'
      go_simp
      with_reducible rfl
    rotate_left
    · simp only [Act.put, List.setIfInBounds_toArray, List.set_cons_zero, List.set_cons_succ, i64_w, i32_w]
      rfl
    refine pure_ (i := 2) (N := some 22) (v := ?_) (a' := ?_) #[true, true, true, false, false, false, false, false, false, false, false, false, false, false, false, false, false, false, false, false] rfl rfl (any_of HT_.out (by kernel_rfl)) (fun _ _ _ h => h) (Or.inl ⟨by rfl, ?_⟩) ?_ ?_
    rotate_left
    · intro w'
      go_simp
      with_reducible rfl
    rotate_left
    · simp only [Act.put, List.setIfInBounds_toArray, List.set_cons_zero, List.set_cons_succ, i64_w, i32_w]
      rfl
    refine pure_ (i := 4) (N := some 24) (v := ?_) (a' := ?_) #[true, true, true, false, true, false, false, false, false, false, false, false, false, false, false, false, false, false, false, false] rfl rfl (any_of HT_.out (by kernel_rfl)) (fun _ _ _ h => h) (Or.inl ⟨by rfl, ?_⟩) ?_ ?_
    rotate_left
    · intro w'
      go_simp
      with_reducible rfl
    rotate_left
    · simp only [Act.put, List.setIfInBounds_toArray, List.set_cons_zero, List.set_cons_succ, i64_w, i32_w]
      rfl
    refine pure_ (i := 5) (N := some 25) (v := ?_) (a' := ?_) #[true, true, true, false, true, true, false, false, false, false, false, false, false, false, false, false, false, false, false, false] rfl rfl (any_of HT_.out (by kernel_rfl)) (fun _ _ _ h => h) (Or.inl ⟨by rfl, ?_⟩) ?_ ?_
    rotate_left
    · intro w'
      go_simp
      with_reducible rfl
    rotate_left
    · simp only [Act.put, List.setIfInBounds_toArray, List.set_cons_zero, List.set_cons_succ, i64_w, i32_w]
      rfl
    refine pure_ (i := 9) (N := some 29) (v := ?_) (a' := ?_) #[true, true, true, false, true, true, false, false, false, true, false, false, false, false, false, false, false, false, false, false] rfl rfl (any_of HT_.out (by kernel_rfl)) (fun _ _ _ h => h) (Or.inl ⟨by rfl, ?_⟩) ?_ ?_
    rotate_left
    · intro w'
      go_simp
      with_reducible rfl
    rotate_left
    · simp only [Act.put, List.setIfInBounds_toArray, List.set_cons_zero, List.set_cons_succ, i64_w, i32_w]
      rfl
    refine pure_ (i := 10) (N := some 30) (v := ?_) (a' := ?_) #[true, true, true, false, true, true, false, false, false, true, true, false, false, false, false, false, false, false, false, false] rfl rfl (any_of HT_.out (by kernel_rfl)) (fun _ _ _ h => h) (Or.inl ⟨by rfl, ?_⟩) ?_ ?_
    rotate_left
    · intro w'
      go_simp
      with_reducible rfl
    rotate_left
    · simp only [Act.put, List.setIfInBounds_toArray, List.set_cons_zero, List.set_cons_succ, i64_w, i32_w]
      rfl
    refine pure_ (i := 11) (N := some 31) (v := ?_) (a' := ?_) #[true, true, true, false, true, true, false, false, false, true, true, true, false, false, false, false, false, false, false, false] rfl rfl (any_of HT_.out (by kernel_rfl)) (fun _ _ _ h => h) (Or.inl ⟨by rfl, ?_⟩) ?_ ?_
    rotate_left
    · intro w'
      go_simp
      with_reducible rfl
    rotate_left
    · simp only [Act.put, List.setIfInBounds_toArray, List.set_cons_zero, List.set_cons_succ, i64_w, i32_w]
      rfl
    refine pure_ (i := 13) (N := some 33) (v := ?_) (a' := ?_) #[true, true, true, false, true, true, false, false, false, true, true, true, false, true, false, false, false, false, false, false] rfl rfl (any_of HT_.out (by kernel_rfl)) (fun _ _ _ h => h) (Or.inl ⟨by rfl, ?_⟩) ?_ ?_
    rotate_left
    · intro w'
      go_simp
      with_reducible rfl
    rotate_left
    · simp only [Act.put, List.setIfInBounds_toArray, List.set_cons_zero, List.set_cons_succ, i64_w, i32_w]
      rfl
    refine pure_ (i := 14) (N := some 34) (v := ?_) (a' := ?_) #[true, true, true, false, true, true, false, false, false, true, true, true, false, true, true, false, false, false, false, false] rfl rfl (any_of HT_.out (by kernel_rfl)) (fun _ _ _ h => h) (Or.inl ⟨by rfl, ?_⟩) ?_ ?_
    rotate_left
    · intro w'
      go_simp
      with_reducible rfl
    rotate_left
    · simp only [Act.put, List.setIfInBounds_toArray, List.set_cons_zero, List.set_cons_succ, i64_w, i32_w]
      rfl
    refine take_ (i := 3) (N := some 23) (v := ?_) (a' := ?_) #[true, true, true, true, true, true, false, false, false, true, true, true, false, true, true, false, false, false, false, false] rfl rfl (take_ofW HT_.out HW_.out (by kernel_rfl)) (fun _ _ _ h => h) (Or.inl ⟨by rfl, ?_⟩) hHeld ?_ ?_
    rotate_left
    · rintro w' ⟨s0, s1, s2⟩
      go_simp
      with_reducible rfl
    rotate_left
    · simp only [Act.put, List.setIfInBounds_toArray, List.set_cons_zero, List.set_cons_succ, i64_w, i32_w]
      rfl
    refine pure_ (i := 6) (N := some 26) (v := ?_) (a' := ?_) #[true, true, true, true, true, true, true, false, false, true, true, true, false, true, true, false, false, false, false, false] rfl rfl (any_of HT_.out (by kernel_rfl)) (fun _ _ _ h => h) (Or.inl ⟨by rfl, ?_⟩) ?_ ?_
    rotate_left
    · intro w'
      go_simp
      with_reducible rfl
    rotate_left
    · simp only [Act.put, List.setIfInBounds_toArray, List.set_cons_zero, List.set_cons_succ, i64_w, i32_w]
      rfl
    refine pure_ (i := 7) (N := some 27) (v := ?_) (a' := ?_) #[true, true, true, true, true, true, true, true, false, true, true, true, false, true, true, false, false, false, false, false] rfl rfl (any_of HT_.out (by kernel_rfl)) (fun _ _ _ h => h) (Or.inl ⟨by rfl, ?_⟩) ?_ ?_
    rotate_left
    · intro w'
      go_simp
      with_reducible rfl
    rotate_left
    · simp only [Act.put, List.setIfInBounds_toArray, List.set_cons_zero, List.set_cons_succ, i64_w, i32_w]
      rfl
    refine take_ (i := 8) (N := some 28) (v := ?_) (a' := ?_) #[true, true, true, true, true, true, true, true, true, true, true, true, false, true, true, false, false, false, false, false] rfl rfl (take_ofW HT_.out HW_.out (by kernel_rfl)) (fun _ _ _ h => h) (Or.inl ⟨by rfl, ?_⟩) hHeld ?_ ?_
    rotate_left
    · rintro w' ⟨s0, s1, s2⟩
      go_simp
      with_reducible rfl
    rotate_left
    · simp only [Act.put, List.setIfInBounds_toArray, List.set_cons_zero, List.set_cons_succ, i64_w, i32_w]
      rfl
    refine pure_ (i := 18) (N := some 2) (v := ?_) (a' := ?_) #[true, true, true, true, true, true, true, true, true, true, true, true, false, true, true, false, false, false, true, false] rfl rfl (any_of HT_.out (by kernel_rfl)) (fun _ _ _ h => h) (Or.inl ⟨by rfl, ?_⟩) ?_ ?_
    rotate_left
    · intro w'
      go_simp
      with_reducible rfl
    rotate_left
    · simp only [Act.put, List.setIfInBounds_toArray, List.set_cons_zero, List.set_cons_succ, i64_w, i32_w]
      rfl
    refine take_ (i := 12) (N := some 32) (v := ?_) (a' := ?_) #[true, true, true, true, true, true, true, true, true, true, true, true, true, true, true, false, false, false, true, false] rfl rfl (take_ofW HT_.out HW_.out (by kernel_rfl)) (fun _ _ _ h => h) (Or.inl ⟨by rfl, ?_⟩) hHeld ?_ ?_
    rotate_left
    · rintro w' ⟨s0, s1, s2⟩
      go_simp
      with_reducible rfl
    rotate_left
    · simp only [Act.put, List.setIfInBounds_toArray, List.set_cons_zero, List.set_cons_succ, i64_w, i32_w]
      rfl
    refine pure_ (i := 15) (N := some 35) (v := ?_) (a' := ?_) #[true, true, true, true, true, true, true, true, true, true, true, true, true, true, true, true, false, false, true, false] rfl rfl (any_of HT_.out (by kernel_rfl)) (fun _ _ _ h => h) (Or.inl ⟨by rfl, ?_⟩) ?_ ?_
    rotate_left
    · intro w'
      go_simp
      with_reducible rfl
    rotate_left
    · simp only [Act.put, List.setIfInBounds_toArray, List.set_cons_zero, List.set_cons_succ, i64_w, i32_w]
      rfl
    refine pure_ (i := 16) (N := some 36) (v := ?_) (a' := ?_) #[true, true, true, true, true, true, true, true, true, true, true, true, true, true, true, true, true, false, true, false] rfl rfl (any_of HT_.out (by kernel_rfl)) (fun _ _ _ h => h) (Or.inl ⟨by rfl, ?_⟩) ?_ ?_
    rotate_left
    · intro w'
      go_simp
      with_reducible rfl
    rotate_left
    · simp only [Act.put, List.setIfInBounds_toArray, List.set_cons_zero, List.set_cons_succ, i64_w, i32_w]
      rfl
    refine take_ (i := 17) (N := some 37) (v := ?_) (a' := ?_) #[true, true, true, true, true, true, true, true, true, true, true, true, true, true, true, true, true, true, true, false] rfl rfl (take_ofW HT_.out HW_.out (by kernel_rfl)) (fun _ _ _ h => h) (Or.inl ⟨by rfl, ?_⟩) hHeld ?_ ?_
    rotate_left
    · rintro w' ⟨s0, s1, s2⟩
      go_simp
      with_reducible rfl
    rotate_left
    · simp only [Act.put, List.setIfInBounds_toArray, List.set_cons_zero, List.set_cons_succ, i64_w, i32_w]
      rfl
    refine pure_ (i := 19) (N := some 3) (v := ?_) (a' := ?_) #[true, true, true, true, true, true, true, true, true, true, true, true, true, true, true, true, true, true, true, true] rfl rfl (any_of HT_.out (by kernel_rfl)) (fun _ _ _ h => h) (Or.inl ⟨by rfl, ?_⟩) ?_ ?_
    rotate_left
    · intro w'
      go_simp
      with_reducible rfl
    rotate_left
    · simp only [Act.put, List.setIfInBounds_toArray, List.set_cons_zero, List.set_cons_succ, i64_w, i32_w]
      rfl
    refine done_ (done_of HT_.out (by kernel_rfl)) ?_
    go_wp2
    go_ret2
    exact ⟨rfl, ⟨⟨_, rfl⟩⟩⟩
/-- What Floor answers: of the entry ahead of those that count. -/
def XS.xfl (x : XS) : Int := if x.l.length - x.kept = 0 then (x.fl : Int) else (x.l.getD (x.l.length - x.kept - 1) z33).f0
def XS.xo (x : XS) : Int := if x.l.length - x.kept = 0 then x.o else (x.l.getD (x.l.length - x.kept - 1) z33).f1
set_option maxHeartbeats 4000000 in
set_option maxRecDepth 100000 in
theorem xfloor_C {W : World} {base g : Nat} {ok : Nat → Prop} {x : XS} (h : XAt W base ok g x) (hlen : x.l.length ≤ 4294967296) :
    Calls Try.prog 44 #[.pointer (some ⟨g, 0, none⟩)] W fun e w' => e = .returned (.tuple #[.int .i64 x.xfl, .int .i64 x.xo]) ∧ Drawn0 W w' := by
  obtain ⟨h1, h2, h3, A, c, hb, hS⟩ := h
  have c1 : W.cell? ⟨g, 1, none⟩ = some (.int .i64 (x.fl : Int)) := (blk_cell hb 1).trans rfl
  have c2 : W.cell? ⟨g, 2, none⟩ = some (.int .i64 x.o) := (blk_cell hb 2).trans rfl
  have c4 : W.cell? ⟨g, 4, none⟩ = some (.slice A x.l.length c) := (blk_cell hb 4).trans rfl
  have c5 : W.cell? ⟨g, 5, none⟩ = some (.int .i64 (x.kept : Int)) := (blk_cell hb 5).trans rfl
  obtain ⟨q1, q2, q3⟩ := Kd.S_reads' hS
  obtain ⟨n, hn⟩ : ∃ n, x.l.length = n := ⟨_, rfl⟩
  obtain ⟨d, hd⟩ : ∃ d, x.l.length - x.kept = d := ⟨_, rfl⟩
  obtain ⟨kp, hkp⟩ : ∃ kp, x.kept = kp := ⟨_, rfl⟩
  unfold XS.xfl XS.xo
  rw [hd]
  have hs : (n : Int) - (kp : Int) = (d : Int) := by omega
  have hwd : wrap64 (d : Int) = (d : Int) := by unfold wrap64; omega
  rw [hn] at c4 q3
  rw [hkp] at c5
  by_cases h0 : d = 0
  · subst h0
    rw [if_pos rfl, if_pos rfl]
    clear hb hS q1 q2 q3 hn hd hkp h3 hlen
    go_enter Try.func44, Try.ntmps44
    go_wp2
    go_quiet (fail)
    go_wp2
    go_quiet (fail)
    go_wp2
    go_ret2
    exact ⟨rfl, ((Drawn0.refl W).step _).step _⟩
  · rw [if_neg h0, if_neg h0]
    obtain ⟨m, rfl⟩ : ∃ m, d = m + 1 := ⟨d - 1, by omega⟩
    rw [Nat.add_sub_cancel]
    obtain ⟨ad, A5, c6, hA, x0, x1, _⟩ := at_T33 q3 (m : Int) (by omega) (by omega)
    subst hA
    rw [Int.toNat_natCast] at x0 x1
    obtain ⟨y, hy⟩ : ∃ y, y = rd_T33 x.l (m : Int) := ⟨_, rfl⟩
    rw [← hy] at x0 x1
    rw [show x.l.getD m z33 = y by rw [hy]; unfold rd_T33; rw [Int.toNat_natCast]]
    have hm1 : ((m + 1 : Nat) : Int) - 1 = (m : Int) := by omega
    obtain ⟨n1, hn1⟩ : ∃ n1, n1 = m + 1 := ⟨_, rfl⟩
    rw [← hn1] at hm1 hs hwd
    have hmn : m < n := by omega
    have hn0 : ((n1 : Int) == 0) = false := beq_eq_false_iff_ne.mpr (by omega)
    have hn0n : (n1 == 0) = false := beq_eq_false_iff_ne.mpr (by omega)
    have hn2 : n1 ≤ 4294967296 := by omega
    have hwm : wrap64 (m : Int) = (m : Int) := by unfold wrap64; omega
    clear hb hS q1 q2 q3 hn hd hkp h3 hlen hy hn1 h0
    go_enter Try.func44, Try.ntmps44
    go_wp2
    go_quiet (fail)
    go_wp2
    refine start_ (n := 20) (S := fun w' => w'.cell? ⟨g, 4, none⟩ = some (.slice (some ad) n c) ∧ w'.cell? (ad.add (m * 6)) = some (.int .i64 y.f0) ∧ w'.cell? ⟨(ad.add (m * 6)).block, (ad.add (m * 6)).off + 1, none⟩ = some (.int .i64 y.f1)) (ds := []) #[false, false, false, false, false, false, false, false, false, false, false, false, false, false, false, false, false, false, false, false] (by kernel_rfl) rfl rfl ⟨c4, x0, x1⟩ (fun hHeld => ?_)
    refine with_tabW rg44.tab4 rg44.bits4 (fun HT_ HW_ => ?_)
    refine pure_ (i := 0) (N := some 25) (v := ?_) (a' := ?_) #[true, false, false, false, false, false, false, false, false, false, false, false, false, false, false, false, false, false, false, false] rfl rfl (any_of HT_.out (by kernel_rfl)) (fun _ _ _ h => h) (Or.inl ⟨by rfl, ?_⟩) ?_ ?_
    rotate_left
    · intro w'
      go_simp
      with_reducible rfl
    rotate_left
    · simp only [Act.put, List.setIfInBounds_toArray, List.set_cons_zero, List.set_cons_succ, i64_w, i32_w]
      rfl
    refine pure_ (i := 1) (N := some 26) (v := ?_) (a' := ?_) #[true, true, false, false, false, false, false, false, false, false, false, false, false, false, false, false, false, false, false, false] rfl rfl (any_of HT_.out (by kernel_rfl)) (fun _ _ _ h => h) (Or.inl ⟨by rfl, ?_⟩) ?_ ?_
    rotate_left
    · intro w'
      go_simp
      with_reducible rfl
    rotate_left
    · simp only [Act.put, List.setIfInBounds_toArray, List.set_cons_zero, List.set_cons_succ, i64_w, i32_w]
      rfl
    refine pure_ (i := 2) (N := some 27) (v := ?_) (a' := ?_) #[true, true, true, false, false, false, false, false, false, false, false, false, false, false, false, false, false, false, false, false] rfl rfl (any_of HT_.out (by kernel_rfl)) (fun _ _ _ h => h) (Or.inl ⟨by rfl, ?_⟩) ?_ ?_
    rotate_left
    · intro w'
      go_simp
      with_reducible rfl
    rotate_left
    · simp only [Act.put, List.setIfInBounds_toArray, List.set_cons_zero, List.set_cons_succ, i64_w, i32_w]
      rfl
    refine pure_ (i := 4) (N := some 29) (v := ?_) (a' := ?_) #[true, true, true, false, true, false, false, false, false, false, false, false, false, false, false, false, false, false, false, false] rfl rfl (any_of HT_.out (by kernel_rfl)) (fun _ _ _ h => h) (Or.inl ⟨by rfl, ?_⟩) ?_ ?_
    rotate_left
    · intro w'
      go_simp
      with_reducible rfl
    rotate_left
    · simp only [Act.put, List.setIfInBounds_toArray, List.set_cons_zero, List.set_cons_succ, i64_w, i32_w]
      rfl
    refine pure_ (i := 5) (N := some 30) (v := ?_) (a' := ?_) #[true, true, true, false, true, true, false, false, false, false, false, false, false, false, false, false, false, false, false, false] rfl rfl (any_of HT_.out (by kernel_rfl)) (fun _ _ _ h => h) (Or.inl ⟨by rfl, ?_⟩) ?_ ?_
    rotate_left
    · intro w'
      go_simp
      with_reducible rfl
    rotate_left
    · simp only [Act.put, List.setIfInBounds_toArray, List.set_cons_zero, List.set_cons_succ, i64_w, i32_w]
      rfl
    refine pure_ (i := 9) (N := some 34) (v := ?_) (a' := ?_) #[true, true, true, false, true, true, false, false, false, true, false, false, false, false, false, false, false, false, false, false] rfl rfl (any_of HT_.out (by kernel_rfl)) (fun _ _ _ h => h) (Or.inl ⟨by rfl, ?_⟩) ?_ ?_
    rotate_left
    · intro w'
      go_simp
      with_reducible rfl
    rotate_left
    · simp only [Act.put, List.setIfInBounds_toArray, List.set_cons_zero, List.set_cons_succ, i64_w, i32_w]
      rfl
    refine pure_ (i := 10) (N := some 35) (v := ?_) (a' := ?_) #[true, true, true, false, true, true, false, false, false, true, true, false, false, false, false, false, false, false, false, false] rfl rfl (any_of HT_.out (by kernel_rfl)) (fun _ _ _ h => h) (Or.inl ⟨by rfl, ?_⟩) ?_ ?_
    rotate_left
    · intro w'
      go_simp
      with_reducible rfl
    rotate_left
    · simp only [Act.put, List.setIfInBounds_toArray, List.set_cons_zero, List.set_cons_succ, i64_w, i32_w]
      rfl
    refine pure_ (i := 11) (N := some 36) (v := ?_) (a' := ?_) #[true, true, true, false, true, true, false, false, false, true, true, true, false, false, false, false, false, false, false, false] rfl rfl (any_of HT_.out (by kernel_rfl)) (fun _ _ _ h => h) (Or.inl ⟨by rfl, ?_⟩) ?_ ?_
    rotate_left
    · intro w'
      go_simp
      with_reducible rfl
    rotate_left
    · simp only [Act.put, List.setIfInBounds_toArray, List.set_cons_zero, List.set_cons_succ, i64_w, i32_w]
      rfl
    refine pure_ (i := 13) (N := some 38) (v := ?_) (a' := ?_) #[true, true, true, false, true, true, false, false, false, true, true, true, false, true, false, false, false, false, false, false] rfl rfl (any_of HT_.out (by kernel_rfl)) (fun _ _ _ h => h) (Or.inl ⟨by rfl, ?_⟩) ?_ ?_
    rotate_left
    · intro w'
      go_simp
      with_reducible rfl
    rotate_left
    · simp only [Act.put, List.setIfInBounds_toArray, List.set_cons_zero, List.set_cons_succ, i64_w, i32_w]
      rfl
    refine pure_ (i := 14) (N := some 39) (v := ?_) (a' := ?_) #[true, true, true, false, true, true, false, false, false, true, true, true, false, true, true, false, false, false, false, false] rfl rfl (any_of HT_.out (by kernel_rfl)) (fun _ _ _ h => h) (Or.inl ⟨by rfl, ?_⟩) ?_ ?_
    rotate_left
    · intro w'
      go_simp
      with_reducible rfl
    rotate_left
    · simp only [Act.put, List.setIfInBounds_toArray, List.set_cons_zero, List.set_cons_succ, i64_w, i32_w]
      rfl
    refine take_ (i := 3) (N := some 28) (v := ?_) (a' := ?_) #[true, true, true, true, true, true, false, false, false, true, true, true, false, true, true, false, false, false, false, false] rfl rfl (take_ofW HT_.out HW_.out (by kernel_rfl)) (fun _ _ _ h => h) (Or.inl ⟨by rfl, ?_⟩) hHeld ?_ ?_
    rotate_left
    · rintro w' ⟨s0, s1, s2⟩
      go_simp
      with_reducible rfl
    rotate_left
    · simp only [Act.put, List.setIfInBounds_toArray, List.set_cons_zero, List.set_cons_succ, i64_w, i32_w]
      rfl
    refine pure_ (i := 6) (N := some 31) (v := ?_) (a' := ?_) #[true, true, true, true, true, true, true, false, false, true, true, true, false, true, true, false, false, false, false, false] rfl rfl (any_of HT_.out (by kernel_rfl)) (fun _ _ _ h => h) (Or.inl ⟨by rfl, ?_⟩) ?_ ?_
    rotate_left
    · intro w'
      go_simp
      with_reducible rfl
    rotate_left
    · simp only [Act.put, List.setIfInBounds_toArray, List.set_cons_zero, List.set_cons_succ, i64_w, i32_w]
      rfl
    refine pure_ (i := 7) (N := some 32) (v := ?_) (a' := ?_) #[true, true, true, true, true, true, true, true, false, true, true, true, false, true, true, false, false, false, false, false] rfl rfl (any_of HT_.out (by kernel_rfl)) (fun _ _ _ h => h) (Or.inl ⟨by rfl, ?_⟩) ?_ ?_
    rotate_left
    · intro w'
      go_simp
      with_reducible rfl
    rotate_left
    · simp only [Act.put, List.setIfInBounds_toArray, List.set_cons_zero, List.set_cons_succ, i64_w, i32_w]
      rfl
    refine take_ (i := 8) (N := some 33) (v := ?_) (a' := ?_) #[true, true, true, true, true, true, true, true, true, true, true, true, false, true, true, false, false, false, false, false] rfl rfl (take_ofW HT_.out HW_.out (by kernel_rfl)) (fun _ _ _ h => h) (Or.inl ⟨by rfl, ?_⟩) hHeld ?_ ?_
    rotate_left
    · rintro w' ⟨s0, s1, s2⟩
      go_simp
      with_reducible rfl
    rotate_left
    · simp only [Act.put, List.setIfInBounds_toArray, List.set_cons_zero, List.set_cons_succ, i64_w, i32_w]
      rfl
    refine pure_ (i := 18) (N := some 2) (v := ?_) (a' := ?_) #[true, true, true, true, true, true, true, true, true, true, true, true, false, true, true, false, false, false, true, false] rfl rfl (any_of HT_.out (by kernel_rfl)) (fun _ _ _ h => h) (Or.inl ⟨by rfl, ?_⟩) ?_ ?_
    rotate_left
    · intro w'
      go_simp
      with_reducible rfl
    rotate_left
    · simp only [Act.put, List.setIfInBounds_toArray, List.set_cons_zero, List.set_cons_succ, i64_w, i32_w]
      rfl
    refine take_ (i := 12) (N := some 37) (v := ?_) (a' := ?_) #[true, true, true, true, true, true, true, true, true, true, true, true, true, true, true, false, false, false, true, false] rfl rfl (take_ofW HT_.out HW_.out (by kernel_rfl)) (fun _ _ _ h => h) (Or.inl ⟨by rfl, ?_⟩) hHeld ?_ ?_
    rotate_left
    · rintro w' ⟨s0, s1, s2⟩
      go_simp
      with_reducible rfl
    rotate_left
    · simp only [Act.put, List.setIfInBounds_toArray, List.set_cons_zero, List.set_cons_succ, i64_w, i32_w]
      rfl
    refine pure_ (i := 15) (N := some 40) (v := ?_) (a' := ?_) #[true, true, true, true, true, true, true, true, true, true, true, true, true, true, true, true, false, false, true, false] rfl rfl (any_of HT_.out (by kernel_rfl)) (fun _ _ _ h => h) (Or.inl ⟨by rfl, ?_⟩) ?_ ?_
    rotate_left
    · intro w'
      go_simp
      with_reducible rfl
    rotate_left
    · simp only [Act.put, List.setIfInBounds_toArray, List.set_cons_zero, List.set_cons_succ, i64_w, i32_w]
      rfl
    refine pure_ (i := 16) (N := some 41) (v := ?_) (a' := ?_) #[true, true, true, true, true, true, true, true, true, true, true, true, true, true, true, true, true, false, true, false] rfl rfl (any_of HT_.out (by kernel_rfl)) (fun _ _ _ h => h) (Or.inl ⟨by rfl, ?_⟩) ?_ ?_
    rotate_left
    · intro w'
      go_simp
      with_reducible rfl
    rotate_left
    · simp only [Act.put, List.setIfInBounds_toArray, List.set_cons_zero, List.set_cons_succ, i64_w, i32_w]
      rfl
    refine take_ (i := 17) (N := some 42) (v := ?_) (a' := ?_) #[true, true, true, true, true, true, true, true, true, true, true, true, true, true, true, true, true, true, true, false] rfl rfl (take_ofW HT_.out HW_.out (by kernel_rfl)) (fun _ _ _ h => h) (Or.inl ⟨by rfl, ?_⟩) hHeld ?_ ?_
    rotate_left
    · rintro w' ⟨s0, s1, s2⟩
      go_simp
      with_reducible rfl
    rotate_left
    · simp only [Act.put, List.setIfInBounds_toArray, List.set_cons_zero, List.set_cons_succ, i64_w, i32_w]
      rfl
    refine pure_ (i := 19) (N := some 3) (v := ?_) (a' := ?_) #[true, true, true, true, true, true, true, true, true, true, true, true, true, true, true, true, true, true, true, true] rfl rfl (any_of HT_.out (by kernel_rfl)) (fun _ _ _ h => h) (Or.inl ⟨by rfl, ?_⟩) ?_ ?_
    rotate_left
    · intro w'
      go_simp
      with_reducible rfl
    rotate_left
    · simp only [Act.put, List.setIfInBounds_toArray, List.set_cons_zero, List.set_cons_succ, i64_w, i32_w]
      rfl
    refine done_ (done_of HT_.out (by kernel_rfl)) ?_
    go_wp2
    go_ret2
    exact ⟨rfl, ((Drawn0.refl W).step _).step 1⟩
end Go.Proofs.Ytcbejpmmlcdhnaa.PW
namespace Go.Proofs.Ytcbejpmmlcdhnaa.PW
open Go.RowKit Go.Proofs.YtcbejpmmlcdhnaaW.PrintWords Go.Proofs.YtcbejpmmlcdhnaaW.PrintLast Go.Proofs.YtcbejpmmlcdhnaaW.PrintMore
set_option linter.unusedVariables false
set_option linter.unusedSimpArgs false

theorem XAt_step {W W' : World} {base g : Nat} {ok : Nat → Prop} {x : XS} (h : XAt W base ok g x) (hm : ∀ k, ok k → k < W.heap.size → W'.heap[k]? = W.heap[k]?) : XAt W' base ok g x := by
  obtain ⟨h1, h2, h3, A, c, hb, hS⟩ := h
  exact ⟨h1, h2, h3, A, c, (hm g h2 (blk_lt hb)).trans hb, Kd.S_step hS (fun j hj hlt => hm j hj.1 hlt)⟩
theorem XAt_below {W W' : World} {base g : Nat} {ok : Nat → Prop} {x : XS} (h : XAt W base ok g x) (hf : Below W.heap.size W W') : XAt W' base ok g x := XAt_step h (fun k _ hlt => hf.block k hlt)
theorem XAt_frm {W W' : World} {base g : Nat} {ok S : Nat → Prop} {x : XS} (h : XAt W base ok g x) (hf : Frm W W' S) (hn : ∀ k, ok k → ¬ S k) : XAt W' base ok g x := XAt_step h (fun k hk hlt => hf.block k hlt (hn k hk))
theorem XAt_lt {W : World} {base g : Nat} {ok : Nat → Prop} {x : XS} (h : XAt W base ok g x) : g < W.heap.size := by
  obtain ⟨h1, h2, h3, A, c, hb, hS⟩ := h
  exact blk_lt hb
theorem XAt_hold {W : World} {base g : Nat} {ok : Nat → Prop} {x : XS} (h : XAt W base ok g x) (n : Nat) : XAt (W.setCell ⟨g, 3, none⟩ (.int .i64 (n : Int))) base ok g { x with ho := n } := by
  obtain ⟨h1, h2, h3, A, c, hb, hS⟩ := h
  refine ⟨h1, h2, h3, A, c, ?_, Kd.S_step hS (fun j hj _ => Below.heap_setCell W _ _ j hj.2)⟩
  simpa using blk_set hb 3 (.int .i64 (n : Int))
theorem xheld_C {W : World} {base g : Nat} {ok : Nat → Prop} {x : XS} (h : XAt W base ok g x) :
    Calls Try.prog 46 #[.pointer (some ⟨g, 0, none⟩)] W fun e w' => e = .returned (.int .i64 (x.ho : Int)) ∧ w' = W := by
  obtain ⟨h1, h2, h3, A, c, hb, hS⟩ := h
  have c3 : W.cell? ⟨g, 3, none⟩ = some (.int .i64 (x.ho : Int)) := (blk_cell hb 3).trans rfl
  clear hb hS h1 h2 h3
  go_enter Try.func46, Try.ntmps46
  go_wp2
  go_ret
  exact ⟨rfl, rfl⟩
def XS.hold (x : XS) (n : Int) : XS := if btw x.ho x.la n = 0 then { x with ho := n.toNat } else x
set_option maxHeartbeats 4000000 in
set_option maxRecDepth 100000 in
theorem xhold_C {W : World} {base g : Nat} {ok : Nat → Prop} {x : XS} (h : XAt W base ok g x) (hlen : x.l.length ≤ 4294967296) (n : Int) :
    Calls Try.prog 47 #[.pointer (some ⟨g, 0, none⟩), .int .i64 n] W fun e w' => e = .returned (.int .i64 (btw x.ho x.la n)) ∧ XAt w' base ok g (x.hold n) ∧ Frm W w' (fun k => k = g) := by
  have H := Aside0.mk h
  have HL := Aside0.mk hlen
  have hg : ∃ C, W.heap[g]? = some (.cells C 68 (0, 0)) ∧ C[3]? = some (.int .i64 (x.ho : Int)) := by obtain ⟨h1, h2, h3, A, c, hb, hS⟩ := h; exact ⟨_, hb, rfl⟩
  obtain ⟨C, hb, hC⟩ := hg
  clear h hlen
  obtain ⟨la, hla⟩ : ∃ la, la = x.la := ⟨_, rfl⟩
  unfold XS.hold
  rw [← hla]
  have HLA := Aside0.mk hla
  have c3 : W.cell? ⟨g, 3, none⟩ = some (.int .i64 (x.ho : Int)) := (blk_cell hb 3).trans hC
  have z3 : W.frozen? ⟨g, 3, none⟩ = false := blk_frozen hb 3
  clear hb hC hla
  by_cases hlt : n < (x.ho : Int)
  · have hd : decide (n < (x.ho : Int)) = true := decide_eq_true hlt
    have e1 : btw x.ho la n = 63 := if_pos hlt
    rw [e1]
    clear hlt e1
    go_enter Try.func47, Try.ntmps47
    go_wp2_with fail
    refine (xlast_C H.out HL.out).mono ?_
    rintro e w1 ⟨rfl, ⟨⟨n1, rfl⟩⟩⟩
    go_wp2
    go_ret
    exact ⟨rfl, XAt_below H.out (pw_below_drewN (Below.refl _ _) _), (Frm.refl _ _).drewN _⟩
  · have hd : decide (n < (x.ho : Int)) = false := decide_eq_false hlt
    by_cases hgt : la < n
    · have hd2 : decide (la < n) = true := decide_eq_true hgt
      have e1 : btw x.ho la n = 61 := by unfold btw; rw [if_neg hlt, if_pos hgt]
      rw [e1]
      clear hlt hgt e1
      go_enter Try.func47, Try.ntmps47
      go_wp2_with fail
      refine (xlast_C H.out HL.out).mono ?_
      rintro e w1 ⟨rfl, ⟨⟨n1, rfl⟩⟩⟩
      rw [← HLA.out]
      go_wp2
      go_ret
      exact ⟨rfl, XAt_below H.out (pw_below_drewN (Below.refl _ _) _), (Frm.refl _ _).drewN _⟩
    · have hd2 : decide (la < n) = false := decide_eq_false hgt
      have e1 : btw x.ho la n = 0 := by unfold btw; rw [if_neg hlt, if_neg hgt]
      rw [e1, if_pos rfl]
      obtain ⟨m, rfl⟩ : ∃ m : Nat, n = m := ⟨n.toNat, by omega⟩
      rw [Int.toNat_natCast]
      have hdn : decide (m < x.ho) = false := decide_eq_false (by omega)
      clear hlt hgt e1
      go_enter Try.func47, Try.ntmps47
      go_wp2_with fail
      refine (xlast_C H.out HL.out).mono ?_
      rintro e w1 ⟨rfl, ⟨⟨n1, rfl⟩⟩⟩
      rw [← HLA.out]
      go_wp2
      go_ret
      exact ⟨rfl, XAt_hold (XAt_below H.out (pw_below_drewN (Below.refl _ _) _)) m, Frm.set_ (p := ⟨g, 3, none⟩) ((Frm.refl W (fun k => k = g)).drewN n1) (.inl rfl) _⟩
end Go.Proofs.Ytcbejpmmlcdhnaa.PW
namespace Go.Proofs.Ytcbejpmmlcdhnaa.PW
open Go.RowKit Go.Proofs.YtcbejpmmlcdhnaaW.PrintWords Go.Proofs.YtcbejpmmlcdhnaaW.PrintLast Go.Proofs.YtcbejpmmlcdhnaaW.PrintMore
set_option linter.unusedVariables false
set_option linter.unusedSimpArgs false

def XS.new (room fl : Nat) (o : Int) : XS := ⟨room, fl, o, fl, [], 0⟩
theorem xnew_room (room fl o : Int) (w : World) (h : room < 1 ∨ 64 < room) : Calls Try.prog 25 #[.int .i64 room, .int .i64 fl, .int .i64 o] w fun e w' => e = .returned (.tuple #[.pointer none, .int .i64 1]) ∧ w' = w := by
  by_cases h1 : room < 1
  · have hd : decide (room < 1) = true := decide_eq_true h1
    clear h
    go_enter Try.func25, Try.ntmps25
    go_wp2
    go_ret2
    exact ⟨rfl, rfl⟩
  · have hd : decide (room < 1) = false := decide_eq_false h1
    have h2 : 64 < room := by omega
    have hd2 : decide (64 < room) = true := decide_eq_true h2
    clear h
    go_enter Try.func25, Try.ntmps25
    go_wp2
    go_ret2
    exact ⟨rfl, rfl⟩
set_option maxHeartbeats 4000000 in
set_option maxRecDepth 100000 in
theorem xnew_C (room fl : Nat) (o : Int) (w : World) (h1 : 1 ≤ room) (h2 : room ≤ 64) (hf : fl ≤ 2147483647) (ho : isB o = true) {base : Nat} {ok : Nat → Prop} (hbase : base ≤ w.heap.size) (hok : ok w.heap.size) :
    Calls Try.prog 25 #[.int .i64 (room : Int), .int .i64 (fl : Int), .int .i64 o] w fun e w' => e = .returned (.tuple #[.pointer (some ⟨w.heap.size, 0, none⟩), .int .i64 0]) ∧ XAt w' base ok w.heap.size (XS.new room fl o) ∧ Below w.heap.size w w' := by
  have hoo : 0 ≤ o ∧ o ≤ 2147483647 := of_decide_eq_true ho
  obtain ⟨o1, o2⟩ := hoo
  have HB := Aside0.mk hbase
  have HOK := Aside0.mk hok
  clear ho hbase hok
  go_enter Try.func25, Try.ntmps25
  go_wp2
  go_ret2
  exact ⟨rfl, ⟨HB.out, HOK.out, Nat.le_refl _, none, 0, heap_alloc_new w _, Kd.S_nil _ _ _ _ _⟩, below_alloc (Below.refl _ _) _⟩
/-- New refuses: a number out of range. -/
theorem xnew_num (room fl o : Int) (w : World) (h1 : 1 ≤ room) (h2 : room ≤ 64) (hf : (isB fl && isB o) = false) : Calls Try.prog 25 #[.int .i64 room, .int .i64 fl, .int .i64 o] w fun e w' => e = .returned (.tuple #[.pointer none, .int .i64 3]) ∧ w' = w := by
  have hc : fl < 0 ∨ (0 ≤ fl ∧ 2147483647 < fl) ∨ (0 ≤ fl ∧ fl ≤ 2147483647 ∧ o < 0) ∨ (0 ≤ fl ∧ fl ≤ 2147483647 ∧ 0 ≤ o ∧ 2147483647 < o) := by
    by_cases g1 : 0 ≤ fl ∧ fl ≤ 2147483647
    · by_cases g2 : 0 ≤ o ∧ o ≤ 2147483647
      · rw [show isB fl = true from decide_eq_true g1, show isB o = true from decide_eq_true g2] at hf
        cases hf
      · omega
    · omega
  clear hf
  rcases hc with h | ⟨h, h3⟩ | ⟨h, h3, h4⟩ | ⟨h, h3, h4, h5⟩
  all_goals
    go_enter Try.func25, Try.ntmps25
    go_wp2
    go_ret2
    exact ⟨rfl, rfl⟩
end Go.Proofs.Ytcbejpmmlcdhnaa.PW
namespace Go.Proofs.Ytcbejpmmlcdhnaa.PW
open Go.RowKit Go.Proofs.YtcbejpmmlcdhnaaW.PrintWords Go.Proofs.YtcbejpmmlcdhnaaW.PrintLast Go.Proofs.YtcbejpmmlcdhnaaW.PrintMore
set_option linter.unusedVariables false
set_option linter.unusedSimpArgs false
def rg48.T7 : Bool × List (List Nat × List Nat) := (true, [([], []), ([], []), ([1], [1]), ([2], [2]), ([3], [3]), ([], []), ([5], [5]), ([6], [6]), ([7], [7]), ([8], [8]), ([], []), ([9, 10], [9, 10]), ([4, 11], [4, 11]), ([0, 0, 1, 2, 3, 4, 5, 6, 7, 8, 9, 10, 11, 12], [0]), ([13, 0, 1, 2, 3, 4, 5, 6, 7, 8, 9, 10, 11, 12], [13]), ([14, 12, 0, 1, 2, 3, 4, 5, 6, 7, 8, 9, 10, 11, 12], [12, 14])])
def rg48.B7 : List Nat := [0, 0, 2, 6, 14, 0, 32, 96, 224, 480, 0, 2016, 4094, 8191, 16383, 32767]
theorem rg48.tab7 : rtab .any (opsOf Try.f48 7) = rg48.T7 := by kernel_rfl
theorem rg48.bits7 : waitsOk rg48.T7.2 rg48.B7 = true := by kernel_rfl

theorem size25 : (Try.prog.info? 25).map (·.size) = some 1 := by kernel_rfl
def XS.cut (x : XS) (n : Int) : XS := if btw x.ho x.la n = 0 then { x with l := x.l.take (x.l.length - (x.la - n).toNat), kept := x.kept - (x.la - n).toNat } else x
set_option maxHeartbeats 8000000 in
set_option maxRecDepth 100000 in
theorem xcut_C {W : World} {base g : Nat} {ok : Nat → Prop} {x : XS} (h : XAt W base ok g x) (hlen : x.l.length ≤ 4294967296) (n : Int) (hkept : btw x.ho x.la n = 0 → (x.la - n).toNat ≤ x.kept) :
    Calls Try.prog 48 #[.pointer (some ⟨g, 0, none⟩), .int .i64 n] W fun e w' => e = .returned (.int .i64 (btw x.ho x.la n)) ∧ XAt w' base ok g (x.cut n) ∧ Frm W w' (fun k => k = g) := by
  have H := Aside0.mk h
  have HL := Aside0.mk hlen
  obtain ⟨k1, k2, k3, A, c, hb, hS⟩ := h
  have HH := Aside0.mk (And.intro k1 (And.intro k2 k3))
  have HB := Aside0.mk hb
  have HS := Aside0.mk hS
  obtain ⟨la, hla⟩ : ∃ la, la = x.la := ⟨_, rfl⟩
  unfold XS.cut
  rw [← hla] at hkept ⊢
  have HLA := Aside0.mk hla
  have c3 : W.cell? ⟨g, 3, none⟩ = some (.int .i64 (x.ho : Int)) := (blk_cell hb 3).trans rfl
  have c4 : W.cell? ⟨g, 4, none⟩ = some (.slice A x.l.length c) := (blk_cell hb 4).trans rfl
  have c5 : W.cell? ⟨g, 5, none⟩ = some (.int .i64 (x.kept : Int)) := (blk_cell hb 5).trans rfl
  have z4 : W.frozen? ⟨g, 4, none⟩ = false := blk_frozen hb 4
  have z5 : W.frozen? ⟨g, 5, none⟩ = false := blk_frozen hb 5
  have hlc : x.l.length ≤ c := (Kd.S_reads' hS).2.1
  clear hb hla hS k1 k2
  by_cases hlt : n < (x.ho : Int)
  · have hd : decide (n < (x.ho : Int)) = true := decide_eq_true hlt
    have e1 : btw x.ho la n = 63 := if_pos hlt
    rw [e1]
    clear hlt e1 hkept hlen hlc k3
    go_enter Try.func48, Try.ntmps48
    go_wp2_with fail
    refine (xlast_C H.out HL.out).mono ?_
    rintro e w1 ⟨rfl, ⟨⟨n1, rfl⟩⟩⟩
    go_wp2
    go_ret
    exact ⟨rfl, XAt_below H.out (pw_below_drewN (Below.refl _ _) _), (Frm.refl _ _).drewN _⟩
  · have hd : decide (n < (x.ho : Int)) = false := decide_eq_false hlt
    by_cases hgt : la < n
    · have hd2 : decide (la < n) = true := decide_eq_true hgt
      have e1 : btw x.ho la n = 61 := by unfold btw; rw [if_neg hlt, if_pos hgt]
      rw [e1]
      clear hlt hgt e1 hkept hlen hlc k3
      go_enter Try.func48, Try.ntmps48
      go_wp2_with fail
      refine (xlast_C H.out HL.out).mono ?_
      rintro e w1 ⟨rfl, ⟨⟨n1, rfl⟩⟩⟩
      rw [← HLA.out]
      go_wp2
      go_ret
      exact ⟨rfl, XAt_below H.out (pw_below_drewN (Below.refl _ _) _), (Frm.refl _ _).drewN _⟩
    · have hd2 : decide (la < n) = false := decide_eq_false hgt
      have e1 : btw x.ho la n = 0 := by unfold btw; rw [if_neg hlt, if_neg hgt]
      rw [e1] at hkept ⊢
      rw [if_pos rfl]
      have hk := hkept rfl
      obtain ⟨d, hdd⟩ : ∃ d, (la - n).toNat = d := ⟨_, rfl⟩
      rw [hdd] at hk ⊢
      have hs : wrap64 (la - n) = (d : Int) := by unfold wrap64; omega
      obtain ⟨q, hq⟩ : ∃ q, x.l.length - d = q := ⟨_, rfl⟩
      obtain ⟨kp, hkp⟩ : ∃ kp, x.kept - d = kp := ⟨_, rfl⟩
      rw [hq, hkp]
      obtain ⟨N, hN⟩ : ∃ N, x.l.length = N := ⟨_, rfl⟩
      rw [hN] at c4 hlc hq
      have hs2 : wrap64 ((N : Int) - (d : Int)) = (q : Int) := by unfold wrap64; omega
      have hs3 : wrap64 ((x.kept : Int) - (d : Int)) = (kp : Int) := by unfold wrap64; omega
      obtain ⟨y0, he0⟩ : ∃ y0 : Int, y0 = (d : Int) := ⟨_, rfl⟩
      obtain ⟨y1, he1⟩ : ∃ y1 : Int, y1 = (q : Int) := ⟨_, rfl⟩
      obtain ⟨y2, he2⟩ : ∃ y2 : Int, y2 = (kp : Int) := ⟨_, rfl⟩
      rw [← he0] at hs hs2 hs3
      rw [← he1] at hs2
      rw [← he2] at hs3
      have hcut : ∀ W, (Instr.slice 25 (.slice A N c) none (some (.int .i64 y1)) none).run Try.prog W = .ok (.slice A q c) W := by
        intro W
        rw [he1]
        obtain ⟨i0, hi0, hz⟩ := Option.map_eq_some_iff.1 info33
        have := cut_to (P := Try.prog) 25 33 .i64 Try.underlying25 hi0 A N c (q : Int) (by omega) (by omega) (by omega) W
        rw [Int.toNat_natCast] at this
        exact this
      have HE2 := Aside0.mk he2
      clear he0 he1 he2
      have HN := Aside0.mk hN
      have HQ := Aside0.mk (show q ≤ N by omega)
      have HKQ := Aside0.mk (show kp ≤ q by omega)
      have hb0 := Aside0.mk HB.out
      clear hlt hgt e1 hkept hlen hlc k3 hdd hq hkp hN hk
      go_enter Try.func48, Try.ntmps48
      go_wp2_with fail
      refine (xlast_C H.out HL.out).mono ?_
      rintro e w1 ⟨rfl, ⟨⟨n1, rfl⟩⟩⟩
      rw [← HLA.out]
      go_wp2
      refine start_ (n := 16) (S := fun w' => w'.cell? ⟨g, 4, none⟩ = some (.slice A N c)) (ds := [15]) #[false, false, false, false, false, false, false, false, false, false, false, false, false, false, false, false] (by kernel_rfl) rfl rfl (c4) (fun hHeld => ?_)
      refine with_tabW rg48.tab7 rg48.bits7 (fun HT_ HW_ => ?_)
      refine pure_ (i := 0) (N := some 25) (v := ?_) (a' := ?_) #[true, false, false, false, false, false, false, false, false, false, false, false, false, false, false, false] rfl rfl (any_of HT_.out (by kernel_rfl)) (fun _ _ _ h => h) (Or.inl ⟨by rfl, ?_⟩) ?_ ?_
      rotate_left
      · intro w'
        go_simp
        with_reducible rfl
      rotate_left
      · simp only [Act.put, List.setIfInBounds_toArray, List.set_cons_zero, List.set_cons_succ, i64_w, i32_w]
        rfl
      refine pure_ (i := 1) (N := some 26) (v := ?_) (a' := ?_) #[true, true, false, false, false, false, false, false, false, false, false, false, false, false, false, false] rfl rfl (any_of HT_.out (by kernel_rfl)) (fun _ _ _ h => h) (Or.inl ⟨by rfl, ?_⟩) ?_ ?_
      rotate_left
      · intro w'
        go_simp
        with_reducible rfl
      rotate_left
      · simp only [Act.put, List.setIfInBounds_toArray, List.set_cons_zero, List.set_cons_succ, i64_w, i32_w]
        rfl
      refine pure_ (i := 2) (N := some 27) (v := ?_) (a' := ?_) #[true, true, true, false, false, false, false, false, false, false, false, false, false, false, false, false] rfl rfl (any_of HT_.out (by kernel_rfl)) (fun _ _ _ h => h) (Or.inl ⟨by rfl, ?_⟩) ?_ ?_
      rotate_left
      · intro w'
        go_simp
        with_reducible rfl
      rotate_left
      · simp only [Act.put, List.setIfInBounds_toArray, List.set_cons_zero, List.set_cons_succ, i64_w, i32_w]
        rfl
      refine pure_ (i := 3) (N := some 28) (v := ?_) (a' := ?_) #[true, true, true, true, false, false, false, false, false, false, false, false, false, false, false, false] rfl rfl (any_of HT_.out (by kernel_rfl)) (fun _ _ _ h => h) (Or.inl ⟨by rfl, ?_⟩) ?_ ?_
      rotate_left
      · intro w'
        go_simp
        with_reducible rfl
      rotate_left
      · simp only [Act.put, List.setIfInBounds_toArray, List.set_cons_zero, List.set_cons_succ, i64_w, i32_w]
        rfl
      refine pure_ (i := 5) (N := some 30) (v := ?_) (a' := ?_) #[true, true, true, true, false, true, false, false, false, false, false, false, false, false, false, false] rfl rfl (any_of HT_.out (by kernel_rfl)) (fun _ _ _ h => h) (Or.inl ⟨by rfl, ?_⟩) ?_ ?_
      rotate_left
      · intro w'
        go_simp
        with_reducible rfl
      rotate_left
      · simp only [Act.put, List.setIfInBounds_toArray, List.set_cons_zero, List.set_cons_succ, i64_w, i32_w]
        rfl
      refine pure_ (i := 6) (N := some 31) (v := ?_) (a' := ?_) #[true, true, true, true, false, true, true, false, false, false, false, false, false, false, false, false] rfl rfl (any_of HT_.out (by kernel_rfl)) (fun _ _ _ h => h) (Or.inl ⟨by rfl, ?_⟩) ?_ ?_
      rotate_left
      · intro w'
        go_simp
        with_reducible rfl
      rotate_left
      · simp only [Act.put, List.setIfInBounds_toArray, List.set_cons_zero, List.set_cons_succ, i64_w, i32_w]
        rfl
      refine pure_ (i := 7) (N := some 32) (v := ?_) (a' := ?_) #[true, true, true, true, false, true, true, true, false, false, false, false, false, false, false, false] rfl rfl (any_of HT_.out (by kernel_rfl)) (fun _ _ _ h => h) (Or.inl ⟨by rfl, ?_⟩) ?_ ?_
      rotate_left
      · intro w'
        go_simp
        with_reducible rfl
      rotate_left
      · simp only [Act.put, List.setIfInBounds_toArray, List.set_cons_zero, List.set_cons_succ, i64_w, i32_w]
        rfl
      refine pure_ (i := 10) (N := some 35) (v := ?_) (a' := ?_) #[true, true, true, true, false, true, true, true, false, false, true, false, false, false, false, false] rfl rfl (any_of HT_.out (by kernel_rfl)) (fun _ _ _ h => h) (Or.inl ⟨by rfl, ?_⟩) ?_ ?_
      rotate_left
      · intro w'
        go_simp
        with_reducible rfl
      rotate_left
      · simp only [Act.put, List.setIfInBounds_toArray, List.set_cons_zero, List.set_cons_succ, i64_w, i32_w]
        rfl
      refine take_ (i := 4) (N := some 29) (v := ?_) (a' := ?_) #[true, true, true, true, true, true, true, true, false, false, true, false, false, false, false, false] rfl rfl (take_ofW HT_.out HW_.out (by kernel_rfl)) (fun _ _ _ h => h) (Or.inl ⟨by rfl, ?_⟩) hHeld ?_ ?_
      rotate_left
      · intro w' s0
        go_simp
        with_reducible rfl
      rotate_left
      · simp only [Act.put, List.setIfInBounds_toArray, List.set_cons_zero, List.set_cons_succ, i64_w, i32_w]
        rfl
      refine take_ (i := 8) (N := some 33) (v := ?_) (a' := ?_) #[true, true, true, true, true, true, true, true, true, false, true, false, false, false, false, false] rfl rfl (take_ofW HT_.out HW_.out (by kernel_rfl)) (fun _ _ _ h => h) (Or.inl ⟨by rfl, ?_⟩) hHeld ?_ ?_
      rotate_left
      · intro w' s0
        go_simp
        with_reducible rfl
      rotate_left
      · simp only [Act.put, List.setIfInBounds_toArray, List.set_cons_zero, List.set_cons_succ, i64_w, i32_w]
        rfl
      refine pure_ (i := 9) (N := some 34) (v := ?_) (a' := ?_) #[true, true, true, true, true, true, true, true, true, true, true, false, false, false, false, false] rfl rfl (any_of HT_.out (by kernel_rfl)) (fun _ _ _ h => h) (Or.inl ⟨by rfl, ?_⟩) ?_ ?_
      rotate_left
      · intro w'
        go_simp
        with_reducible rfl
      rotate_left
      · simp only [Act.put, List.setIfInBounds_toArray, List.set_cons_zero, List.set_cons_succ, i64_w, i32_w]
        rfl
      refine pure_ (i := 11) (N := some 36) (v := ?_) (a' := ?_) #[true, true, true, true, true, true, true, true, true, true, true, true, false, false, false, false] rfl rfl (any_of HT_.out (by kernel_rfl)) (fun _ _ _ h => h) (Or.inl ⟨by rfl, ?_⟩) ?_ ?_
      rotate_left
      · intro w'
        go_simp
        with_reducible rfl
      rotate_left
      · simp only [Act.put, List.setIfInBounds_toArray, List.set_cons_zero, List.set_cons_succ, i64_w, i32_w]
        rfl
      refine pure_ (i := 12) (N := some 37) (v := ?_) (a' := ?_) #[true, true, true, true, true, true, true, true, true, true, true, true, true, false, false, false] rfl rfl (any_of HT_.out (by kernel_rfl)) (fun _ _ _ h => h) (Or.inl ⟨by rfl, ?_⟩) ?_ ?_
      rotate_left
      · intro w'
        go_simp
        with_reducible rfl
      rotate_left
      · simp only [Act.put, List.setIfInBounds_toArray, List.set_cons_zero, List.set_cons_succ, i64_w, i32_w]
        rfl
      refine pure_ (i := 13) (N := some 38) (v := ?_) (a' := ?_) #[true, true, true, true, true, true, true, true, true, true, true, true, true, true, false, false] rfl rfl (any_of HT_.out (by kernel_rfl)) (fun _ _ _ h => h) (Or.inl ⟨by rfl, ?_⟩) ?_ ?_
      rotate_left
      · intro w'
        go_simp
        with_reducible rfl
      rotate_left
      · simp only [Act.put, List.setIfInBounds_toArray, List.set_cons_zero, List.set_cons_succ, i64_w, i32_w]
        rfl
      refine pure_ (i := 14) (N := some 39) (v := ?_) (a' := ?_) #[true, true, true, true, true, true, true, true, true, true, true, true, true, true, true, false] rfl rfl (any_of HT_.out (by kernel_rfl)) (fun _ _ _ h => h) (Or.inl ⟨by rfl, ?_⟩) ?_ ?_
      rotate_left
      · intro w'
        go_simp
        with_reducible rfl
      rotate_left
      · simp only [Act.put, List.setIfInBounds_toArray, List.set_cons_zero, List.set_cons_succ, i64_w, i32_w]
        rfl
      refine last_ (i := 15) (N := none) #[true, true, true, true, true, true, true, true, true, true, true, true, true, true, true, true] rfl rfl (one_of HT_.out (by kernel_rfl)) (by decide) (fun K hK => ?_)
      refine skip_store (by rfl) rfl 25 (.tmp 39) (.tmp 37) rfl (.slice A q c) [.slice A q c] rfl rfl HB.out rfl size25 (by show 4 + 1 ≤ 6; omega) (by simp [Value.oneCell']) ?_
      refine hK.out _ _ ?_
      clear hK K
      refine done_ (done_of HT_.out (by kernel_rfl)) ?_
      have hB1 : (((W.drewN n1).drew).setCell ⟨g, 4, none⟩ (.slice A q c)).heap[g]? = some (.cells #[.int .i64 (x.room : Int), .int .i64 (x.fl : Int), .int .i64 x.o, .int .i64 (x.ho : Int), .slice A q c, .int .i64 (x.kept : Int)] 68 (0, 0)) := blk_set (w := (W.drewN n1).drew) HB.out 4 (.slice A q c)
      have hF1 : Frm W (((W.drewN n1).drew).setCell ⟨g, 4, none⟩ (.slice A q c)) (fun k => k = g) := Frm.set_ (p := ⟨g, 4, none⟩) (((Frm.refl W (fun k => k = g)).drewN n1).drew) (.inl rfl) _
      rw [show ((W.drewN n1).drew).setCells g 4 [.slice A q c] = ((W.drewN n1).drew).setCell ⟨g, 4, none⟩ (.slice A q c) from rfl]
      obtain ⟨w2, hw2⟩ : ∃ w2, w2 = ((W.drewN n1).drew).setCell ⟨g, 4, none⟩ (.slice A q c) := ⟨_, rfl⟩
      rw [← hw2] at hB1 hF1 ⊢
      have d5 : w2.cell? ⟨g, 5, none⟩ = some (.int .i64 (x.kept : Int)) := (blk_cell hB1 5).trans rfl
      have f5 : w2.frozen? ⟨g, 5, none⟩ = false := blk_frozen hB1 5
      have HB1 := Aside0.mk hB1
      have HF1 := Aside0.mk hF1
      clear hB1 hF1 hw2 c3 c4 c5 z4 z5
      go_wp2
      go_ret
      obtain ⟨k1, k2, k3⟩ := HH.out
      have hSt := Kd.S_take (m := q) HS.out (by have := HQ.out; have := HN.out; omega)
      have hql : (x.l.take q).length = q := by rw [List.length_take, HN.out]; exact Nat.min_eq_left HQ.out
      have hB2 := blk_set HB1.out 5 (.int .i64 y2)
      rw [HE2.out] at hB2
      refine ⟨rfl, ⟨k1, k2, by show kp ≤ (x.l.take q).length; rw [hql]; exact HKQ.out, A, c, ?_, ?_⟩, ?_⟩
      · show _ = some (Obj.cells #[_, _, _, _, .slice A (x.l.take q).length c, _] 68 (0, 0))
        rw [hql, HE2.out]
        exact hB2
      · show Kd.S k33 33 _ base _ (.slice A (x.l.take q).length c) (x.l.take q)
        rw [hql]
        exact Kd.S_step hSt (fun j hj hlt => (Below.heap_setCell w2 _ _ j hj.2).trans (HF1.out.block j hlt hj.2))
      · exact Frm.set_ (p := ⟨g, 5, none⟩) HF1.out (.inl rfl) _
end Go.Proofs.Ytcbejpmmlcdhnaa.PW
namespace Go.Proofs.Ytcbejpmmlcdhnaa.PW
open Go.RowKit Go.Proofs.YtcbejpmmlcdhnaaW.PrintWords Go.Proofs.YtcbejpmmlcdhnaaW.PrintLast Go.Proofs.YtcbejpmmlcdhnaaW.PrintMore
set_option linter.unusedVariables false
set_option linter.unusedSimpArgs false

/-- What Append answers. -/
def XS.acode (x : XS) (e : S33) : Int := if x.la = 2147483647 ∨ isB e.f1 = false then 3 else if e.f0 ≠ x.la + 1 then 61 else if e.f1 < x.lv then 1 else if x.kept = x.room ∧ (x.room = 0 ∨ (x.ho : Int) < x.xfl + 1) then 62 else 0
theorem isB_no {v : Int} (h : isB v = false) : v < 0 ∨ (0 ≤ v ∧ 2147483647 < v) := by
  have := of_decide_eq_false h
  omega
theorem isB_yes {v : Int} (h : isB v = true) : 0 ≤ v ∧ v ≤ 2147483647 := of_decide_eq_true h
set_option maxHeartbeats 8000000 in
set_option maxRecDepth 100000 in
theorem xapp_no {W : World} {base g : Nat} {ok : Nat → Prop} {x : XS} (h : XAt W base ok g x) (e : S33) (v : Value) (hlen : x.l.length ≤ 4294967296) (la fl : Nat) (hla : x.la = (la : Int)) (hfl : x.xfl = (fl : Int)) (hlt : la ≤ 2147483647) (hft : fl ≤ 2147483647) (r : Int) (hr : x.acode e = r) (hr0 : r ≠ 0) :
    Calls Try.prog 54 #[.pointer (some ⟨g, 0, none⟩), entV e v] W fun k w' => k = .returned (.int .i64 r) ∧ Below W.heap.size W w' := by
  unfold XS.acode at hr
  rw [hla, hfl] at hr
  have H := Aside0.mk h
  have HL := Aside0.mk hlen
  have hg : ∃ C, W.heap[g]? = some (.cells C 68 (0, 0)) ∧ C[0]? = some (.int .i64 (x.room : Int)) ∧ C[3]? = some (.int .i64 (x.ho : Int)) ∧ C[5]? = some (.int .i64 (x.kept : Int)) := by obtain ⟨h1, h2, h3, A, c, hb, hS⟩ := h; exact ⟨_, hb, rfl, rfl, rfl⟩
  obtain ⟨C, hb, hC0, hC3, hC5⟩ := hg
  have c0 : W.cell? ⟨g, 0, none⟩ = some (.int .i64 (x.room : Int)) := (blk_cell hb 0).trans hC0
  have c3 : W.cell? ⟨g, 3, none⟩ = some (.int .i64 (x.ho : Int)) := (blk_cell hb 3).trans hC3
  have c5 : W.cell? ⟨g, 5, none⟩ = some (.int .i64 (x.kept : Int)) := (blk_cell hb 5).trans hC5
  have hgl : g < W.heap.size := blk_lt hb
  clear h hlen hb hC0 hC3 hC5
  have HLA := Aside0.mk hla
  have HFL := Aside0.mk hfl
  clear hla hfl
  obtain ⟨W1, hW1⟩ : ∃ W1, W1 = W.alloc (.cells #[Value.int IntKind.i64 e.f0, Value.int IntKind.i64 e.f1, Value.int IntKind.i64 e.f2, Value.int IntKind.i64 e.f3, Value.int IntKind.i64 e.f4, v] 33) := ⟨_, rfl⟩
  have hB1 : Below W.heap.size W W1 := by rw [hW1]; exact below_alloc (Below.refl _ _) _
  have d0 : W1.cell? ⟨g, 0, none⟩ = some (.int .i64 (x.room : Int)) := by rw [hW1]; exact (World.cell?_alloc_lt _ _ _ hgl).trans c0
  have d3 : W1.cell? ⟨g, 3, none⟩ = some (.int .i64 (x.ho : Int)) := by rw [hW1]; exact (World.cell?_alloc_lt _ _ _ hgl).trans c3
  have d5 : W1.cell? ⟨g, 5, none⟩ = some (.int .i64 (x.kept : Int)) := by rw [hW1]; exact (World.cell?_alloc_lt _ _ _ hgl).trans c5
  have HX1 := Aside0.mk (XAt_below H.out hB1)
  have HB1 := Aside0.mk hB1
  have HW1 := Aside0.mk hW1
  clear c0 c3 c5 hB1
  have hbox : W1.heap[W.heap.size]? = some (.cells #[Value.int IntKind.i64 e.f0, Value.int IntKind.i64 e.f1, Value.int IntKind.i64 e.f2, Value.int IntKind.i64 e.f3, Value.int IntKind.i64 e.f4, v] 33) := by rw [hW1]; exact heap_alloc_new W _
  have b0 : W1.cell? ⟨W.heap.size, 0, none⟩ = some (.int .i64 e.f0) := (blk_cell hbox 0).trans rfl
  have b1 : W1.cell? ⟨W.heap.size, 1, none⟩ = some (.int .i64 e.f1) := (blk_cell hbox 1).trans rfl
  clear hbox hW1
  by_cases h1 : (la : Int) = 2147483647
  · rw [if_pos (.inl h1)] at hr
    subst hr
    have t1 : ((la : Int) == 2147483647) = true := beq_iff_eq.mpr h1
    clear h1 d0 d3 d5 hr0
    unfold entV
    go_enter Try.func54, Try.ntmps54
    go_wp2_with fail
    rw [← HW1.out]
    refine (xlast_C HX1.out HL.out).mono ?_
    rintro k w1 ⟨rfl, ⟨⟨n1, rfl⟩⟩⟩
    rw [HLA.out]
    go_wp2_with fail
    refine (xfloor_C (x := x) (XAt_below HX1.out (pw_below_drewN (Below.refl _ _) _)) HL.out).mono ?_
    rintro k w2 ⟨rfl, ⟨⟨n2, rfl⟩⟩⟩
    rw [HFL.out]
    go_wp2
    go_ret
    exact ⟨rfl, pw_below_drewN HB1.out _⟩
  have t1 : ((la : Int) == 2147483647) = false := beq_eq_false_iff_ne.mpr h1
  have t1n : (la == 2147483647) = false := beq_eq_false_iff_ne.mpr (by omega)
  cases h2 : isB e.f1 with
  | false =>
    rw [if_pos (.inr h2)] at hr
    subst hr
    have h2 := isB_no h2
    clear h1 d0 d3 d5 hr0
    unfold entV
    rcases h2 with h2 | ⟨h2, h3⟩
    all_goals
      go_enter Try.func54, Try.ntmps54
      go_wp2_with fail
      rw [← HW1.out]
      refine (xlast_C HX1.out HL.out).mono ?_
      rintro k w1 ⟨rfl, ⟨⟨n1, rfl⟩⟩⟩
      rw [HLA.out]
      go_wp2_with fail
      refine (xfloor_C (x := x) (XAt_below HX1.out (pw_below_drewN (Below.refl _ _) _)) HL.out).mono ?_
      rintro k w2 ⟨rfl, ⟨⟨n2, rfl⟩⟩⟩
      rw [HFL.out]
      go_wp2
      go_ret
      exact ⟨rfl, pw_below_drewN HB1.out _⟩
  | true =>
    obtain ⟨h21, h22⟩ := isB_yes h2
    rw [if_neg (by rw [h2]; simp; omega)] at hr
    by_cases h3 : e.f0 = (la : Int) + 1
    · rw [if_neg (fun h => h h3)] at hr
      have t3 : (e.f0 != (la : Int) + 1) = false := bne_eq_false_iff_eq.mpr h3
      by_cases h4 : e.f1 < x.lv
      · rw [if_pos h4] at hr
        subst hr
        have t4 : decide (e.f1 < x.lv) = true := decide_eq_true h4
        clear h1 h2 h3 h4 d0 d3 d5 hr0
        unfold entV
        go_enter Try.func54, Try.ntmps54
        go_wp2_with fail
        rw [← HW1.out]
        refine (xlast_C HX1.out HL.out).mono ?_
        rintro k w1 ⟨rfl, ⟨⟨n1, rfl⟩⟩⟩
        rw [HLA.out]
        go_wp2_with fail
        refine (xfloor_C (x := x) (XAt_below HX1.out (pw_below_drewN (Below.refl _ _) _)) HL.out).mono ?_
        rintro k w2 ⟨rfl, ⟨⟨n2, rfl⟩⟩⟩
        rw [HFL.out]
        go_wp2
        go_ret
        exact ⟨rfl, pw_below_drewN HB1.out _⟩
      · rw [if_neg h4] at hr
        have t4 : decide (e.f1 < x.lv) = false := decide_eq_false h4
        by_cases h5 : x.kept = x.room ∧ (x.room = 0 ∨ (x.ho : Int) < (fl : Int) + 1)
        · rw [if_pos h5] at hr
          subst hr
          obtain ⟨h6, h7⟩ := h5
          rw [h6] at d5
          by_cases h8 : x.room = 0
          · rw [h8] at d0 d5
            clear h1 h2 h3 h4 d3 hr0 h6 h7 h8
            unfold entV
            go_enter Try.func54, Try.ntmps54
            go_wp2_with fail
            rw [← HW1.out]
            refine (xlast_C HX1.out HL.out).mono ?_
            rintro k w1 ⟨rfl, ⟨⟨n1, rfl⟩⟩⟩
            rw [HLA.out]
            go_wp2_with fail
            refine (xfloor_C (x := x) (XAt_below HX1.out (pw_below_drewN (Below.refl _ _) _)) HL.out).mono ?_
            rintro k w2 ⟨rfl, ⟨⟨n2, rfl⟩⟩⟩
            rw [HFL.out]
            go_wp2
            go_quiet (fail)
            go_wp2
            go_ret
            exact ⟨rfl, pw_below_drewN (pw_below_drewN HB1.out _) _⟩
          · have h9 : (x.ho : Int) < (fl : Int) + 1 := h7.resolve_left h8
            have t5 : ((x.room : Int) == 0) = false := beq_eq_false_iff_ne.mpr (by omega)
            have t5n : (x.room == 0) = false := beq_eq_false_iff_ne.mpr h8
            have t6 : decide ((x.ho : Int) < (fl : Int) + 1) = true := decide_eq_true h9
            clear h1 h2 h3 h4 hr0 h6 h7 h8 h9
            unfold entV
            go_enter Try.func54, Try.ntmps54
            go_wp2_with fail
            rw [← HW1.out]
            refine (xlast_C HX1.out HL.out).mono ?_
            rintro k w1 ⟨rfl, ⟨⟨n1, rfl⟩⟩⟩
            rw [HLA.out]
            go_wp2_with fail
            refine (xfloor_C (x := x) (XAt_below HX1.out (pw_below_drewN (Below.refl _ _) _)) HL.out).mono ?_
            rintro k w2 ⟨rfl, ⟨⟨n2, rfl⟩⟩⟩
            rw [HFL.out]
            go_wp2
            go_quiet (fail)
            go_wp2
            go_ret
            exact ⟨rfl, pw_below_drewN (pw_below_drewN HB1.out _) _⟩
        · rw [if_neg h5] at hr
          exact absurd hr.symm hr0
    · rw [if_pos h3] at hr
      subst hr
      have t3 : (e.f0 != (la : Int) + 1) = true := bne_iff_ne.mpr h3
      clear h1 h2 h3 d0 d3 d5 hr0
      unfold entV
      go_enter Try.func54, Try.ntmps54
      go_wp2_with fail
      rw [← HW1.out]
      refine (xlast_C HX1.out HL.out).mono ?_
      rintro k w1 ⟨rfl, ⟨⟨n1, rfl⟩⟩⟩
      rw [HLA.out]
      go_wp2_with fail
      refine (xfloor_C (x := x) (XAt_below HX1.out (pw_below_drewN (Below.refl _ _) _)) HL.out).mono ?_
      rintro k w2 ⟨rfl, ⟨⟨n2, rfl⟩⟩⟩
      rw [HFL.out]
      go_wp2
      go_ret
      exact ⟨rfl, pw_below_drewN HB1.out _⟩
end Go.Proofs.Ytcbejpmmlcdhnaa.PW
namespace Go.Proofs.Ytcbejpmmlcdhnaa.PW
open Go.RowKit Go.Proofs.YtcbejpmmlcdhnaaW.PrintWords Go.Proofs.YtcbejpmmlcdhnaaW.PrintLast Go.Proofs.YtcbejpmmlcdhnaaW.PrintMore
set_option linter.unusedVariables false
set_option linter.unusedSimpArgs false
def rg54.T12 : Bool × List (List Nat × List Nat) := (true, [([], []), ([], []), ([1], [1]), ([2], [2]), ([3], [3]), ([], []), ([5], [5]), ([4, 6], [4, 6]), ([0, 0, 1, 2, 3, 4, 5, 6, 7], [0]), ([8, 0, 1, 2, 3, 4, 5, 6, 7], [8]), ([9, 7, 7, 0, 1, 2, 3, 4, 5, 6, 7], [7, 9])])
def rg54.B12 : List Nat := [0, 0, 2, 6, 14, 0, 32, 126, 255, 511, 1023]
theorem rg54.tab12 : rtab .any (opsOf Try.f54 12) = rg54.T12 := by kernel_rfl
theorem rg54.bits12 : waitsOk rg54.T12.2 rg54.B12 = true := by kernel_rfl

theorem ops_T (A : Option Addr) (n c : Nat) (l : List S55) (w : World) (hn : l.length = n) (hr : Kd.C k55 w A n l) (hc : n ≤ c) (hm : n ≤ 2513169434843) : Calls Try.prog 41 #[.slice A n c] w fun e w' => ∃ A2 c2, e = .returned (.slice A2 n c2) ∧ Kd.R k55 55 w' w.heap.size (fun _ => True) (.slice A2 n c2) l ∧ Below w.heap.size w w' := by
  subst hn
  refine (heraldref6_Ops.calls (l.length + 1) A c l l w hr hc (ops_f l hm)).mono ?_
  rintro e w' ⟨v, rfl, hv, hb⟩
  obtain ⟨A2, c2, rfl, hl, hC⟩ := Kd.R_reads hv
  exact ⟨A2, c2, rfl, hv, hb⟩
/-- What an Append of the reference writes: its block, and a row of entries. -/
def rows33 (W : World) (base g : Nat) (ok : Nat → Prop) (k : Nat) : Prop := k = g ∨ (base ≤ k ∧ ok k ∧ ∃ cells, W.heap[k]? = some (.cells cells 33 (0, 0)))
def XS.push (x : XS) (e : S33) : XS := { x with l := x.l ++ [e], kept := if x.kept < x.room then x.kept + 1 else x.kept }
set_option maxHeartbeats 8000000 in
set_option maxRecDepth 100000 in
theorem xapp_ok {W : World} {base g : Nat} {ok : Nat → Prop} {x : XS} (h : XAt W base ok g x) (e : S33) (A : Option Addr) (n c : Nat) (hn : e.f5.length = n) (hC : Kd.C k55 W A n e.f5) (hnc : n ≤ c) (hm : opsOk e) (hfresh : ∀ k, W.heap.size ≤ k → ok k)
    (hlen : x.l.length ≤ 4294967296) (la fl : Nat) (hla : x.la = (la : Int)) (hfl : x.xfl = (fl : Int)) (hlt : la ≤ 2147483647) (hft : fl ≤ 2147483647) (hro : x.kept ≤ x.room) (hr : x.acode e = 0) :
    Calls Try.prog 54 #[.pointer (some ⟨g, 0, none⟩), entV e (.slice A n c)] W fun k w' => k = .returned (.int .i64 0) ∧ XAt w' base ok g (x.push e) ∧ Frm W w' (rows33 W base g ok) := by
  unfold XS.acode at hr
  rw [hla, hfl] at hr
  obtain ⟨k1, k2, k3, XA, xc, hb, hS⟩ := id h
  have H := Aside0.mk h
  have HL := Aside0.mk hlen
  have HH := Aside0.mk (And.intro k1 (And.intro k2 k3))
  have HS := Aside0.mk hS
  have HF := Aside0.mk hfresh
  have hgl : g < W.heap.size := blk_lt hb
  obtain ⟨N, hN⟩ : ∃ N, x.l.length = N := ⟨_, rfl⟩
  rw [hN] at hb
  have HN := Aside0.mk hN
  have hop : n ≤ 2513169434843 := by rw [← hn]; exact hm
  have HC := Aside0.mk (And.intro hn (And.intro hC (And.intro hnc hop)))
  have HLA := Aside0.mk hla
  have HFL := Aside0.mk hfl
  clear h hlen k1 k2 k3 hS hfresh hN hC hn hm hla hfl hop hnc
  have h1 : ¬ ((la : Int) = 2147483647 ∨ isB e.f1 = false) := fun h => by rw [if_pos h] at hr; exact absurd hr (by decide)
  rw [if_neg h1] at hr
  have h3 : ¬ (e.f0 ≠ (la : Int) + 1) := fun h => by rw [if_pos h] at hr; exact absurd hr (by decide)
  rw [if_neg h3] at hr
  have h4 : ¬ (e.f1 < x.lv) := fun h => by rw [if_pos h] at hr; exact absurd hr (by decide)
  rw [if_neg h4] at hr
  have h5 : ¬ (x.kept = x.room ∧ (x.room = 0 ∨ (x.ho : Int) < (fl : Int) + 1)) := fun h => by rw [if_pos h] at hr; exact absurd hr (by decide)
  have t1 : ((la : Int) == 2147483647) = false := beq_eq_false_iff_ne.mpr (fun h => h1 (.inl h))
  have t1n : (la == 2147483647) = false := beq_eq_false_iff_ne.mpr (by omega)
  obtain ⟨h21, h22⟩ := isB_yes (v := e.f1) (by cases h2 : isB e.f1 with | true => rfl | false => exact absurd (.inr h2) h1)
  have t3 : (e.f0 != (la : Int) + 1) = false := bne_eq_false_iff_eq.mpr (by omega)
  have t4 : decide (e.f1 < x.lv) = false := decide_eq_false h4
  have hbox0 : (W.alloc (.cells #[Value.int IntKind.i64 e.f0, Value.int IntKind.i64 e.f1, Value.int IntKind.i64 e.f2, Value.int IntKind.i64 e.f3, Value.int IntKind.i64 e.f4, .slice A n c] 33)).heap[W.heap.size]? = some (.cells #[Value.int IntKind.i64 e.f0, Value.int IntKind.i64 e.f1, Value.int IntKind.i64 e.f2, Value.int IntKind.i64 e.f3, Value.int IntKind.i64 e.f4, .slice A n c] 33) := heap_alloc_new W _
  obtain ⟨W1, hW1⟩ : ∃ W1, W1 = W.alloc (.cells #[Value.int IntKind.i64 e.f0, Value.int IntKind.i64 e.f1, Value.int IntKind.i64 e.f2, Value.int IntKind.i64 e.f3, Value.int IntKind.i64 e.f4, .slice A n c] 33) := ⟨_, rfl⟩
  rw [← hW1] at hbox0
  have HB1 := Aside0.mk (show Below W.heap.size W W1 by rw [hW1]; exact below_alloc (Below.refl _ _) _)
  have HX1 := Aside0.mk (XAt_below H.out HB1.out)
  have hb1 : W1.heap[g]? = some (.cells #[.int .i64 (x.room : Int), .int .i64 (x.fl : Int), .int .i64 x.o, .int .i64 (x.ho : Int), .slice XA N xc, .int .i64 (x.kept : Int)] 68 (0, 0)) := (HB1.out.block g hgl).trans hb
  have d0 : W1.cell? ⟨g, 0, none⟩ = some (.int .i64 (x.room : Int)) := (blk_cell hb1 0).trans rfl
  have d3 : W1.cell? ⟨g, 3, none⟩ = some (.int .i64 (x.ho : Int)) := (blk_cell hb1 3).trans rfl
  have d5 : W1.cell? ⟨g, 5, none⟩ = some (.int .i64 (x.kept : Int)) := (blk_cell hb1 5).trans rfl
  have b0 : W1.cell? ⟨W.heap.size, 0, none⟩ = some (.int .i64 e.f0) := (blk_cell hbox0 0).trans rfl
  have b1 : W1.cell? ⟨W.heap.size, 1, none⟩ = some (.int .i64 e.f1) := (blk_cell hbox0 1).trans rfl
  have b5 : W1.cell? ⟨W.heap.size, 5, none⟩ = some (.slice A n c) := (blk_cell hbox0 5).trans rfl
  have HBX := Aside0.mk hbox0
  have HBG := Aside0.mk hb1
  have HW1 := Aside0.mk hW1
  have HR := Aside0.mk h5
  clear hb hW1 hbox0 hb1 h1 h3 h4 hr h5
  have hcase : (x.kept < x.room) ∨ (x.kept = x.room ∧ x.room ≠ 0 ∧ (fl : Int) + 1 ≤ (x.ho : Int)) := by
    have := HR.out
    by_cases h : x.kept = x.room
    · exact .inr ⟨h, by omega, by omega⟩
    · exact .inl (by omega)
  have hft2 : IntKind.i64.wrap ((fl : Int) + 1) = (fl : Int) + 1 := IntWalk.i64_in _ (by omega)
  clear hft2 hro
  have hpart : ∀ (b9 b13 : Bool), (((x.kept : Int) == (x.room : Int)) = b9 ∧ (x.kept == x.room) = b9 ∧ decide ((x.kept : Int) < (x.room : Int)) = b13 ∧ decide (x.kept < x.room) = b13) → True := fun _ _ _ => trivial
  clear hpart
  unfold entV
  rcases hcase with g1 | ⟨g1, g2, g3⟩
  · have hk1 : ((x.kept : Int) == (x.room : Int)) = false := beq_eq_false_iff_ne.mpr (by omega)
    have hk2 : (x.kept == x.room) = false := beq_eq_false_iff_ne.mpr (by omega)
    have hk3 : decide (x.kept < x.room) = true := decide_eq_true g1
    have HG := Aside0.mk g1
    clear g1
    go_enter Try.func54, Try.ntmps54
    go_wp2_with fail
    rw [← HW1.out]
    refine (xlast_C HX1.out HL.out).mono ?_
    rintro k w1 ⟨rfl, ⟨⟨n1, rfl⟩⟩⟩
    rw [HLA.out]
    go_wp2_with fail
    refine (xfloor_C (x := x) (XAt_below HX1.out (pw_below_drewN (Below.refl _ _) _)) HL.out).mono ?_
    rintro k w2 ⟨rfl, ⟨⟨n2, rfl⟩⟩⟩
    rw [HFL.out]
    go_wp2
    go_quiet (fail)
    go_wp2_with fail
    refine (ops_T A n c e.f5 _ HC.out.1 ?_ HC.out.2.2.1 HC.out.2.2.2).mono ?_
    · exact Kd.C_below HC.out.2.1 (pw_below_drewN HB1.out _)
    rintro k w2 ⟨A2, cc2, rfl, hv, hB2⟩
    have hB2' : Below W1.heap.size W1 w2 := (pw_below_drewN (Below.refl _ _) _).trans hB2
    have hbx2 := (hB2'.block _ (blk_lt HBX.out)).trans HBX.out
    have hg2 := (hB2'.block _ (blk_lt HBG.out)).trans HBG.out
    have e5 : w2.cell? ⟨W.heap.size, 5, none⟩ = some (.slice A n c) := (blk_cell hbx2 5).trans rfl
    have z5 : w2.frozen? ⟨W.heap.size, 5, none⟩ = false := blk_frozen hbx2 5
    have hs1 : W1.heap.size = W.heap.size + 1 := by rw [HW1.out]; exact Array.size_push _
    have hv2 : Kd.R k55 55 w2 (W.heap.size + 1) (fun _ => True) (.slice A2 n cc2) e.f5 := by rw [← hs1]; exact hv
    have HV := Aside0.mk hv2
    have HB2 := Aside0.mk (HB1.out.trans (hB2'.mono (by omega)))
    have HG2 := Aside0.mk hg2
    have HBX2 := Aside0.mk hbx2
    have hne : W.heap.size ≠ g := by omega
    have hne2 : ¬ (g = W.heap.size) := by omega
    clear hv hB2 hB2' hbx2 hg2 hv2
    go_wp2
    obtain ⟨w3, hw3⟩ : ∃ w3, w3 = w2.setCell ⟨W.heap.size, 5, none⟩ (.slice A2 n cc2) := ⟨_, rfl⟩
    rw [← hw3]
    have hbx3 : w3.heap[W.heap.size]? = some (.cells #[.int .i64 e.f0, .int .i64 e.f1, .int .i64 e.f2, .int .i64 e.f3, .int .i64 e.f4, .slice A2 n cc2] 33 (0, 0)) := by rw [hw3]; simpa using blk_set HBX2.out 5 (.slice A2 n cc2)
    have hfar : ∀ k, k ≠ W.heap.size → w3.heap[k]? = w2.heap[k]? := fun k hk => by rw [hw3]; exact Below.heap_setCell w2 _ _ k hk
    have hg3 := (hfar g hne2).trans HG2.out
    have hB3 : Below W.heap.size W w3 := by rw [hw3]; exact below_set HB2.out (Nat.le_refl _)
    have hV3 : Kd.R k55 55 w3 (W.heap.size + 1) (fun k => W.heap.size + 1 ≤ k) (.slice A2 n cc2) e.f5 := Kd.R_step (Kd.R_mono (Kd.R_bound HV.out) (fun k hk => hk.2.1)) (fun k hk _ => hfar k (by omega))
    have hw3s : w2.heap.size = w3.heap.size := by rw [hw3]; simp [World.setCell]
    have hbase := HH.out.1
    have hS3 : Kd.S k33 33 w3 base (fun k => (ok k ∧ k ≠ g) ∧ k < W.heap.size) (.slice XA x.l.length xc) x.l := Kd.S_step (Kd.S_mono (Kd.S_bound HS.out) (fun k hk => ⟨hk.1, hk.2.2.1⟩)) (fun k hk hlt => hB3.block k hlt)
    rw [HN.out] at hS3
    have HH1 := Aside0.mk (show base ≤ W.heap.size + 1 by omega)
    have HH2 := Aside0.mk (show base ≤ W.heap.size by omega)
    have HGL := Aside0.mk hgl
    have HV3 := Aside0.mk hV3
    have HB3 := Aside0.mk hB3
    have HS3 := Aside0.mk hS3
    have HBX3 := Aside0.mk hbx3
    have HG3 := Aside0.mk hg3
    have g4 : w3.drew.cell? ⟨g, 4, none⟩ = some (.slice XA N xc) := (blk_cell hg3 4).trans rfl
    have m0 : w3.drew.cell? ⟨W.heap.size, 0, none⟩ = some (.int .i64 e.f0) := (blk_cell hbx3 0).trans rfl
    have m1 : w3.drew.cell? ⟨W.heap.size, 1, none⟩ = some (.int .i64 e.f1) := (blk_cell hbx3 1).trans rfl
    have m2 : w3.drew.cell? ⟨W.heap.size, 2, none⟩ = some (.int .i64 e.f2) := (blk_cell hbx3 2).trans rfl
    have m3 : w3.drew.cell? ⟨W.heap.size, 3, none⟩ = some (.int .i64 e.f3) := (blk_cell hbx3 3).trans rfl
    have m4 : w3.drew.cell? ⟨W.heap.size, 4, none⟩ = some (.int .i64 e.f4) := (blk_cell hbx3 4).trans rfl
    have m5 : w3.drew.cell? ⟨W.heap.size, 5, none⟩ = some (.slice A2 n cc2) := (blk_cell hbx3 5).trans rfl
    clear hw3 hbx3 hfar hg3 hB3 hV3 hw3s hbase hS3 d0 d3 d5 b0 b1 b5 e5 z5
    refine start_ (n := 11) (S := fun w' => w'.cell? ⟨g, 4, none⟩ = some (.slice XA N xc) ∧ w'.cell? ⟨W.heap.size, 0, none⟩ = some (.int .i64 e.f0) ∧ w'.cell? ⟨W.heap.size, 1, none⟩ = some (.int .i64 e.f1) ∧ w'.cell? ⟨W.heap.size, 2, none⟩ = some (.int .i64 e.f2) ∧ w'.cell? ⟨W.heap.size, 3, none⟩ = some (.int .i64 e.f3) ∧ w'.cell? ⟨W.heap.size, 4, none⟩ = some (.int .i64 e.f4) ∧ w'.cell? ⟨W.heap.size, 5, none⟩ = some (.slice A2 n cc2)) (ds := [10]) #[false, false, false, false, false, false, false, false, false, false, false] (by kernel_rfl) rfl rfl ⟨g4, m0, m1, m2, m3, m4, m5⟩ (fun hHeld => ?_)
    refine with_tabW rg54.tab12 rg54.bits12 (fun HT_ HW_ => ?_)
    refine pure_ (i := 0) (N := some 69) (v := ?_) (a' := ?_) #[true, false, false, false, false, false, false, false, false, false, false] rfl rfl (any_of HT_.out (by kernel_rfl)) (fun _ _ _ h => h) (Or.inl ⟨by rfl, ?_⟩) ?_ ?_
    rotate_left
    · intro w'
      go_simp
      with_reducible rfl
    rotate_left
    · simp only [Act.put, List.setIfInBounds_toArray, List.set_cons_zero, List.set_cons_succ, i64_w, i32_w]
      rfl
    refine pure_ (i := 1) (N := some 70) (v := ?_) (a' := ?_) #[true, true, false, false, false, false, false, false, false, false, false] rfl rfl (any_of HT_.out (by kernel_rfl)) (fun _ _ _ h => h) (Or.inl ⟨by rfl, ?_⟩) ?_ ?_
    rotate_left
    · intro w'
      go_simp
      with_reducible rfl
    rotate_left
    · simp only [Act.put, List.setIfInBounds_toArray, List.set_cons_zero, List.set_cons_succ, i64_w, i32_w]
      rfl
    refine pure_ (i := 2) (N := some 71) (v := ?_) (a' := ?_) #[true, true, true, false, false, false, false, false, false, false, false] rfl rfl (any_of HT_.out (by kernel_rfl)) (fun _ _ _ h => h) (Or.inl ⟨by rfl, ?_⟩) ?_ ?_
    rotate_left
    · intro w'
      go_simp
      with_reducible rfl
    rotate_left
    · simp only [Act.put, List.setIfInBounds_toArray, List.set_cons_zero, List.set_cons_succ, i64_w, i32_w]
      rfl
    refine pure_ (i := 3) (N := some 72) (v := ?_) (a' := ?_) #[true, true, true, true, false, false, false, false, false, false, false] rfl rfl (any_of HT_.out (by kernel_rfl)) (fun _ _ _ h => h) (Or.inl ⟨by rfl, ?_⟩) ?_ ?_
    rotate_left
    · intro w'
      go_simp
      with_reducible rfl
    rotate_left
    · simp only [Act.put, List.setIfInBounds_toArray, List.set_cons_zero, List.set_cons_succ, i64_w, i32_w]
      rfl
    refine take_ (i := 4) (N := some 73) (v := ?_) (a' := ?_) #[true, true, true, true, true, false, false, false, false, false, false] rfl rfl (take_ofW HT_.out HW_.out (by kernel_rfl)) (fun _ _ _ h => h) (Or.inl ⟨by rfl, ?_⟩) hHeld ?_ ?_
    rotate_left
    · rintro w' ⟨s0, s1, s2, s3, s4, s5, s6⟩
      go_simp
      with_reducible rfl
    rotate_left
    · simp only [Act.put, List.setIfInBounds_toArray, List.set_cons_zero, List.set_cons_succ, i64_w, i32_w]
      rfl
    refine take_ (i := 5) (N := some 74) (v := ?_) (a' := ?_) #[true, true, true, true, true, true, false, false, false, false, false] rfl rfl (take_ofW HT_.out HW_.out (by kernel_rfl)) (fun _ _ _ h => h) (Or.inl ⟨by rfl, ?_⟩) hHeld ?_ ?_
    rotate_left
    · rintro w' ⟨s0, s1, s2, s3, s4, s5, s6⟩
      go_simp
      with_reducible rfl
    rotate_left
    · simp only [Act.put, List.setIfInBounds_toArray, List.set_cons_zero, List.set_cons_succ, i64_w, i32_w]
      rfl
    refine one_ (i := 6) (N := some 75) #[true, true, true, true, true, true, true, false, false, false, false] rfl rfl (one_of HT_.out (by kernel_rfl)) (by decide) (fun K hK => ?_)
    refine value_ (w1 := ?_) (v := ?_) (by rfl) rfl ?_ ?_
    rotate_left 2
    · go_simp
      constructor
      · rfl
      · rfl
    have hBa : Below w3.heap.size w3 (w3.drew.alloc (.cells #[.int .i64 e.f0, .int .i64 e.f1, .int .i64 e.f2, .int .i64 e.f3, .int .i64 e.f4, .slice A2 n cc2] 33)) := below_alloc (below_drew (Below.refl _ _)) _
    refine hK.out _ _ ⟨pw_cell_below (below_alloc (Below.refl _ _) _) g4, pw_cell_below (below_alloc (Below.refl _ _) _) m0, pw_cell_below (below_alloc (Below.refl _ _) _) m1, pw_cell_below (below_alloc (Below.refl _ _) _) m2, pw_cell_below (below_alloc (Below.refl _ _) _) m3, pw_cell_below (below_alloc (Below.refl _ _) _) m4, pw_cell_below (below_alloc (Below.refl _ _) _) m5⟩ (fun hHeld => ?_)
    clear hK K
    refine norm_ (a' := ?_) ?_ ?_
    rotate_left
    · show Act.put _ (some 75) _ = _
      simp only [Act.put, List.setIfInBounds_toArray, List.set_cons_zero, List.set_cons_succ, i64_w, i32_w]
      rfl
    refine one_ (i := 7) (N := some 76) #[true, true, true, true, true, true, true, true, false, false, false] rfl rfl (one_of HT_.out (by kernel_rfl)) (by decide) (fun K hK => ?_)
    refine Kd.S_append_step k33 (w0 := w3.drew) (W := w3.drew) base (by rfl) (.tmp 73) (.tmp 75) 25 33 (.agg #[(.int .i64 0), (.int .i64 0), (.int .i64 0), (.int .i64 0), (.int .i64 0), (.slice none 0 0)]) 64 rfl Try.underlying25 info33 rfl (by decide) (by omega) (.slice XA N xc) x.l e [.int .i64 e.f0, .int .i64 e.f1, .int .i64 e.f2, .int .i64 e.f3, .int .i64 e.f4, .slice A2 n cc2] (fun k => ok k ∧ k ≠ g) (fun k => W.heap.size + 1 ≤ k ∧ k < w3.heap.size) rfl rfl
      (k33_mkM _ _ _ _ (Kd.R_lower (Kd.R_step (Kd.R_mono (Kd.R_bound HV3.out) (fun k hk => ⟨hk.1, hk.2.2.1⟩)) (fun _ _ _ => rfl)) HH1.out)) ?_ (fun k hk => ⟨HF.out k (Nat.le_trans HB3.out.size hk), fun h => by have := HGL.out; have := HB3.out.size; have h9 : w3.heap.size ≤ k := hk; omega⟩) (Kd.S_mono (Kd.S_step HS3.out (fun _ _ _ => rfl)) (fun k hk => ⟨hk.1, fun h => by have := hk.2; have := h.1; omega⟩)) (Below.refl _ _) (Nat.le_trans HH2.out HB3.out.size) (by have := HN.out; have := HL.out; omega) ?_
    · intro k hk
      refine ⟨⟨HF.out k (by have := hk.1; omega), fun h => by have := HGL.out; have := hk.1; omega⟩, fun h => ?_⟩
      have := (Kd.S_R HS3.out).1 k h.symm
      have := this.2
      have := hk.1
      omega
    intro v6 w6 ho6 hb6 hg6 hat6
    obtain ⟨A6, c6, rfl⟩ := Kd.S_slice ho6
    obtain ⟨N6, hN6⟩ : ∃ N6, N6 = (x.l ++ [e]).length := ⟨_, rfl⟩
    rw [← hN6] at ho6 hat6 ⊢
    have hXg : (Value.slice XA N xc).ownBlock ≠ some g := fun h => ((Kd.S_R HS3.out).1 g h).1.2 rfl
    have hXw : (Value.slice XA N xc).ownBlock ≠ some W.heap.size := fun h => by have := ((Kd.S_R HS3.out).1 _ h).2; omega
    have hg6b := blk_grown (w := w3.drew) HG3.out hg6 (fun h => hXg h.symm)
    have hx6b := blk_grown (w := w3.drew) HBX3.out hg6 (fun h => hXw h.symm)
    have p4 : w6.cell? ⟨g, 4, none⟩ = some (.slice XA N xc) := (blk_cell hg6b 4).trans rfl
    have q0 : w6.cell? ⟨W.heap.size, 0, none⟩ = some (.int .i64 e.f0) := (blk_cell hx6b 0).trans rfl
    have q1 : w6.cell? ⟨W.heap.size, 1, none⟩ = some (.int .i64 e.f1) := (blk_cell hx6b 1).trans rfl
    have q2 : w6.cell? ⟨W.heap.size, 2, none⟩ = some (.int .i64 e.f2) := (blk_cell hx6b 2).trans rfl
    have q3 : w6.cell? ⟨W.heap.size, 3, none⟩ = some (.int .i64 e.f3) := (blk_cell hx6b 3).trans rfl
    have q4 : w6.cell? ⟨W.heap.size, 4, none⟩ = some (.int .i64 e.f4) := (blk_cell hx6b 4).trans rfl
    have q5 : w6.cell? ⟨W.heap.size, 5, none⟩ = some (.slice A2 n cc2) := (blk_cell hx6b 5).trans rfl
    have HO6 := Aside0.mk ho6
    have HG6 := Aside0.mk hg6
    have HGB6 := Aside0.mk hg6b
    have HN6 := Aside0.mk hN6
    clear ho6 hb6 hg6 hat6 hg6b hx6b hN6 hXg hXw
    refine hK.out _ _ ⟨p4, q0, q1, q2, q3, q4, q5⟩ (fun hHeld => ?_)
    clear hK K
    refine norm_ (a' := ?_) ?_ ?_
    rotate_left
    · show Act.put _ (some 76) _ = _
      simp only [Act.put, List.setIfInBounds_toArray, List.set_cons_zero, List.set_cons_succ, i64_w, i32_w]
      rfl
    refine pure_ (i := 8) (N := some 77) (v := ?_) (a' := ?_) #[true, true, true, true, true, true, true, true, true, false, false] rfl rfl (any_of HT_.out (by kernel_rfl)) (fun _ _ _ h => h) (Or.inl ⟨by rfl, ?_⟩) ?_ ?_
    rotate_left
    · intro w'
      go_simp
      with_reducible rfl
    rotate_left
    · simp only [Act.put, List.setIfInBounds_toArray, List.set_cons_zero, List.set_cons_succ, i64_w, i32_w]
      rfl
    refine pure_ (i := 9) (N := some 78) (v := ?_) (a' := ?_) #[true, true, true, true, true, true, true, true, true, true, false] rfl rfl (any_of HT_.out (by kernel_rfl)) (fun _ _ _ h => h) (Or.inl ⟨by rfl, ?_⟩) ?_ ?_
    rotate_left
    · intro w'
      go_simp
      with_reducible rfl
    rotate_left
    · simp only [Act.put, List.setIfInBounds_toArray, List.set_cons_zero, List.set_cons_succ, i64_w, i32_w]
      rfl
    refine last_ (i := 10) (N := none) #[true, true, true, true, true, true, true, true, true, true, true] rfl rfl (one_of HT_.out (by kernel_rfl)) (by decide) (fun K hK => ?_)
    refine skip_store (by rfl) rfl 25 (.tmp 78) (.tmp 76) rfl (.slice A6 N6 c6) [.slice A6 N6 c6] rfl rfl HGB6.out rfl size25 (by show 4 + 1 ≤ 6; omega) (by simp [Value.oneCell']) ?_
    refine hK.out _ _ ?_
    clear hK K
    refine done_ (done_of HT_.out (by kernel_rfl)) ?_
    have hw7 : (w6.setCells g 4 [.slice A6 N6 c6]) = w6.setCell ⟨g, 4, none⟩ (.slice A6 N6 c6) := rfl
    have hg7 : (w6.setCell ⟨g, 4, none⟩ (.slice A6 N6 c6)).heap[g]? = some (.cells #[.int .i64 (x.room : Int), .int .i64 (x.fl : Int), .int .i64 x.o, .int .i64 (x.ho : Int), .slice A6 N6 c6, .int .i64 (x.kept : Int)] 68 (0, 0)) := blk_set HGB6.out 4 (.slice A6 N6 c6)
    have hrow : ∀ k, (Value.slice XA N xc).ownBlock = some k → rows33 W base g ok k := fun k hk => by
      have hs := HS.out
      rw [HN.out] at hs
      exact .inr ⟨Kd.S_base hs k hk, ((Kd.S_R hs).1 k hk).1, Kd.S_typed hs k hk⟩
    have hF6 : Frm W w6 (rows33 W base g ok) := (Frm.of_below HB3.out (rows33 W base g ok)).drew.then_ (Frm.of_grown HG6.out (S := fun k => (Value.slice XA N xc).ownBlock = some k) (fun k hk => hk)) (fun k hk _ => hrow k hk)
    have hF7 : Frm W (w6.setCell ⟨g, 4, none⟩ (.slice A6 N6 c6)) (rows33 W base g ok) := Frm.set_ (p := ⟨g, 4, none⟩) hF6 (.inl (.inl rfl)) _
    have hS7 : Kd.S k33 33 (w6.setCell ⟨g, 4, none⟩ (.slice A6 N6 c6)) base (fun k => ok k ∧ k ≠ g) (.slice A6 N6 c6) (x.l ++ [e]) := Kd.S_step HO6.out (fun j hj _ => Below.heap_setCell w6 _ _ j hj.2)
    rw [hw7]
    obtain ⟨w7, hw7'⟩ : ∃ w7, w7 = w6.setCell ⟨g, 4, none⟩ (.slice A6 N6 c6) := ⟨_, rfl⟩
    rw [← hw7'] at hg7 hF7 hS7 ⊢
    have r0 : w7.cell? ⟨g, 0, none⟩ = some (.int .i64 (x.room : Int)) := (blk_cell hg7 0).trans rfl
    have r5 : w7.cell? ⟨g, 5, none⟩ = some (.int .i64 (x.kept : Int)) := (blk_cell hg7 5).trans rfl
    have u5 : w7.frozen? ⟨g, 5, none⟩ = false := blk_frozen hg7 5
    have HG7 := Aside0.mk hg7
    have HF7 := Aside0.mk hF7
    have HS7 := Aside0.mk hS7
    clear hw7 hg7 hF7 hS7 hw7' hF6 hrow g4 m0 m1 m2 m3 m4 m5
    go_wp2
    go_quiet (fail)
    go_wp2
    go_ret
    have hwk : wrap64 ((x.kept : Int) + 1) = (x.kept : Int) + 1 := by have := HH.out.2.2; have := HL.out; unfold wrap64; omega
    rw [hwk]
    refine ⟨rfl, ⟨HH.out.1, HH.out.2.1, ?_, A6, c6, ?_, ?_⟩, ?_⟩
    · show (if x.kept < x.room then x.kept + 1 else x.kept) ≤ (x.l ++ [e]).length
      rw [if_pos HG.out, List.length_append, List.length_singleton]
      have := HH.out.2.2
      omega
    · show _ = some (Obj.cells #[_, _, _, _, .slice A6 (x.l ++ [e]).length c6, .int .i64 (((if x.kept < x.room then x.kept + 1 else x.kept) : Nat) : Int)] 68 (0, 0))
      rw [if_pos HG.out, ← HN6.out, show ((x.kept + 1 : Nat) : Int) = (x.kept : Int) + 1 from rfl]
      exact blk_set (blk_drewN HG7.out _) 5 (.int .i64 ((x.kept : Int) + 1))
    · show Kd.S k33 33 _ base _ (.slice A6 (x.l ++ [e]).length c6) (x.l ++ [e])
      rw [← HN6.out]
      exact Kd.S_step HS7.out (fun j hj _ => Below.heap_setCell _ _ _ j hj.2)
    · exact Frm.set_ (p := ⟨g, 5, none⟩) (HF7.out.drewN _) (.inl (.inl rfl)) _
  · have hk1 : ((x.kept : Int) == (x.room : Int)) = true := beq_iff_eq.mpr (by omega)
    have hk2 : (x.kept == x.room) = true := beq_iff_eq.mpr g1
    have hk3 : decide (x.kept < x.room) = false := decide_eq_false (by omega)
    have hk4 : (x.room == 0) = false := beq_eq_false_iff_ne.mpr g2
    have hk5 : ((x.room : Int) == 0) = false := beq_eq_false_iff_ne.mpr (by omega)
    have hk6 : decide ((x.ho : Int) < (fl : Int) + 1) = false := decide_eq_false (by omega)
    have HG := Aside0.mk (show ¬ (x.kept < x.room) by omega)
    clear g1 g2 g3
    go_enter Try.func54, Try.ntmps54
    go_wp2_with fail
    rw [← HW1.out]
    refine (xlast_C HX1.out HL.out).mono ?_
    rintro k w1 ⟨rfl, ⟨⟨n1, rfl⟩⟩⟩
    rw [HLA.out]
    go_wp2_with fail
    refine (xfloor_C (x := x) (XAt_below HX1.out (pw_below_drewN (Below.refl _ _) _)) HL.out).mono ?_
    rintro k w2 ⟨rfl, ⟨⟨n2, rfl⟩⟩⟩
    rw [HFL.out]
    go_wp2
    go_quiet (fail)
    go_wp2_with fail
    refine (ops_T A n c e.f5 _ HC.out.1 ?_ HC.out.2.2.1 HC.out.2.2.2).mono ?_
    · exact Kd.C_below HC.out.2.1 (pw_below_drewN HB1.out _)
    rintro k w2 ⟨A2, cc2, rfl, hv, hB2⟩
    have hB2' : Below W1.heap.size W1 w2 := (pw_below_drewN (Below.refl _ _) _).trans hB2
    have hbx2 := (hB2'.block _ (blk_lt HBX.out)).trans HBX.out
    have hg2 := (hB2'.block _ (blk_lt HBG.out)).trans HBG.out
    have e5 : w2.cell? ⟨W.heap.size, 5, none⟩ = some (.slice A n c) := (blk_cell hbx2 5).trans rfl
    have z5 : w2.frozen? ⟨W.heap.size, 5, none⟩ = false := blk_frozen hbx2 5
    have hs1 : W1.heap.size = W.heap.size + 1 := by rw [HW1.out]; exact Array.size_push _
    have hv2 : Kd.R k55 55 w2 (W.heap.size + 1) (fun _ => True) (.slice A2 n cc2) e.f5 := by rw [← hs1]; exact hv
    have HV := Aside0.mk hv2
    have HB2 := Aside0.mk (HB1.out.trans (hB2'.mono (by omega)))
    have HG2 := Aside0.mk hg2
    have HBX2 := Aside0.mk hbx2
    have hne : W.heap.size ≠ g := by omega
    have hne2 : ¬ (g = W.heap.size) := by omega
    clear hv hB2 hB2' hbx2 hg2 hv2
    go_wp2
    obtain ⟨w3, hw3⟩ : ∃ w3, w3 = w2.setCell ⟨W.heap.size, 5, none⟩ (.slice A2 n cc2) := ⟨_, rfl⟩
    rw [← hw3]
    have hbx3 : w3.heap[W.heap.size]? = some (.cells #[.int .i64 e.f0, .int .i64 e.f1, .int .i64 e.f2, .int .i64 e.f3, .int .i64 e.f4, .slice A2 n cc2] 33 (0, 0)) := by rw [hw3]; simpa using blk_set HBX2.out 5 (.slice A2 n cc2)
    have hfar : ∀ k, k ≠ W.heap.size → w3.heap[k]? = w2.heap[k]? := fun k hk => by rw [hw3]; exact Below.heap_setCell w2 _ _ k hk
    have hg3 := (hfar g hne2).trans HG2.out
    have hB3 : Below W.heap.size W w3 := by rw [hw3]; exact below_set HB2.out (Nat.le_refl _)
    have hV3 : Kd.R k55 55 w3 (W.heap.size + 1) (fun k => W.heap.size + 1 ≤ k) (.slice A2 n cc2) e.f5 := Kd.R_step (Kd.R_mono (Kd.R_bound HV.out) (fun k hk => hk.2.1)) (fun k hk _ => hfar k (by omega))
    have hw3s : w2.heap.size = w3.heap.size := by rw [hw3]; simp [World.setCell]
    have hbase := HH.out.1
    have hS3 : Kd.S k33 33 w3 base (fun k => (ok k ∧ k ≠ g) ∧ k < W.heap.size) (.slice XA x.l.length xc) x.l := Kd.S_step (Kd.S_mono (Kd.S_bound HS.out) (fun k hk => ⟨hk.1, hk.2.2.1⟩)) (fun k hk hlt => hB3.block k hlt)
    rw [HN.out] at hS3
    have HH1 := Aside0.mk (show base ≤ W.heap.size + 1 by omega)
    have HH2 := Aside0.mk (show base ≤ W.heap.size by omega)
    have HGL := Aside0.mk hgl
    have HV3 := Aside0.mk hV3
    have HB3 := Aside0.mk hB3
    have HS3 := Aside0.mk hS3
    have HBX3 := Aside0.mk hbx3
    have HG3 := Aside0.mk hg3
    have g4 : w3.drew.cell? ⟨g, 4, none⟩ = some (.slice XA N xc) := (blk_cell hg3 4).trans rfl
    have m0 : w3.drew.cell? ⟨W.heap.size, 0, none⟩ = some (.int .i64 e.f0) := (blk_cell hbx3 0).trans rfl
    have m1 : w3.drew.cell? ⟨W.heap.size, 1, none⟩ = some (.int .i64 e.f1) := (blk_cell hbx3 1).trans rfl
    have m2 : w3.drew.cell? ⟨W.heap.size, 2, none⟩ = some (.int .i64 e.f2) := (blk_cell hbx3 2).trans rfl
    have m3 : w3.drew.cell? ⟨W.heap.size, 3, none⟩ = some (.int .i64 e.f3) := (blk_cell hbx3 3).trans rfl
    have m4 : w3.drew.cell? ⟨W.heap.size, 4, none⟩ = some (.int .i64 e.f4) := (blk_cell hbx3 4).trans rfl
    have m5 : w3.drew.cell? ⟨W.heap.size, 5, none⟩ = some (.slice A2 n cc2) := (blk_cell hbx3 5).trans rfl
    clear hw3 hbx3 hfar hg3 hB3 hV3 hw3s hbase hS3 d0 d3 d5 b0 b1 b5 e5 z5
    refine start_ (n := 11) (S := fun w' => w'.cell? ⟨g, 4, none⟩ = some (.slice XA N xc) ∧ w'.cell? ⟨W.heap.size, 0, none⟩ = some (.int .i64 e.f0) ∧ w'.cell? ⟨W.heap.size, 1, none⟩ = some (.int .i64 e.f1) ∧ w'.cell? ⟨W.heap.size, 2, none⟩ = some (.int .i64 e.f2) ∧ w'.cell? ⟨W.heap.size, 3, none⟩ = some (.int .i64 e.f3) ∧ w'.cell? ⟨W.heap.size, 4, none⟩ = some (.int .i64 e.f4) ∧ w'.cell? ⟨W.heap.size, 5, none⟩ = some (.slice A2 n cc2)) (ds := [10]) #[false, false, false, false, false, false, false, false, false, false, false] (by kernel_rfl) rfl rfl ⟨g4, m0, m1, m2, m3, m4, m5⟩ (fun hHeld => ?_)
    refine with_tabW rg54.tab12 rg54.bits12 (fun HT_ HW_ => ?_)
    refine pure_ (i := 0) (N := some 69) (v := ?_) (a' := ?_) #[true, false, false, false, false, false, false, false, false, false, false] rfl rfl (any_of HT_.out (by kernel_rfl)) (fun _ _ _ h => h) (Or.inl ⟨by rfl, ?_⟩) ?_ ?_
    rotate_left
    · intro w'
      go_simp
      with_reducible rfl
    rotate_left
    · simp only [Act.put, List.setIfInBounds_toArray, List.set_cons_zero, List.set_cons_succ, i64_w, i32_w]
      rfl
    refine pure_ (i := 1) (N := some 70) (v := ?_) (a' := ?_) #[true, true, false, false, false, false, false, false, false, false, false] rfl rfl (any_of HT_.out (by kernel_rfl)) (fun _ _ _ h => h) (Or.inl ⟨by rfl, ?_⟩) ?_ ?_
    rotate_left
    · intro w'
      go_simp
      with_reducible rfl
    rotate_left
    · simp only [Act.put, List.setIfInBounds_toArray, List.set_cons_zero, List.set_cons_succ, i64_w, i32_w]
      rfl
    refine pure_ (i := 2) (N := some 71) (v := ?_) (a' := ?_) #[true, true, true, false, false, false, false, false, false, false, false] rfl rfl (any_of HT_.out (by kernel_rfl)) (fun _ _ _ h => h) (Or.inl ⟨by rfl, ?_⟩) ?_ ?_
    rotate_left
    · intro w'
      go_simp
      with_reducible rfl
    rotate_left
    · simp only [Act.put, List.setIfInBounds_toArray, List.set_cons_zero, List.set_cons_succ, i64_w, i32_w]
      rfl
    refine pure_ (i := 3) (N := some 72) (v := ?_) (a' := ?_) #[true, true, true, true, false, false, false, false, false, false, false] rfl rfl (any_of HT_.out (by kernel_rfl)) (fun _ _ _ h => h) (Or.inl ⟨by rfl, ?_⟩) ?_ ?_
    rotate_left
    · intro w'
      go_simp
      with_reducible rfl
    rotate_left
    · simp only [Act.put, List.setIfInBounds_toArray, List.set_cons_zero, List.set_cons_succ, i64_w, i32_w]
      rfl
    refine take_ (i := 4) (N := some 73) (v := ?_) (a' := ?_) #[true, true, true, true, true, false, false, false, false, false, false] rfl rfl (take_ofW HT_.out HW_.out (by kernel_rfl)) (fun _ _ _ h => h) (Or.inl ⟨by rfl, ?_⟩) hHeld ?_ ?_
    rotate_left
    · rintro w' ⟨s0, s1, s2, s3, s4, s5, s6⟩
      go_simp
      with_reducible rfl
    rotate_left
    · simp only [Act.put, List.setIfInBounds_toArray, List.set_cons_zero, List.set_cons_succ, i64_w, i32_w]
      rfl
    refine take_ (i := 5) (N := some 74) (v := ?_) (a' := ?_) #[true, true, true, true, true, true, false, false, false, false, false] rfl rfl (take_ofW HT_.out HW_.out (by kernel_rfl)) (fun _ _ _ h => h) (Or.inl ⟨by rfl, ?_⟩) hHeld ?_ ?_
    rotate_left
    · rintro w' ⟨s0, s1, s2, s3, s4, s5, s6⟩
      go_simp
      with_reducible rfl
    rotate_left
    · simp only [Act.put, List.setIfInBounds_toArray, List.set_cons_zero, List.set_cons_succ, i64_w, i32_w]
      rfl
    refine one_ (i := 6) (N := some 75) #[true, true, true, true, true, true, true, false, false, false, false] rfl rfl (one_of HT_.out (by kernel_rfl)) (by decide) (fun K hK => ?_)
    refine value_ (w1 := ?_) (v := ?_) (by rfl) rfl ?_ ?_
    rotate_left 2
    · go_simp
      constructor
      · rfl
      · rfl
    have hBa : Below w3.heap.size w3 (w3.drew.alloc (.cells #[.int .i64 e.f0, .int .i64 e.f1, .int .i64 e.f2, .int .i64 e.f3, .int .i64 e.f4, .slice A2 n cc2] 33)) := below_alloc (below_drew (Below.refl _ _)) _
    refine hK.out _ _ ⟨pw_cell_below (below_alloc (Below.refl _ _) _) g4, pw_cell_below (below_alloc (Below.refl _ _) _) m0, pw_cell_below (below_alloc (Below.refl _ _) _) m1, pw_cell_below (below_alloc (Below.refl _ _) _) m2, pw_cell_below (below_alloc (Below.refl _ _) _) m3, pw_cell_below (below_alloc (Below.refl _ _) _) m4, pw_cell_below (below_alloc (Below.refl _ _) _) m5⟩ (fun hHeld => ?_)
    clear hK K
    refine norm_ (a' := ?_) ?_ ?_
    rotate_left
    · show Act.put _ (some 75) _ = _
      simp only [Act.put, List.setIfInBounds_toArray, List.set_cons_zero, List.set_cons_succ, i64_w, i32_w]
      rfl
    refine one_ (i := 7) (N := some 76) #[true, true, true, true, true, true, true, true, false, false, false] rfl rfl (one_of HT_.out (by kernel_rfl)) (by decide) (fun K hK => ?_)
    refine Kd.S_append_step k33 (w0 := w3.drew) (W := w3.drew) base (by rfl) (.tmp 73) (.tmp 75) 25 33 (.agg #[(.int .i64 0), (.int .i64 0), (.int .i64 0), (.int .i64 0), (.int .i64 0), (.slice none 0 0)]) 64 rfl Try.underlying25 info33 rfl (by decide) (by omega) (.slice XA N xc) x.l e [.int .i64 e.f0, .int .i64 e.f1, .int .i64 e.f2, .int .i64 e.f3, .int .i64 e.f4, .slice A2 n cc2] (fun k => ok k ∧ k ≠ g) (fun k => W.heap.size + 1 ≤ k ∧ k < w3.heap.size) rfl rfl
      (k33_mkM _ _ _ _ (Kd.R_lower (Kd.R_step (Kd.R_mono (Kd.R_bound HV3.out) (fun k hk => ⟨hk.1, hk.2.2.1⟩)) (fun _ _ _ => rfl)) HH1.out)) ?_ (fun k hk => ⟨HF.out k (Nat.le_trans HB3.out.size hk), fun h => by have := HGL.out; have := HB3.out.size; have h9 : w3.heap.size ≤ k := hk; omega⟩) (Kd.S_mono (Kd.S_step HS3.out (fun _ _ _ => rfl)) (fun k hk => ⟨hk.1, fun h => by have := hk.2; have := h.1; omega⟩)) (Below.refl _ _) (Nat.le_trans HH2.out HB3.out.size) (by have := HN.out; have := HL.out; omega) ?_
    · intro k hk
      refine ⟨⟨HF.out k (by have := hk.1; omega), fun h => by have := HGL.out; have := hk.1; omega⟩, fun h => ?_⟩
      have := (Kd.S_R HS3.out).1 k h.symm
      have := this.2
      have := hk.1
      omega
    intro v6 w6 ho6 hb6 hg6 hat6
    obtain ⟨A6, c6, rfl⟩ := Kd.S_slice ho6
    obtain ⟨N6, hN6⟩ : ∃ N6, N6 = (x.l ++ [e]).length := ⟨_, rfl⟩
    rw [← hN6] at ho6 hat6 ⊢
    have hXg : (Value.slice XA N xc).ownBlock ≠ some g := fun h => ((Kd.S_R HS3.out).1 g h).1.2 rfl
    have hXw : (Value.slice XA N xc).ownBlock ≠ some W.heap.size := fun h => by have := ((Kd.S_R HS3.out).1 _ h).2; omega
    have hg6b := blk_grown (w := w3.drew) HG3.out hg6 (fun h => hXg h.symm)
    have hx6b := blk_grown (w := w3.drew) HBX3.out hg6 (fun h => hXw h.symm)
    have p4 : w6.cell? ⟨g, 4, none⟩ = some (.slice XA N xc) := (blk_cell hg6b 4).trans rfl
    have q0 : w6.cell? ⟨W.heap.size, 0, none⟩ = some (.int .i64 e.f0) := (blk_cell hx6b 0).trans rfl
    have q1 : w6.cell? ⟨W.heap.size, 1, none⟩ = some (.int .i64 e.f1) := (blk_cell hx6b 1).trans rfl
    have q2 : w6.cell? ⟨W.heap.size, 2, none⟩ = some (.int .i64 e.f2) := (blk_cell hx6b 2).trans rfl
    have q3 : w6.cell? ⟨W.heap.size, 3, none⟩ = some (.int .i64 e.f3) := (blk_cell hx6b 3).trans rfl
    have q4 : w6.cell? ⟨W.heap.size, 4, none⟩ = some (.int .i64 e.f4) := (blk_cell hx6b 4).trans rfl
    have q5 : w6.cell? ⟨W.heap.size, 5, none⟩ = some (.slice A2 n cc2) := (blk_cell hx6b 5).trans rfl
    have HO6 := Aside0.mk ho6
    have HG6 := Aside0.mk hg6
    have HGB6 := Aside0.mk hg6b
    have HN6 := Aside0.mk hN6
    clear ho6 hb6 hg6 hat6 hg6b hx6b hN6 hXg hXw
    refine hK.out _ _ ⟨p4, q0, q1, q2, q3, q4, q5⟩ (fun hHeld => ?_)
    clear hK K
    refine norm_ (a' := ?_) ?_ ?_
    rotate_left
    · show Act.put _ (some 76) _ = _
      simp only [Act.put, List.setIfInBounds_toArray, List.set_cons_zero, List.set_cons_succ, i64_w, i32_w]
      rfl
    refine pure_ (i := 8) (N := some 77) (v := ?_) (a' := ?_) #[true, true, true, true, true, true, true, true, true, false, false] rfl rfl (any_of HT_.out (by kernel_rfl)) (fun _ _ _ h => h) (Or.inl ⟨by rfl, ?_⟩) ?_ ?_
    rotate_left
    · intro w'
      go_simp
      with_reducible rfl
    rotate_left
    · simp only [Act.put, List.setIfInBounds_toArray, List.set_cons_zero, List.set_cons_succ, i64_w, i32_w]
      rfl
    refine pure_ (i := 9) (N := some 78) (v := ?_) (a' := ?_) #[true, true, true, true, true, true, true, true, true, true, false] rfl rfl (any_of HT_.out (by kernel_rfl)) (fun _ _ _ h => h) (Or.inl ⟨by rfl, ?_⟩) ?_ ?_
    rotate_left
    · intro w'
      go_simp
      with_reducible rfl
    rotate_left
    · simp only [Act.put, List.setIfInBounds_toArray, List.set_cons_zero, List.set_cons_succ, i64_w, i32_w]
      rfl
    refine last_ (i := 10) (N := none) #[true, true, true, true, true, true, true, true, true, true, true] rfl rfl (one_of HT_.out (by kernel_rfl)) (by decide) (fun K hK => ?_)
    refine skip_store (by rfl) rfl 25 (.tmp 78) (.tmp 76) rfl (.slice A6 N6 c6) [.slice A6 N6 c6] rfl rfl HGB6.out rfl size25 (by show 4 + 1 ≤ 6; omega) (by simp [Value.oneCell']) ?_
    refine hK.out _ _ ?_
    clear hK K
    refine done_ (done_of HT_.out (by kernel_rfl)) ?_
    have hw7 : (w6.setCells g 4 [.slice A6 N6 c6]) = w6.setCell ⟨g, 4, none⟩ (.slice A6 N6 c6) := rfl
    have hg7 : (w6.setCell ⟨g, 4, none⟩ (.slice A6 N6 c6)).heap[g]? = some (.cells #[.int .i64 (x.room : Int), .int .i64 (x.fl : Int), .int .i64 x.o, .int .i64 (x.ho : Int), .slice A6 N6 c6, .int .i64 (x.kept : Int)] 68 (0, 0)) := blk_set HGB6.out 4 (.slice A6 N6 c6)
    have hrow : ∀ k, (Value.slice XA N xc).ownBlock = some k → rows33 W base g ok k := fun k hk => by
      have hs := HS.out
      rw [HN.out] at hs
      exact .inr ⟨Kd.S_base hs k hk, ((Kd.S_R hs).1 k hk).1, Kd.S_typed hs k hk⟩
    have hF6 : Frm W w6 (rows33 W base g ok) := (Frm.of_below HB3.out (rows33 W base g ok)).drew.then_ (Frm.of_grown HG6.out (S := fun k => (Value.slice XA N xc).ownBlock = some k) (fun k hk => hk)) (fun k hk _ => hrow k hk)
    have hF7 : Frm W (w6.setCell ⟨g, 4, none⟩ (.slice A6 N6 c6)) (rows33 W base g ok) := Frm.set_ (p := ⟨g, 4, none⟩) hF6 (.inl (.inl rfl)) _
    have hS7 : Kd.S k33 33 (w6.setCell ⟨g, 4, none⟩ (.slice A6 N6 c6)) base (fun k => ok k ∧ k ≠ g) (.slice A6 N6 c6) (x.l ++ [e]) := Kd.S_step HO6.out (fun j hj _ => Below.heap_setCell w6 _ _ j hj.2)
    rw [hw7]
    obtain ⟨w7, hw7'⟩ : ∃ w7, w7 = w6.setCell ⟨g, 4, none⟩ (.slice A6 N6 c6) := ⟨_, rfl⟩
    rw [← hw7'] at hg7 hF7 hS7 ⊢
    have r0 : w7.cell? ⟨g, 0, none⟩ = some (.int .i64 (x.room : Int)) := (blk_cell hg7 0).trans rfl
    have r5 : w7.cell? ⟨g, 5, none⟩ = some (.int .i64 (x.kept : Int)) := (blk_cell hg7 5).trans rfl
    have u5 : w7.frozen? ⟨g, 5, none⟩ = false := blk_frozen hg7 5
    have HG7 := Aside0.mk hg7
    have HF7 := Aside0.mk hF7
    have HS7 := Aside0.mk hS7
    clear hw7 hg7 hF7 hS7 hw7' hF6 hrow g4 m0 m1 m2 m3 m4 m5
    go_wp2
    go_quiet (fail)
    go_wp2
    go_ret
    refine ⟨rfl, ⟨HH.out.1, HH.out.2.1, ?_, A6, c6, ?_, ?_⟩, ?_⟩
    · show (if x.kept < x.room then x.kept + 1 else x.kept) ≤ (x.l ++ [e]).length
      rw [if_neg (by have := HG.out; omega), List.length_append, List.length_singleton]
      have := HH.out.2.2
      omega
    · show _ = some (Obj.cells #[_, _, _, _, .slice A6 (x.l ++ [e]).length c6, .int .i64 (((if x.kept < x.room then x.kept + 1 else x.kept) : Nat) : Int)] 68 (0, 0))
      rw [if_neg (by have := HG.out; omega), ← HN6.out]
      exact HG7.out
    · show Kd.S k33 33 _ base _ (.slice A6 (x.l ++ [e]).length c6) (x.l ++ [e])
      rw [← HN6.out]
      exact Kd.S_step HS7.out (fun j hj _ => rfl)
    · exact HF7.out.drewN _
end Go.Proofs.Ytcbejpmmlcdhnaa.PW
namespace Go.Proofs.Ytcbejpmmlcdhnaa.PW
open Go.RowKit Go.Proofs.YtcbejpmmlcdhnaaW.PrintWords Go.Proofs.YtcbejpmmlcdhnaaW.PrintLast Go.Proofs.YtcbejpmmlcdhnaaW.PrintMore
set_option linter.unusedVariables false
set_option linter.unusedSimpArgs false
def rg55.T7 : Bool × List (List Nat × List Nat) := (true, [([], []), ([0], [0]), ([1], [1]), ([2], [2]), ([], []), ([4], [4]), ([5], [5]), ([6], [6]), ([7], [7]), ([8], [8]), ([], []), ([], []), ([10, 11], [10, 11]), ([9, 12], [9, 12]), ([3, 13], [3, 13]), ([14], [14]), ([15, 0, 1, 2, 3, 4, 5, 6, 7, 8, 9, 10, 11, 12, 13, 14, 15], [15]), ([16, 0, 1, 2, 3, 4, 5, 6, 7, 8, 9, 10, 11, 12, 13, 14, 15, 16], [])])
def rg55.B7 : List Nat := [0, 1, 3, 7, 0, 16, 48, 112, 240, 496, 0, 0, 3072, 8176, 16383, 32767, 65535, 131071]
theorem rg55.tab7 : rtab .any (opsOf Try.f55 7) = rg55.T7 := by kernel_rfl
theorem rg55.bits7 : waitsOk rg55.T7.2 rg55.B7 = true := by kernel_rfl

def XS.atc (x : XS) (n : Int) : Int := if n ≤ x.xfl then 60 else if x.la < n then 61 else 0
def XS.at (x : XS) (n : Int) : S33 := if x.atc n = 0 then x.l.getD (n - x.fl - 1).toNat z33 else z33
section
variable {W : World} {base g : Nat} {ok : Nat → Prop} {x : XS}
set_option maxHeartbeats 4000000 in
set_option maxRecDepth 100000 in
theorem xat_old (h : XAt W base ok g x) (hlen : x.l.length ≤ 4294967296) (n : Int) (hle : decide (n ≤ x.xfl) = true) :
    Calls Try.prog 55 #[.pointer (some ⟨g, 0, none⟩), .int .i64 n] W fun e w' => e = .returned (.tuple #[entV z33 (.slice none 0 0), .int .i64 60]) ∧ Below W.heap.size W w' := by
  have H := Aside0.mk h
  have HL := Aside0.mk hlen
  clear h hlen
  go_enter Try.func55, Try.ntmps55
  go_wp2_with fail
  refine (xfloor_C (XAt_below H.out (below_alloc (Below.refl _ _) _)) HL.out).mono ?_
  rintro e w1 ⟨rfl, ⟨⟨n1, rfl⟩⟩⟩
  go_wp2_with fail
  refine (xlast_C (x := x) (XAt_below (XAt_below H.out (below_alloc (Below.refl _ _) _)) (pw_below_drewN (Below.refl _ _) _)) HL.out).mono ?_
  rintro e w1 ⟨rfl, ⟨⟨n2, rfl⟩⟩⟩
  have hb0 : ((W.alloc (.cells zeroCells 33)).drewN (n1 + n2)).heap[W.heap.size]? = some (.cells zeroCells 33) := heap_alloc_new _ _
  have HB0 := Aside0.mk hb0
  clear hb0
  go_wp2_with (with_reducible refine stop_store rfl ?_)
  refine wpList_store rfl rfl 33 (.tmp 4) (.tmp 23) rfl (.agg zeroCells) zeroList rfl rfl HB0.out rfl size33 (by show 0 + 6 ≤ 6; omega) (by simp [Value.oneCell']) ?_
  have g3 := blk_full zeroList HB0.out rfl
  have hB : Below W.heap.size W (((W.alloc (.cells zeroCells 33)).drewN (n1 + n2)).setCells W.heap.size 0 zeroList) :=
    Frm.below (Frm.setCells (((Frm.refl W (fun k => k = W.heap.size)).alloc _).drewN _) (.inl rfl) 0 zeroList) (fun k hk _ => by have : k = W.heap.size := hk; omega) (Nat.le_refl _)
  obtain ⟨w4, hw4⟩ : ∃ w4, w4 = ((W.alloc (.cells zeroCells 33)).drewN (n1 + n2)).setCells W.heap.size 0 zeroList := ⟨_, rfl⟩
  rw [← hw4] at g3 hB ⊢
  have G4 := Aside0.mk g3
  have HB := Aside0.mk hB
  clear hw4 g3 hB
  go_wp2
  refine bodyPost_ret (results_cell_tmp rfl _ _ W.heap.size 33 _ (0, 0) _ _ rfl rfl G4.out Try.underlying33 rfl (by kernel_rfl)) rfl ?_
  exact ⟨rfl, HB.out⟩
set_option maxHeartbeats 4000000 in
set_option maxRecDepth 100000 in
theorem xat_gap (h : XAt W base ok g x) (hlen : x.l.length ≤ 4294967296) (n : Int) (hle : decide (n ≤ x.xfl) = false) (hgt : decide (x.la < n) = true) :
    Calls Try.prog 55 #[.pointer (some ⟨g, 0, none⟩), .int .i64 n] W fun e w' => e = .returned (.tuple #[entV z33 (.slice none 0 0), .int .i64 61]) ∧ Below W.heap.size W w' := by
  have H := Aside0.mk h
  have HL := Aside0.mk hlen
  clear h hlen
  go_enter Try.func55, Try.ntmps55
  go_wp2_with fail
  refine (xfloor_C (XAt_below H.out (below_alloc (Below.refl _ _) _)) HL.out).mono ?_
  rintro e w1 ⟨rfl, ⟨⟨n1, rfl⟩⟩⟩
  go_wp2_with fail
  refine (xlast_C (x := x) (XAt_below (XAt_below H.out (below_alloc (Below.refl _ _) _)) (pw_below_drewN (Below.refl _ _) _)) HL.out).mono ?_
  rintro e w1 ⟨rfl, ⟨⟨n2, rfl⟩⟩⟩
  have hb0 : ((W.alloc (.cells zeroCells 33)).drewN (n1 + n2)).heap[W.heap.size]? = some (.cells zeroCells 33) := heap_alloc_new _ _
  have HB0 := Aside0.mk hb0
  clear hb0
  go_wp2_with (with_reducible refine stop_store rfl ?_)
  refine wpList_store rfl rfl 33 (.tmp 4) (.tmp 27) rfl (.agg zeroCells) zeroList rfl rfl HB0.out rfl size33 (by show 0 + 6 ≤ 6; omega) (by simp [Value.oneCell']) ?_
  have g3 := blk_full zeroList HB0.out rfl
  have hB : Below W.heap.size W (((W.alloc (.cells zeroCells 33)).drewN (n1 + n2)).setCells W.heap.size 0 zeroList) :=
    Frm.below (Frm.setCells (((Frm.refl W (fun k => k = W.heap.size)).alloc _).drewN _) (.inl rfl) 0 zeroList) (fun k hk _ => by have : k = W.heap.size := hk; omega) (Nat.le_refl _)
  obtain ⟨w4, hw4⟩ : ∃ w4, w4 = ((W.alloc (.cells zeroCells 33)).drewN (n1 + n2)).setCells W.heap.size 0 zeroList := ⟨_, rfl⟩
  rw [← hw4] at g3 hB ⊢
  have G4 := Aside0.mk g3
  have HB := Aside0.mk hB
  clear hw4 g3 hB
  go_wp2
  refine bodyPost_ret (results_cell_tmp rfl _ _ W.heap.size 33 _ (0, 0) _ _ rfl rfl G4.out Try.underlying33 rfl (by kernel_rfl)) rfl ?_
  exact ⟨rfl, HB.out⟩
set_option maxHeartbeats 4000000 in
set_option maxRecDepth 100000 in
theorem xat_ok (h : XAt W base ok g x) (hlen : x.l.length ≤ 4294967296) (la fl n i : Nat) (hla : x.la = (la : Int)) (hfl : x.xfl = (fl : Int)) (hlt : la ≤ 2147483647) (hle : fl < n) (hgt : n ≤ la) (hi : x.l.length + n = la + i + 1) (y : S33) (hy : x.l[i]? = some y) :
    Calls Try.prog 55 #[.pointer (some ⟨g, 0, none⟩), .int .i64 (n : Int)] W fun e w' => ∃ A2 c2, e = .returned (.tuple #[entV y (.slice A2 y.f5.length c2), .int .i64 0]) ∧ y.f5.length ≤ c2 ∧ Kd.R k55 55 W base ok (.slice A2 y.f5.length c2) y.f5 ∧ Below W.heap.size W w' := by
  have H := Aside0.mk h
  have HL := Aside0.mk hlen
  obtain ⟨k1, k2, k3, A, c, hb, hS⟩ := h
  obtain ⟨N, hN⟩ : ∃ N, x.l.length = N := ⟨_, rfl⟩
  obtain ⟨q1, q2, q3⟩ := Kd.S_reads' hS
  have hiN : i < N := by rw [← hN]; exact (List.getElem?_eq_some_iff.1 hy).1
  rw [hN] at hb q3 hi hlen
  obtain ⟨ad, _, _, hA, _⟩ := at_T33 q3 (i : Int) (by omega) (by omega)
  subst hA
  rw [hN] at hS
  obtain ⟨cs, hcs, hM, hc0⟩ := Kd.S_get hS z33 (i : Int) (by omega) (by omega)
  have hyr : x.l.getD (i : Int).toNat z33 = y := by
    rw [Int.toNat_natCast, List.getD_eq_getElem?_getD, hy]
    rfl
  rw [hyr] at hM
  rw [Int.toNat_natCast] at hc0
  have hc : ∀ j u, cs[j]? = some u → W.cell? (ad.add (i * 6 + j)) = some u := hc0
  obtain ⟨v5, rfl, hR5⟩ := k33_openM hM
  obtain ⟨A5, c5, rfl, x6, _⟩ := Kd.R_reads hR5
  have x7 := Kd.R_mono hR5 (ok' := ok) (fun k hk => hk.1.1)
  have x0 := hc 0 _ rfl
  have x1 := hc 1 _ rfl
  have x2 := hc 2 _ rfl
  have x3 := hc 3 _ rfl
  have x4 := hc 4 _ rfl
  have x5 := hc 5 _ rfl
  rw [add_field _ _ 1 (by omega)] at x1
  rw [add_field _ _ 2 (by omega)] at x2
  rw [add_field _ _ 3 (by omega)] at x3
  rw [add_field _ _ 4 (by omega)] at x4
  rw [add_field _ _ 5 (by omega)] at x5
  obtain ⟨m, hm⟩ : ∃ m, m = y.f5.length := ⟨_, rfl⟩
  rw [← hm] at x5 x6 x7 ⊢
  have c4 : W.cell? ⟨g, 4, none⟩ = some (.slice (some ad) N c) := (blk_cell hb 4).trans rfl
  have hs1 : wrap64 ((N : Int) - 1) = ((N - 1 : Nat) : Int) := by unfold wrap64; omega
  have hs2 : wrap64 ((la : Int) - (n : Int)) = ((la - n : Nat) : Int) := by unfold wrap64; omega
  have hs3 : wrap64 (((N - 1 : Nat) : Int) - ((la - n : Nat) : Int)) = (i : Int) := by unfold wrap64; omega
  obtain ⟨z1, hz1⟩ : ∃ z1 : Int, z1 = ((N - 1 : Nat) : Int) := ⟨_, rfl⟩
  obtain ⟨z2, hz2⟩ : ∃ z2 : Int, z2 = ((la - n : Nat) : Int) := ⟨_, rfl⟩
  rw [← hz1] at hs1 hs3
  rw [← hz2] at hs2 hs3
  have hd1 : decide (n ≤ fl) = false := decide_eq_false (by omega)
  have hd2 : decide (la < n) = false := decide_eq_false (by omega)
  have hd3 : decide ((n : Int) ≤ (fl : Int)) = false := decide_eq_false (by omega)
  have hd4 : decide ((la : Int) < (n : Int)) = false := decide_eq_false (by omega)
  have HC := Aside0.mk (And.intro x6 x7)
  have HX := Aside0.mk (And.intro x0 (And.intro x1 (And.intro x2 (And.intro x3 (And.intro x4 x5)))))
  have HC4 := Aside0.mk c4
  have HLA := Aside0.mk hla
  have HFL := Aside0.mk hfl
  clear k1 k2 k3 hb hS q1 q2 q3 hy hyr hcs hM hc0 hc hR5 x0 x1 x2 x3 x4 x5 x6 x7 c4 hz1 hz2 hN hi hla hfl hlen hm hle hgt hlt
  go_enter Try.func55, Try.ntmps55
  go_wp2_with fail
  refine (xfloor_C (XAt_below H.out (below_alloc (Below.refl _ _) _)) HL.out).mono ?_
  rintro e w1 ⟨rfl, ⟨⟨n1, rfl⟩⟩⟩
  rw [HFL.out]
  go_wp2_with fail
  refine (xlast_C (x := x) (XAt_below (XAt_below H.out (below_alloc (Below.refl _ _) _)) (pw_below_drewN (Below.refl _ _) _)) HL.out).mono ?_
  rintro e w1 ⟨rfl, ⟨⟨n2, rfl⟩⟩⟩
  rw [HLA.out]
  have hB0 : Below W.heap.size W ((W.alloc (.cells zeroCells 33)).drewN (n1 + n2)) := pw_below_drewN (below_alloc (Below.refl _ _) _) _
  have hb0 : ((W.alloc (.cells zeroCells 33)).drewN (n1 + n2)).heap[W.heap.size]? = some (.cells zeroCells 33) := heap_alloc_new _ _
  obtain ⟨w1, hw1⟩ : ∃ w1, w1 = (W.alloc (.cells zeroCells 33)).drewN (n1 + n2) := ⟨_, rfl⟩
  rw [← hw1] at hB0 hb0
  have c4 : w1.drew.cell? ⟨g, 4, none⟩ = some (.slice (some ad) N c) := pw_cell_below hB0 HC4.out
  have m0 : w1.drew.cell? (ad.add (i * 6)) = some (.int .i64 y.f0) := pw_cell_below hB0 HX.out.1
  have m1 : w1.drew.cell? ⟨(ad.add (i * 6)).block, (ad.add (i * 6)).off + 1, none⟩ = some (.int .i64 y.f1) := pw_cell_below hB0 HX.out.2.1
  have m2 : w1.drew.cell? ⟨(ad.add (i * 6)).block, (ad.add (i * 6)).off + 2, none⟩ = some (.int .i64 y.f2) := pw_cell_below hB0 HX.out.2.2.1
  have m3 : w1.drew.cell? ⟨(ad.add (i * 6)).block, (ad.add (i * 6)).off + 3, none⟩ = some (.int .i64 y.f3) := pw_cell_below hB0 HX.out.2.2.2.1
  have m4 : w1.drew.cell? ⟨(ad.add (i * 6)).block, (ad.add (i * 6)).off + 4, none⟩ = some (.int .i64 y.f4) := pw_cell_below hB0 HX.out.2.2.2.2.1
  have m5 : w1.drew.cell? ⟨(ad.add (i * 6)).block, (ad.add (i * 6)).off + 5, none⟩ = some (.slice A5 m c5) := pw_cell_below hB0 HX.out.2.2.2.2.2
  have HB0 := Aside0.mk hB0
  have HBX := Aside0.mk hb0
  have HW1 := Aside0.mk hw1
  clear hB0 hb0 hw1
  go_wp2
  rw [← HW1.out]
  refine start_ (n := 18) (S := fun w' => w'.cell? ⟨g, 4, none⟩ = some (.slice (some ad) N c) ∧ w'.cell? (ad.add (i * 6)) = some (.int .i64 y.f0) ∧ w'.cell? ⟨(ad.add (i * 6)).block, (ad.add (i * 6)).off + 1, none⟩ = some (.int .i64 y.f1) ∧ w'.cell? ⟨(ad.add (i * 6)).block, (ad.add (i * 6)).off + 2, none⟩ = some (.int .i64 y.f2) ∧ w'.cell? ⟨(ad.add (i * 6)).block, (ad.add (i * 6)).off + 3, none⟩ = some (.int .i64 y.f3) ∧ w'.cell? ⟨(ad.add (i * 6)).block, (ad.add (i * 6)).off + 4, none⟩ = some (.int .i64 y.f4) ∧ w'.cell? ⟨(ad.add (i * 6)).block, (ad.add (i * 6)).off + 5, none⟩ = some (.slice A5 m c5)) (ds := [16]) #[false, false, false, false, false, false, false, false, false, false, false, false, false, false, false, false, false, false] (by kernel_rfl) rfl rfl ⟨c4, m0, m1, m2, m3, m4, m5⟩ (fun hHeld => ?_)
  refine with_tabW rg55.tab7 rg55.bits7 (fun HT_ HW_ => ?_)
  refine pure_ (i := 0) (N := some 28) (v := ?_) (a' := ?_) #[true, false, false, false, false, false, false, false, false, false, false, false, false, false, false, false, false, false] rfl rfl (any_of HT_.out (by kernel_rfl)) (fun _ _ _ h => h) (Or.inl ⟨by rfl, ?_⟩) ?_ ?_
  rotate_left
  · intro w'
    go_simp
    with_reducible rfl
  rotate_left
  · simp only [Act.put, List.setIfInBounds_toArray, List.set_cons_zero, List.set_cons_succ, i64_w, i32_w]
    rfl
  refine pure_ (i := 1) (N := some 29) (v := ?_) (a' := ?_) #[true, true, false, false, false, false, false, false, false, false, false, false, false, false, false, false, false, false] rfl rfl (any_of HT_.out (by kernel_rfl)) (fun _ _ _ h => h) (Or.inl ⟨by rfl, ?_⟩) ?_ ?_
  rotate_left
  · intro w'
    go_simp
    with_reducible rfl
  rotate_left
  · simp only [Act.put, List.setIfInBounds_toArray, List.set_cons_zero, List.set_cons_succ, i64_w, i32_w]
    rfl
  refine pure_ (i := 2) (N := some 30) (v := ?_) (a' := ?_) #[true, true, true, false, false, false, false, false, false, false, false, false, false, false, false, false, false, false] rfl rfl (any_of HT_.out (by kernel_rfl)) (fun _ _ _ h => h) (Or.inl ⟨by rfl, ?_⟩) ?_ ?_
  rotate_left
  · intro w'
    go_simp
    with_reducible rfl
  rotate_left
  · simp only [Act.put, List.setIfInBounds_toArray, List.set_cons_zero, List.set_cons_succ, i64_w, i32_w]
    rfl
  refine pure_ (i := 4) (N := some 32) (v := ?_) (a' := ?_) #[true, true, true, false, true, false, false, false, false, false, false, false, false, false, false, false, false, false] rfl rfl (any_of HT_.out (by kernel_rfl)) (fun _ _ _ h => h) (Or.inl ⟨by rfl, ?_⟩) ?_ ?_
  rotate_left
  · intro w'
    go_simp
    with_reducible rfl
  rotate_left
  · simp only [Act.put, List.setIfInBounds_toArray, List.set_cons_zero, List.set_cons_succ, i64_w, i32_w]
    rfl
  refine pure_ (i := 5) (N := some 33) (v := ?_) (a' := ?_) #[true, true, true, false, true, true, false, false, false, false, false, false, false, false, false, false, false, false] rfl rfl (any_of HT_.out (by kernel_rfl)) (fun _ _ _ h => h) (Or.inl ⟨by rfl, ?_⟩) ?_ ?_
  rotate_left
  · intro w'
    go_simp
    with_reducible rfl
  rotate_left
  · simp only [Act.put, List.setIfInBounds_toArray, List.set_cons_zero, List.set_cons_succ, i64_w, i32_w]
    rfl
  refine pure_ (i := 6) (N := some 34) (v := ?_) (a' := ?_) #[true, true, true, false, true, true, true, false, false, false, false, false, false, false, false, false, false, false] rfl rfl (any_of HT_.out (by kernel_rfl)) (fun _ _ _ h => h) (Or.inl ⟨by rfl, ?_⟩) ?_ ?_
  rotate_left
  · intro w'
    go_simp
    with_reducible rfl
  rotate_left
  · simp only [Act.put, List.setIfInBounds_toArray, List.set_cons_zero, List.set_cons_succ, i64_w, i32_w]
    rfl
  refine pure_ (i := 10) (N := some 38) (v := ?_) (a' := ?_) #[true, true, true, false, true, true, true, false, false, false, true, false, false, false, false, false, false, false] rfl rfl (any_of HT_.out (by kernel_rfl)) (fun _ _ _ h => h) (Or.inl ⟨by rfl, ?_⟩) ?_ ?_
  rotate_left
  · intro w'
    go_simp
    with_reducible rfl
  rotate_left
  · simp only [Act.put, List.setIfInBounds_toArray, List.set_cons_zero, List.set_cons_succ, i64_w, i32_w]
    rfl
  refine pure_ (i := 11) (N := some 39) (v := ?_) (a' := ?_) #[true, true, true, false, true, true, true, false, false, false, true, true, false, false, false, false, false, false] rfl rfl (any_of HT_.out (by kernel_rfl)) (fun _ _ _ h => h) (Or.inl ⟨by rfl, ?_⟩) ?_ ?_
  rotate_left
  · intro w'
    go_simp
    with_reducible rfl
  rotate_left
  · simp only [Act.put, List.setIfInBounds_toArray, List.set_cons_zero, List.set_cons_succ, i64_w, i32_w]
    rfl
  refine pure_ (i := 12) (N := some 40) (v := ?_) (a' := ?_) #[true, true, true, false, true, true, true, false, false, false, true, true, true, false, false, false, false, false] rfl rfl (any_of HT_.out (by kernel_rfl)) (fun _ _ _ h => h) (Or.inl ⟨by rfl, ?_⟩) ?_ ?_
  rotate_left
  · intro w'
    go_simp
    with_reducible rfl
  rotate_left
  · simp only [Act.put, List.setIfInBounds_toArray, List.set_cons_zero, List.set_cons_succ, i64_w, i32_w]
    rfl
  refine take_ (i := 3) (N := some 31) (v := ?_) (a' := ?_) #[true, true, true, true, true, true, true, false, false, false, true, true, true, false, false, false, false, false] rfl rfl (take_ofW HT_.out HW_.out (by kernel_rfl)) (fun _ _ _ h => h) (Or.inl ⟨by rfl, ?_⟩) hHeld ?_ ?_
  rotate_left
  · rintro w' ⟨s0, s1, s2, s3, s4, s5, s6⟩
    go_simp
    with_reducible rfl
  rotate_left
  · simp only [Act.put, List.setIfInBounds_toArray, List.set_cons_zero, List.set_cons_succ, i64_w, i32_w]
    rfl
  refine take_ (i := 7) (N := some 35) (v := ?_) (a' := ?_) #[true, true, true, true, true, true, true, true, false, false, true, true, true, false, false, false, false, false] rfl rfl (take_ofW HT_.out HW_.out (by kernel_rfl)) (fun _ _ _ h => h) (Or.inl ⟨by rfl, ?_⟩) hHeld ?_ ?_
  rotate_left
  · rintro w' ⟨s0, s1, s2, s3, s4, s5, s6⟩
    go_simp
    with_reducible rfl
  rotate_left
  · simp only [Act.put, List.setIfInBounds_toArray, List.set_cons_zero, List.set_cons_succ, i64_w, i32_w]
    rfl
  refine pure_ (i := 8) (N := some 36) (v := ?_) (a' := ?_) #[true, true, true, true, true, true, true, true, true, false, true, true, true, false, false, false, false, false] rfl rfl (any_of HT_.out (by kernel_rfl)) (fun _ _ _ h => h) (Or.inl ⟨by rfl, ?_⟩) ?_ ?_
  rotate_left
  · intro w'
    go_simp
    with_reducible rfl
  rotate_left
  · simp only [Act.put, List.setIfInBounds_toArray, List.set_cons_zero, List.set_cons_succ, i64_w, i32_w]
    rfl
  refine pure_ (i := 9) (N := some 37) (v := ?_) (a' := ?_) #[true, true, true, true, true, true, true, true, true, true, true, true, true, false, false, false, false, false] rfl rfl (any_of HT_.out (by kernel_rfl)) (fun _ _ _ h => h) (Or.inl ⟨by rfl, ?_⟩) ?_ ?_
  rotate_left
  · intro w'
    go_simp
    with_reducible rfl
  rotate_left
  · simp only [Act.put, List.setIfInBounds_toArray, List.set_cons_zero, List.set_cons_succ, i64_w, i32_w]
    rfl
  refine pure_ (i := 13) (N := some 41) (v := ?_) (a' := ?_) #[true, true, true, true, true, true, true, true, true, true, true, true, true, true, false, false, false, false] rfl rfl (any_of HT_.out (by kernel_rfl)) (fun _ _ _ h => h) (Or.inl ⟨by rfl, ?_⟩) ?_ ?_
  rotate_left
  · intro w'
    go_simp
    with_reducible rfl
  rotate_left
  · simp only [Act.put, List.setIfInBounds_toArray, List.set_cons_zero, List.set_cons_succ, i64_w, i32_w]
    rfl
  refine pure_ (i := 14) (N := some 42) (v := ?_) (a' := ?_) #[true, true, true, true, true, true, true, true, true, true, true, true, true, true, true, false, false, false] rfl rfl (any_of HT_.out (by kernel_rfl)) (fun _ _ _ h => h) (Or.inl ⟨by rfl, ?_⟩) ?_ ?_
  rotate_left
  · intro w'
    go_simp
    with_reducible rfl
  rotate_left
  · simp only [Act.put, List.setIfInBounds_toArray, List.set_cons_zero, List.set_cons_succ, i64_w, i32_w]
    rfl
  refine take_ (i := 15) (N := some 43) (v := ?_) (a' := ?_) #[true, true, true, true, true, true, true, true, true, true, true, true, true, true, true, true, false, false] rfl rfl (take_ofW HT_.out HW_.out (by kernel_rfl)) (fun _ _ _ h => h) (Or.inl ⟨by rfl, ?_⟩) hHeld ?_ ?_
  rotate_left
  · rintro w' ⟨s0, s1, s2, s3, s4, s5, s6⟩
    go_simp
    with_reducible rfl
  rotate_left
  · simp only [Act.put, List.setIfInBounds_toArray, List.set_cons_zero, List.set_cons_succ, i64_w, i32_w]
    rfl
  refine last_ (i := 16) (N := none) #[true, true, true, true, true, true, true, true, true, true, true, true, true, true, true, true, true, false] rfl rfl (one_of HT_.out (by kernel_rfl)) (by decide) (fun K hK => ?_)
  refine skip_store (by rfl) rfl 33 (.tmp 4) (.tmp 43) rfl (.agg #[.int .i64 y.f0, .int .i64 y.f1, .int .i64 y.f2, .int .i64 y.f3, .int .i64 y.f4, .slice A5 m c5]) [.int .i64 y.f0, .int .i64 y.f1, .int .i64 y.f2, .int .i64 y.f3, .int .i64 y.f4, .slice A5 m c5] rfl rfl HBX.out rfl size33 (by show 0 + 6 ≤ 6; omega) (by simp [Value.oneCell']) ?_
  refine hK.out _ _ ?_
  clear hK K
  refine pure_ (i := 17) (N := some 5) (v := ?_) (a' := ?_) #[true, true, true, true, true, true, true, true, true, true, true, true, true, true, true, true, true, true] rfl rfl (any_of HT_.out (by kernel_rfl)) (fun _ _ _ h => h) (Or.inl ⟨by rfl, ?_⟩) ?_ ?_
  rotate_left
  · intro w'
    go_simp
    with_reducible rfl
  rotate_left
  · simp only [Act.put, List.setIfInBounds_toArray, List.set_cons_zero, List.set_cons_succ, i64_w, i32_w]
    rfl
  refine done_ (done_of HT_.out (by kernel_rfl)) ?_
  have g3 := blk_full (w := w1.drew) [.int .i64 y.f0, .int .i64 y.f1, .int .i64 y.f2, .int .i64 y.f3, .int .i64 y.f4, .slice A5 m c5] HBX.out rfl
  have hB : Below W.heap.size W (w1.drew.setCells W.heap.size 0 [.int .i64 y.f0, .int .i64 y.f1, .int .i64 y.f2, .int .i64 y.f3, .int .i64 y.f4, .slice A5 m c5]) :=
    Frm.below (Frm.setCells (Frm.of_below HB0.out (fun k => k = W.heap.size)).drew (.inl rfl) 0 [.int .i64 y.f0, .int .i64 y.f1, .int .i64 y.f2, .int .i64 y.f3, .int .i64 y.f4, .slice A5 m c5]) (fun k hk _ => by have : k = W.heap.size := hk; omega) (Nat.le_refl _)
  obtain ⟨w4, hw4⟩ : ∃ w4, w4 = w1.drew.setCells W.heap.size 0 [.int .i64 y.f0, .int .i64 y.f1, .int .i64 y.f2, .int .i64 y.f3, .int .i64 y.f4, .slice A5 m c5] := ⟨_, rfl⟩
  rw [← hw4] at g3 hB ⊢
  have G4 := Aside0.mk g3
  have HB := Aside0.mk hB
  clear hw4 g3 hB
  go_wp2
  refine bodyPost_ret (results_cell_tmp rfl _ _ W.heap.size 33 _ (0, 0) _ _ rfl rfl G4.out Try.underlying33 rfl (by kernel_rfl)) rfl ?_
  exact ⟨A5, c5, rfl, HC.out.1, HC.out.2, HB.out⟩
end
end Go.Proofs.Ytcbejpmmlcdhnaa.PW
namespace Go.Proofs.Ytcbejpmmlcdhnaa.PW
open Go.RowKit Go.Proofs.YtcbejpmmlcdhnaaW.PrintWords Go.Proofs.YtcbejpmmlcdhnaaW.PrintLast Go.Proofs.YtcbejpmmlcdhnaaW.PrintMore
set_option linter.unusedVariables false
set_option linter.unusedSimpArgs false
def rg50.T1 : Bool × List (List Nat × List Nat) := (true, [([], []), ([0], [0]), ([1], [1]), ([2], [2]), ([], []), ([4], [4]), ([5], [5]), ([6], [6]), ([7], [7]), ([], []), ([9], [9]), ([10], [10]), ([11], [11]), ([8, 12], [8, 12]), ([3, 13], [3, 13]), ([14, 0, 1, 2, 3, 4, 5, 6, 7, 8, 9, 10, 11, 12, 13, 14], [14])])
def rg50.B1 : List Nat := [0, 1, 3, 7, 0, 16, 48, 112, 240, 0, 512, 1536, 3584, 8176, 16383, 32767]
theorem rg50.tab1 : rtab .any (opsOf Try.f50 1) = rg50.T1 := by kernel_rfl
theorem rg50.bits1 : waitsOk rg50.T1.2 rg50.B1 = true := by kernel_rfl

theorem cut25x (A : Option Addr) (m c d q : Nat) (h : m = d + q) (hc : m ≤ c) (L : List S33) (w : World) (hC : Kd.C k33 w A m L) :
    ∃ B, (∀ W, (Instr.slice 25 (.slice A m c) (some (.int .i64 (d : Int))) none none).run Try.prog W = .ok (.slice B q (c - d)) W) ∧ Kd.C k33 w B q (L.drop d) ∧ q ≤ c - d := by
  have hL : L.length = m := hC.1
  refine ⟨if c = d then A else A.map (·.add (d * 6)), ?_, ?_, by omega⟩
  · intro W
    obtain ⟨i0, hi0, hz⟩ := Option.map_eq_some_iff.1 info33
    simp only [Prod.mk.injEq] at hz
    have := cut_from (P := Try.prog) 25 33 .i64 Try.underlying25 hi0 6 hz.2.1 A m c (d : Int) (by omega) (by omega) W
    rw [Int.toNat_natCast, show m - d = q by omega] at this
    exact this
  · have h2 : Kd.C k33 w (if c = d then A else A.map (·.add (d * 6))) (L.drop d).length (L.drop d) := Kd.C_drop (by rw [hL]; exact hC) (by omega) (by omega)
    rw [show (L.drop d).length = q by rw [List.length_drop]; omega] at h2
    exact h2
set_option maxHeartbeats 4000000 in
set_option maxRecDepth 100000 in
theorem xall_C {W : World} {base g : Nat} {ok : Nat → Prop} {x : XS} (h : XAt W base ok g x) (hlen : x.l.length ≤ 4294967296) :
    Calls Try.prog 50 #[.pointer (some ⟨g, 0, none⟩)] W fun e w' => ∃ A c, e = .returned (.slice A x.kept c) ∧ x.kept ≤ c ∧ Kd.C k33 W A x.kept (x.l.drop (x.l.length - x.kept)) ∧ Drawn0 W w' := by
  obtain ⟨k1, k2, k3, A, c, hb, hS⟩ := h
  obtain ⟨N, hN⟩ : ∃ N, x.l.length = N := ⟨_, rfl⟩
  obtain ⟨kp, hkp⟩ : ∃ kp, x.kept = kp := ⟨_, rfl⟩
  obtain ⟨q1, q2, q3⟩ := Kd.S_reads' hS
  rw [hN] at hb q2 q3 hlen ⊢
  rw [hN, hkp] at k3
  rw [hkp] at hb ⊢
  obtain ⟨B, hrun, hC, hc⟩ := cut25x A N c (N - kp) kp (by omega) q2 x.l W q3
  have c4 : W.drew.cell? ⟨g, 4, none⟩ = some (.slice A N c) := (blk_cell hb 4).trans rfl
  have c5 : W.drew.cell? ⟨g, 5, none⟩ = some (.int .i64 (kp : Int)) := (blk_cell hb 5).trans rfl
  have hs1 : wrap64 ((N : Int) - (kp : Int)) = ((N - kp : Nat) : Int) := by unfold wrap64; omega
  obtain ⟨z1, hz1⟩ : ∃ z1 : Int, z1 = ((N - kp : Nat) : Int) := ⟨_, rfl⟩
  rw [← hz1] at hs1 hrun
  have HC := Aside0.mk (And.intro hc hC)
  obtain ⟨cd, hcd⟩ : ∃ cd, cd = c - (N - kp) := ⟨_, rfl⟩
  rw [← hcd] at hrun
  have HCD := Aside0.mk hcd
  clear k1 k2 k3 hb hS q1 q2 q3 hc hC hz1 hN hkp hcd
  go_enter Try.func50, Try.ntmps50
  go_wp2
  refine start_ (n := 16) (S := fun w' => w'.cell? ⟨g, 4, none⟩ = some (.slice A N c) ∧ w'.cell? ⟨g, 5, none⟩ = some (.int .i64 (kp : Int))) (ds := []) #[false, false, false, false, false, false, false, false, false, false, false, false, false, false, false, false] (by kernel_rfl) rfl rfl ⟨c4, c5⟩ (fun hHeld => ?_)
  refine with_tabW rg50.tab1 rg50.bits1 (fun HT_ HW_ => ?_)
  refine pure_ (i := 0) (N := some 3) (v := ?_) (a' := ?_) #[true, false, false, false, false, false, false, false, false, false, false, false, false, false, false, false] rfl rfl (any_of HT_.out (by kernel_rfl)) (fun _ _ _ h => h) (Or.inl ⟨by rfl, ?_⟩) ?_ ?_
  rotate_left
  · intro w'
    go_simp
    with_reducible rfl
  rotate_left
  · simp only [Act.put, List.setIfInBounds_toArray, List.set_cons_zero, List.set_cons_succ, i64_w, i32_w]
    rfl
  refine pure_ (i := 1) (N := some 4) (v := ?_) (a' := ?_) #[true, true, false, false, false, false, false, false, false, false, false, false, false, false, false, false] rfl rfl (any_of HT_.out (by kernel_rfl)) (fun _ _ _ h => h) (Or.inl ⟨by rfl, ?_⟩) ?_ ?_
  rotate_left
  · intro w'
    go_simp
    with_reducible rfl
  rotate_left
  · simp only [Act.put, List.setIfInBounds_toArray, List.set_cons_zero, List.set_cons_succ, i64_w, i32_w]
    rfl
  refine pure_ (i := 2) (N := some 5) (v := ?_) (a' := ?_) #[true, true, true, false, false, false, false, false, false, false, false, false, false, false, false, false] rfl rfl (any_of HT_.out (by kernel_rfl)) (fun _ _ _ h => h) (Or.inl ⟨by rfl, ?_⟩) ?_ ?_
  rotate_left
  · intro w'
    go_simp
    with_reducible rfl
  rotate_left
  · simp only [Act.put, List.setIfInBounds_toArray, List.set_cons_zero, List.set_cons_succ, i64_w, i32_w]
    rfl
  refine pure_ (i := 4) (N := some 7) (v := ?_) (a' := ?_) #[true, true, true, false, true, false, false, false, false, false, false, false, false, false, false, false] rfl rfl (any_of HT_.out (by kernel_rfl)) (fun _ _ _ h => h) (Or.inl ⟨by rfl, ?_⟩) ?_ ?_
  rotate_left
  · intro w'
    go_simp
    with_reducible rfl
  rotate_left
  · simp only [Act.put, List.setIfInBounds_toArray, List.set_cons_zero, List.set_cons_succ, i64_w, i32_w]
    rfl
  refine pure_ (i := 5) (N := some 8) (v := ?_) (a' := ?_) #[true, true, true, false, true, true, false, false, false, false, false, false, false, false, false, false] rfl rfl (any_of HT_.out (by kernel_rfl)) (fun _ _ _ h => h) (Or.inl ⟨by rfl, ?_⟩) ?_ ?_
  rotate_left
  · intro w'
    go_simp
    with_reducible rfl
  rotate_left
  · simp only [Act.put, List.setIfInBounds_toArray, List.set_cons_zero, List.set_cons_succ, i64_w, i32_w]
    rfl
  refine pure_ (i := 6) (N := some 9) (v := ?_) (a' := ?_) #[true, true, true, false, true, true, true, false, false, false, false, false, false, false, false, false] rfl rfl (any_of HT_.out (by kernel_rfl)) (fun _ _ _ h => h) (Or.inl ⟨by rfl, ?_⟩) ?_ ?_
  rotate_left
  · intro w'
    go_simp
    with_reducible rfl
  rotate_left
  · simp only [Act.put, List.setIfInBounds_toArray, List.set_cons_zero, List.set_cons_succ, i64_w, i32_w]
    rfl
  refine pure_ (i := 9) (N := some 12) (v := ?_) (a' := ?_) #[true, true, true, false, true, true, true, false, false, true, false, false, false, false, false, false] rfl rfl (any_of HT_.out (by kernel_rfl)) (fun _ _ _ h => h) (Or.inl ⟨by rfl, ?_⟩) ?_ ?_
  rotate_left
  · intro w'
    go_simp
    with_reducible rfl
  rotate_left
  · simp only [Act.put, List.setIfInBounds_toArray, List.set_cons_zero, List.set_cons_succ, i64_w, i32_w]
    rfl
  refine pure_ (i := 10) (N := some 13) (v := ?_) (a' := ?_) #[true, true, true, false, true, true, true, false, false, true, true, false, false, false, false, false] rfl rfl (any_of HT_.out (by kernel_rfl)) (fun _ _ _ h => h) (Or.inl ⟨by rfl, ?_⟩) ?_ ?_
  rotate_left
  · intro w'
    go_simp
    with_reducible rfl
  rotate_left
  · simp only [Act.put, List.setIfInBounds_toArray, List.set_cons_zero, List.set_cons_succ, i64_w, i32_w]
    rfl
  refine pure_ (i := 11) (N := some 14) (v := ?_) (a' := ?_) #[true, true, true, false, true, true, true, false, false, true, true, true, false, false, false, false] rfl rfl (any_of HT_.out (by kernel_rfl)) (fun _ _ _ h => h) (Or.inl ⟨by rfl, ?_⟩) ?_ ?_
  rotate_left
  · intro w'
    go_simp
    with_reducible rfl
  rotate_left
  · simp only [Act.put, List.setIfInBounds_toArray, List.set_cons_zero, List.set_cons_succ, i64_w, i32_w]
    rfl
  refine take_ (i := 3) (N := some 6) (v := ?_) (a' := ?_) #[true, true, true, true, true, true, true, false, false, true, true, true, false, false, false, false] rfl rfl (take_ofW HT_.out HW_.out (by kernel_rfl)) (fun _ _ _ h => h) (Or.inl ⟨by rfl, ?_⟩) hHeld ?_ ?_
  rotate_left
  · rintro w' ⟨s0, s1⟩
    go_simp
    with_reducible rfl
  rotate_left
  · simp only [Act.put, List.setIfInBounds_toArray, List.set_cons_zero, List.set_cons_succ, i64_w, i32_w]
    rfl
  refine take_ (i := 7) (N := some 10) (v := ?_) (a' := ?_) #[true, true, true, true, true, true, true, true, false, true, true, true, false, false, false, false] rfl rfl (take_ofW HT_.out HW_.out (by kernel_rfl)) (fun _ _ _ h => h) (Or.inl ⟨by rfl, ?_⟩) hHeld ?_ ?_
  rotate_left
  · rintro w' ⟨s0, s1⟩
    go_simp
    with_reducible rfl
  rotate_left
  · simp only [Act.put, List.setIfInBounds_toArray, List.set_cons_zero, List.set_cons_succ, i64_w, i32_w]
    rfl
  refine pure_ (i := 8) (N := some 11) (v := ?_) (a' := ?_) #[true, true, true, true, true, true, true, true, true, true, true, true, false, false, false, false] rfl rfl (any_of HT_.out (by kernel_rfl)) (fun _ _ _ h => h) (Or.inl ⟨by rfl, ?_⟩) ?_ ?_
  rotate_left
  · intro w'
    go_simp
    with_reducible rfl
  rotate_left
  · simp only [Act.put, List.setIfInBounds_toArray, List.set_cons_zero, List.set_cons_succ, i64_w, i32_w]
    rfl
  refine take_ (i := 12) (N := some 15) (v := ?_) (a' := ?_) #[true, true, true, true, true, true, true, true, true, true, true, true, true, false, false, false] rfl rfl (take_ofW HT_.out HW_.out (by kernel_rfl)) (fun _ _ _ h => h) (Or.inl ⟨by rfl, ?_⟩) hHeld ?_ ?_
  rotate_left
  · rintro w' ⟨s0, s1⟩
    go_simp
    with_reducible rfl
  rotate_left
  · simp only [Act.put, List.setIfInBounds_toArray, List.set_cons_zero, List.set_cons_succ, i64_w, i32_w]
    rfl
  refine pure_ (i := 13) (N := some 16) (v := ?_) (a' := ?_) #[true, true, true, true, true, true, true, true, true, true, true, true, true, true, false, false] rfl rfl (any_of HT_.out (by kernel_rfl)) (fun _ _ _ h => h) (Or.inl ⟨by rfl, ?_⟩) ?_ ?_
  rotate_left
  · intro w'
    go_simp
    with_reducible rfl
  rotate_left
  · simp only [Act.put, List.setIfInBounds_toArray, List.set_cons_zero, List.set_cons_succ, i64_w, i32_w]
    rfl
  refine pure_ (i := 14) (N := some 17) (v := ?_) (a' := ?_) #[true, true, true, true, true, true, true, true, true, true, true, true, true, true, true, false] rfl rfl (any_of HT_.out (by kernel_rfl)) (fun _ _ _ h => h) (Or.inl ⟨by rfl, ?_⟩) ?_ ?_
  rotate_left
  · intro w'
    go_simp
    with_reducible rfl
  rotate_left
  · simp only [Act.put, List.setIfInBounds_toArray, List.set_cons_zero, List.set_cons_succ, i64_w, i32_w]
    rfl
  refine pure_ (i := 15) (N := some 2) (v := ?_) (a' := ?_) #[true, true, true, true, true, true, true, true, true, true, true, true, true, true, true, true] rfl rfl (any_of HT_.out (by kernel_rfl)) (fun _ _ _ h => h) (Or.inl ⟨by rfl, ?_⟩) ?_ ?_
  rotate_left
  · intro w'
    go_simp
    with_reducible rfl
  rotate_left
  · simp only [Act.put, List.setIfInBounds_toArray, List.set_cons_zero, List.set_cons_succ, i64_w, i32_w]
    rfl
  refine done_ (done_of HT_.out (by kernel_rfl)) ?_
  go_wp2
  go_ret
  exact ⟨B, cd, rfl, by rw [HCD.out]; exact HC.out.1, HC.out.2, ⟨⟨1, rfl⟩⟩⟩
end Go.Proofs.Ytcbejpmmlcdhnaa.PW
namespace Go.Proofs.Ytcbejpmmlcdhnaa.PW
open Go.RowKit Go.Proofs.YtcbejpmmlcdhnaaW.PrintWords Go.Proofs.YtcbejpmmlcdhnaaW.PrintLast Go.Proofs.YtcbejpmmlcdhnaaW.PrintMore
set_option linter.unusedVariables false
set_option linter.unusedSimpArgs false

/-- Entries whose ops stand in W0 (they are shared): read in whatever comes of W0. -/
def kS (W0 : World) : Kd S33 where
  sz := 6
  E := []
  K := fun _ x cs => (cs.length = 6 ∧ ∀ u ∈ cs, u.oneCell' = true) ∧ ∀ W2, Below W0.heap.size W0 W2 → k33.K W2 x cs
  M := fun _ _ _ x cs => (cs.length = 6 ∧ ∀ u ∈ cs, u.oneCell' = true) ∧ ∀ W2, Below W0.heap.size W0 W2 → k33.K W2 x cs
  K_len := fun h => h.1.1
  K_one := fun h => h.1.2
  K_below := fun _ h => h
  K_of_M := fun h => h
  M_mono := fun _ h => h
  M_bound := fun h => h
  M_move := fun _ h => h
  M_lower := fun _ h => h
theorem kS_mk {W0 : World} {x : S33} {A : Option Addr} {n c : Nat} (hn : n = x.f5.length) (hc : n ≤ c) (hF : Kd.F k55 W0 (fun k => k < W0.heap.size) A n x.f5) :
    ((cells6 x (.slice A n c)).length = 6 ∧ ∀ u ∈ cells6 x (.slice A n c), u.oneCell' = true) ∧ ∀ W2, Below W0.heap.size W0 W2 → k33.K W2 x (cells6 x (.slice A n c)) := by
  subst hn
  exact ⟨⟨rfl, by simp [cells6, Value.oneCell']⟩, fun W2 hb => k33_mk W2 x hc (hF W2 (fun k hk _ => hb.block k hk))⟩
theorem kS_C {W0 w : World} (hb : Below W0.heap.size W0 w) {A : Option Addr} {n : Nat} {xs : List S33} (h : Kd.C (kS W0) w A n xs) : Kd.C k33 w A n xs := ReadsRow.imp_ h (Below.refl _ _) (fun _ _ hp => hp.2 w hb)
def XS.afc (x : XS) (a m : Int) : Int := if m < 0 ∨ 64 < m then 1 else if a < x.xfl then 60 else if x.la < a then 61 else 0
section
variable {W : World} {base g : Nat} {ok : Nat → Prop} {x : XS}
set_option maxHeartbeats 4000000 in
set_option maxRecDepth 100000 in
theorem xafter_neg (h : XAt W base ok g x) (hlen : x.l.length ≤ 4294967296) (a m : Int) (hm : m < 0) :
    Calls Try.prog 56 #[.pointer (some ⟨g, 0, none⟩), .int .i64 a, .int .i64 m] W fun e w' => e = .returned (.tuple #[.slice none 0 0, .int .i64 1]) ∧ Below W.heap.size W w' := by
  have H := Aside0.mk h
  have HL := Aside0.mk hlen
  clear h hlen
  go_enter Try.func56, Try.ntmps56
  go_wp2_with fail
  refine (xfloor_C H.out HL.out).mono ?_
  rintro e w1 ⟨rfl, ⟨⟨n1, rfl⟩⟩⟩
  go_wp2_with fail
  refine (xlast_C (x := x) (XAt_below H.out (pw_below_drewN (Below.refl _ _) _)) HL.out).mono ?_
  rintro e w1 ⟨rfl, ⟨⟨n2, rfl⟩⟩⟩
  go_wp2
  go_ret2
  exact ⟨rfl, pw_below_drewN (Below.refl _ _) _⟩
set_option maxHeartbeats 4000000 in
set_option maxRecDepth 100000 in
theorem xafter_big (h : XAt W base ok g x) (hlen : x.l.length ≤ 4294967296) (a m : Int) (hm0 : 0 ≤ m) (hm : 64 < m) :
    Calls Try.prog 56 #[.pointer (some ⟨g, 0, none⟩), .int .i64 a, .int .i64 m] W fun e w' => e = .returned (.tuple #[.slice none 0 0, .int .i64 1]) ∧ Below W.heap.size W w' := by
  have H := Aside0.mk h
  have HL := Aside0.mk hlen
  clear h hlen
  go_enter Try.func56, Try.ntmps56
  go_wp2_with fail
  refine (xfloor_C H.out HL.out).mono ?_
  rintro e w1 ⟨rfl, ⟨⟨n1, rfl⟩⟩⟩
  go_wp2_with fail
  refine (xlast_C (x := x) (XAt_below H.out (pw_below_drewN (Below.refl _ _) _)) HL.out).mono ?_
  rintro e w1 ⟨rfl, ⟨⟨n2, rfl⟩⟩⟩
  go_wp2
  go_ret2
  exact ⟨rfl, pw_below_drewN (Below.refl _ _) _⟩
set_option maxHeartbeats 4000000 in
set_option maxRecDepth 100000 in
theorem xafter_old (h : XAt W base ok g x) (hlen : x.l.length ≤ 4294967296) (a m : Int) (hm0 : 0 ≤ m) (hm1 : m ≤ 64) (hm : decide (a < x.xfl) = true) :
    Calls Try.prog 56 #[.pointer (some ⟨g, 0, none⟩), .int .i64 a, .int .i64 m] W fun e w' => e = .returned (.tuple #[.slice none 0 0, .int .i64 60]) ∧ Below W.heap.size W w' := by
  have H := Aside0.mk h
  have HL := Aside0.mk hlen
  clear h hlen
  go_enter Try.func56, Try.ntmps56
  go_wp2_with fail
  refine (xfloor_C H.out HL.out).mono ?_
  rintro e w1 ⟨rfl, ⟨⟨n1, rfl⟩⟩⟩
  go_wp2_with fail
  refine (xlast_C (x := x) (XAt_below H.out (pw_below_drewN (Below.refl _ _) _)) HL.out).mono ?_
  rintro e w1 ⟨rfl, ⟨⟨n2, rfl⟩⟩⟩
  go_wp2
  go_ret2
  exact ⟨rfl, pw_below_drewN (Below.refl _ _) _⟩
set_option maxHeartbeats 4000000 in
set_option maxRecDepth 100000 in
theorem xafter_gap (h : XAt W base ok g x) (hlen : x.l.length ≤ 4294967296) (a m : Int) (hm0 : 0 ≤ m) (hm1 : m ≤ 64) (hm : decide (a < x.xfl) = false) (hm2 : decide (x.la < a) = true) :
    Calls Try.prog 56 #[.pointer (some ⟨g, 0, none⟩), .int .i64 a, .int .i64 m] W fun e w' => e = .returned (.tuple #[.slice none 0 0, .int .i64 61]) ∧ Below W.heap.size W w' := by
  have H := Aside0.mk h
  have HL := Aside0.mk hlen
  clear h hlen
  go_enter Try.func56, Try.ntmps56
  go_wp2_with fail
  refine (xfloor_C H.out HL.out).mono ?_
  rintro e w1 ⟨rfl, ⟨⟨n1, rfl⟩⟩⟩
  go_wp2_with fail
  refine (xlast_C (x := x) (XAt_below H.out (pw_below_drewN (Below.refl _ _) _)) HL.out).mono ?_
  rintro e w1 ⟨rfl, ⟨⟨n2, rfl⟩⟩⟩
  go_wp2
  go_ret2
  exact ⟨rfl, pw_below_drewN (Below.refl _ _) _⟩
set_option maxHeartbeats 8000000 in
set_option maxRecDepth 100000 in
theorem xafter_ok (h : XAt W base ok g x) (hlen : x.l.length ≤ 4294967296) (la fl a m K : Nat) (hla : x.la = (la : Int)) (hfl : x.xfl = (fl : Int)) (hlt : la ≤ 2147483647) (hst : la = x.fl + x.l.length) (hxf : x.fl ≤ fl) (hfa : fl ≤ a) (hal : a ≤ la) (hm : m ≤ 64) (hK : K = min m (la - a)) :
    Calls Try.prog 56 #[.pointer (some ⟨g, 0, none⟩), .int .i64 (a : Int), .int .i64 (m : Int)] W fun e w' => ∃ A c, e = .returned (.tuple #[.slice A K c, .int .i64 0]) ∧ K ≤ c ∧ Kd.C k33 w' A K ((x.l.drop (a - x.fl)).take K) ∧ Below W.heap.size W w' := by
  have hX : XAt W base (fun k => ok k ∧ k < W.heap.size) g x := by
    obtain ⟨k1, k2, k3, A, c, hb, hS⟩ := h
    exact ⟨k1, ⟨k2, blk_lt hb⟩, k3, A, c, hb, Kd.S_mono (Kd.S_bound hS) (fun k hk => ⟨⟨hk.1.1, hk.2.2.1⟩, hk.1.2⟩)⟩
  have H := Aside0.mk hX
  have HL := Aside0.mk hlen
  have HLA := Aside0.mk hla
  have HFL := Aside0.mk hfl
  have HST := Aside0.mk (And.intro hst (And.intro hxf (And.intro hfa hal)))
  have HKK := Aside0.mk hK
  have hd1 : decide (a < fl) = false := decide_eq_false (by omega)
  have hd2 : decide (la < a) = false := decide_eq_false (by omega)
  have hd3 : decide ((a : Int) < (fl : Int)) = false := decide_eq_false (by omega)
  have hd4 : decide ((la : Int) < (a : Int)) = false := decide_eq_false (by omega)
  have hlast : ∀ k, k < K → ∃ y, x.l[a + k - x.fl]? = some y ∧ (x.l.drop (a - x.fl)).take (k + 1) = (x.l.drop (a - x.fl)).take k ++ [y] := by
    intro k hk
    have hlt2 : a + k - x.fl < x.l.length := by omega
    refine ⟨_, List.getElem?_eq_getElem hlt2, ?_⟩
    rw [List.take_add_one, List.getElem?_drop, show a - x.fl + k = a + k - x.fl by omega, List.getElem?_eq_getElem hlt2]
    rfl
  have HLAST := Aside0.mk hlast
  clear h hX hlen hla hfl hst hxf hfa hK hlast
  go_enter Try.func56, Try.ntmps56
  go_wp2_with fail
  refine (xfloor_C H.out HL.out).mono ?_
  rintro e w1 ⟨rfl, ⟨⟨n1, rfl⟩⟩⟩
  rw [HFL.out]
  go_wp2_with fail
  refine (xlast_C (x := x) (XAt_below H.out (pw_below_drewN (Below.refl _ _) _)) HL.out).mono ?_
  rintro e w1 ⟨rfl, ⟨⟨n2, rfl⟩⟩⟩
  rw [HLA.out]
  have hB0 := Aside0.mk (pw_below_drewN (Below.refl W.heap.size W) (n1 + n2))
  obtain ⟨w1, hw1⟩ : ∃ w1, w1 = W.drewN (n1 + n2) := ⟨_, rfl⟩
  go_wp2
  rw [← hw1] at hB0 ⊢
  clear hw1
  go_loopw [12, 13, 14, 15] (fun v12 v13 v14 v15 wr => ∃ (k c : Nat) (A : Option Addr), k ≤ K ∧ v12 = .slice A k c ∧ v13 = .int .i64 ((a : Int) + 1 + (k : Int)) ∧ Aside0 (Kd.S (kS W) 33 wr W.heap.size (fun _ => True) (.slice A k c) ((x.l.drop (a - x.fl)).take k)) ∧ Aside0 (Below W.heap.size W wr)) (fun _ v13 _ _ _ => la + 5 - (intOf v13).toNat)
  case atStart => exact ⟨0, 0, none, Nat.zero_le _, rfl, by go_num, ⟨Kd.S_nil _ _ _ _ _⟩, hB0⟩
  case round =>
    obtain ⟨k, c, A, hk, rfl, rfl, HS, HB⟩ := hrel
    obtain ⟨N1, hN1⟩ : ∃ N1 : Nat, N1 = a + 1 + k := ⟨_, rfl⟩
    rw [show (a : Int) + 1 + (k : Int) = (N1 : Int) by omega]
    by_cases hkK : k < K
    · obtain ⟨y, hy, htk⟩ := HLAST.out k hkK
      have hc1 : decide (N1 ≤ la) = true := decide_eq_true (by have := HKK.out; omega)
      have hc2 : decide ((N1 : Int) ≤ (la : Int)) = true := decide_eq_true (by have := HKK.out; omega)
      have hc3 : decide (k < m) = true := decide_eq_true (by have := HKK.out; omega)
      have hc4 : decide ((k : Int) < (m : Int)) = true := decide_eq_true (by have := HKK.out; omega)
      have HN1 := Aside0.mk hN1
      have HY := Aside0.mk hy
      have HTK := Aside0.mk htk
      have HKK2 := Aside0.mk hkK
      have hN1b : N1 ≤ 4294967296 := by have := HKK.out; omega
      clear hN1 hy htk hkK
      go_wp2_with fail
      refine (xat_ok (XAt_below H.out HB.out) HL.out la fl N1 (a + k - x.fl) HLA.out HFL.out hlt (by have := HN1.out; have := HST.out; omega) (by have := HN1.out; have := HST.out; have := HKK.out; have := HKK2.out; omega) (by have := HN1.out; have := HST.out; omega) y HY.out).mono ?_
      rintro e w2 ⟨A2, c2, rfl, l2, hR2, hB2⟩
      have hF2 : Kd.F k55 W (fun k => k < W.heap.size) A2 y.f5.length y.f5 := Kd.F_mono (Kd.F_step (Kd.F_mono (Kd.R_F hR2) (fun k hk => hk.2)) (fun k hk _ => (HB.out.block k hk).symm)) (fun k hk => hk)
      have hM := kS_mk rfl l2 hF2
      obtain ⟨m5, hm5⟩ : ∃ m5, m5 = y.f5.length := ⟨_, rfl⟩
      rw [← hm5] at hM l2 ⊢
      have HM := Aside0.mk hM
      have HB2 := Aside0.mk (below_then HB.out HB.out.size hB2)
      have HS2 := Aside0.mk (Kd.S_below HS.out hB2)
      clear hR2 hB2 hF2 hM hm5
      unfold entV
      have HNEW := Aside0.mk (heap_alloc_new w2 (.cells zeroCells 33))
      go_wp2_with (with_reducible refine stop_store rfl ?_)
      refine wpList_store rfl rfl 33 (.tmp 14) (.tmp 55) rfl (.agg #[.int .i64 y.f0, .int .i64 y.f1, .int .i64 y.f2, .int .i64 y.f3, .int .i64 y.f4, .slice A2 m5 c2]) (cells6 y (.slice A2 m5 c2)) rfl rfl HNEW.out rfl size33 (by show 0 + 6 ≤ 6; omega) (by simp [cells6, Value.oneCell']) ?_
      rw [alloc_full (w := w2) (cur := zeroCells) (e := 33) (cells6 y (.slice A2 m5 c2)) rfl]
      have hbx : (w2.alloc (.cells (cells6 y (.slice A2 m5 c2)).toArray 33)).heap[w2.heap.size]? = some (.cells (cells6 y (.slice A2 m5 c2)).toArray 33) := heap_alloc_new w2 _
      have HB3 := Aside0.mk (show Below W.heap.size W (w2.alloc (.cells (cells6 y (.slice A2 m5 c2)).toArray 33)) from below_alloc HB2.out _)
      have HS3 := Aside0.mk (Kd.S_alloc HS2.out (.cells (cells6 y (.slice A2 m5 c2)).toArray 33))
      have HSZ := Aside0.mk (show (w2.alloc (.cells (cells6 y (.slice A2 m5 c2)).toArray 33)).heap.size = w2.heap.size + 1 from Array.size_push _)
      obtain ⟨g1, hg1⟩ : ∃ g1, g1 = w2.heap.size := ⟨_, rfl⟩
      rw [← hg1] at hbx ⊢
      clear HNEW HS2 HB2
      obtain ⟨w3, hw3⟩ : ∃ w3, w3 = w2.alloc (.cells (cells6 y (.slice A2 m5 c2)).toArray 33) := ⟨_, rfl⟩
      rw [← hw3] at hbx HB3 HS3 HSZ ⊢
      have u0 : w3.cell? ⟨g1, 0, none⟩ = some (.int .i64 y.f0) := (blk_cell hbx 0).trans rfl
      have u1 : w3.cell? ⟨g1, 1, none⟩ = some (.int .i64 y.f1) := (blk_cell hbx 1).trans rfl
      have u2 : w3.cell? ⟨g1, 2, none⟩ = some (.int .i64 y.f2) := (blk_cell hbx 2).trans rfl
      have u3 : w3.cell? ⟨g1, 3, none⟩ = some (.int .i64 y.f3) := (blk_cell hbx 3).trans rfl
      have u4 : w3.cell? ⟨g1, 4, none⟩ = some (.int .i64 y.f4) := (blk_cell hbx 4).trans rfl
      have u5 : w3.cell? ⟨g1, 5, none⟩ = some (.slice A2 m5 c2) := (blk_cell hbx 5).trans rfl
      clear hw3 hg1 hbx HSZ
      go_wp2_with (with_reducible refine stop_append rfl ?_)
      refine Kd.S_append (kS W) (w0 := W) W.heap.size rfl (.tmp 57) (.tmp 59) 25 33 (.agg #[(.int .i64 0), (.int .i64 0), (.int .i64 0), (.int .i64 0), (.int .i64 0), (.slice none 0 0)]) 64 rfl Try.underlying25 info33 rfl (by show 0 < 6; decide) (by omega) (.slice A k c) ((x.l.drop (a - x.fl)).take k) y (cells6 y (.slice A2 m5 c2)) (fun _ => True) (fun _ => False) rfl rfl
        HM.out (fun j hj => hj.elim) (fun j hj => trivial) (Kd.S_mono HS3.out (fun j hj => ⟨trivial, fun h => h⟩)) HB3.out HB3.out.size (by rw [List.length_take]; have := HKK.out; have := HKK2.out; have h64 : min k (x.l.drop (a - x.fl)).length ≤ 64 := Nat.le_trans (Nat.min_le_left _ _) (by omega); omega) ?_
      intro v1 w4 ho hb hg hat
      rw [← HTK.out] at ho
      obtain ⟨A4, c4, rfl⟩ := Kd.S_slice ho
      have hlen4 : ((x.l.drop (a - x.fl)).take (k + 1)).length = k + 1 := by
        have h1 := HTK.out
        have h2 := (Kd.S_reads' HS3.out).1
        rw [h1, List.length_append, List.length_singleton, ← h2]
      rw [hlen4] at ho ⊢
      have HO := Aside0.mk ho
      have HB4 := Aside0.mk hb
      clear ho hb hg hat u0 u1 u2 u3 u4 u5 hlen4
      go_wp2
      go_roundw
      case rel => exact ⟨k + 1, c4, A4, by have := HKK2.out; omega, rfl, by have := HN1.out; go_num, HO, HB4⟩
      case measure => have := HN1.out; have := HKK.out; have := HKK2.out; simp [intOf]; omega
    · have hkK2 : k = K := by omega
      subst hkK2
      have HN1 := Aside0.mk hN1
      by_cases hc : N1 ≤ la
      · have hc1 : decide (N1 ≤ la) = true := decide_eq_true hc
        have hc2 : decide ((N1 : Int) ≤ (la : Int)) = true := decide_eq_true (by omega)
        have hc3 : decide (k < m) = false := decide_eq_false (by have := HKK.out; omega)
        have hc4 : decide ((k : Int) < (m : Int)) = false := decide_eq_false (by have := HKK.out; omega)
        clear hN1 hk hkK hc
        go_wp2
        go_ret2
        exact ⟨A, c, rfl, (Kd.S_reads' HS.out).2.1, (by have h9 := Kd.S_reads' HS.out; have h8 := kS_C HB.out h9.2.2; rw [← h9.1] at h8; exact h8), HB.out⟩
      · have hc1 : decide (N1 ≤ la) = false := decide_eq_false hc
        have hc2 : decide ((N1 : Int) ≤ (la : Int)) = false := decide_eq_false (by omega)
        clear hN1 hk hkK hc
        go_wp2
        go_ret2
        exact ⟨A, c, rfl, (Kd.S_reads' HS.out).2.1, (by have h9 := Kd.S_reads' HS.out; have h8 := kS_C HB.out h9.2.2; rw [← h9.1] at h8; exact h8), HB.out⟩
end
end Go.Proofs.Ytcbejpmmlcdhnaa.PW
namespace Go.Proofs.Ytcbejpmmlcdhnaa.PW
open Go.RowKit Go.Proofs.YtcbejpmmlcdhnaaW.PrintWords Go.Proofs.YtcbejpmmlcdhnaaW.PrintLast Go.Proofs.YtcbejpmmlcdhnaaW.PrintMore
set_option linter.unusedVariables false
set_option linter.unusedSimpArgs false

structure Link (x : XS) (s : RS) : Prop where
  room : x.room = s.room
  ho : x.ho = s.ho
  kept : x.kept = s.l.length
  le : x.kept ≤ x.l.length
  l : x.l.drop (x.l.length - x.kept) = s.l
  st : ∀ (i : Nat) (e : S33), x.l[i]? = some e → e.f0 = (x.fl : Int) + 1 + i
  fl : s.fl = x.fl + (x.l.length - x.kept)
  o : s.o = x.xo
def XS.zero : XS := ⟨0, 0, 0, 0, [], 0⟩
def XS.app (x : XS) (e : S33) : XS := if x.acode e = 0 then x.push e else x
section
variable {x : XS} {s : RS}
theorem Link.new (room fl : Nat) (o : Int) : Link (XS.new room fl o) (RS.new room fl o) := ⟨rfl, rfl, rfl, Nat.le_refl _, rfl, fun i e h => by simp [XS.new] at h, rfl, rfl⟩
theorem Link.zero : Link XS.zero RS.zero := ⟨rfl, rfl, rfl, Nat.le_refl _, rfl, fun i e h => by simp [XS.zero] at h, rfl, rfl⟩
theorem Link.la (h : Link x s) : x.la = (s.la : Int) := by
  obtain ⟨h1, h2, h3, h4, h5, h6, h7, h8⟩ := h
  have hs : s.la = x.fl + x.l.length := by unfold RS.la; omega
  rw [hs]
  unfold XS.la
  cases hl : x.l.getLast? with
  | none =>
    have : x.l = [] := List.getLast?_eq_none_iff.1 hl
    rw [this]
    simp
  | some e =>
    rw [List.getLast?_eq_getElem?] at hl
    have h9 := h6 _ _ hl
    have h10 := (List.getElem?_eq_some_iff.1 hl).1
    show e.f0 = _
    omega
theorem Link.xfl (h : Link x s) : x.xfl = (s.fl : Int) := by
  obtain ⟨h1, h2, h3, h4, h5, h6, h7, h8⟩ := h
  rw [h7]
  unfold XS.xfl
  split
  · omega
  · have hlt : x.l.length - x.kept - 1 < x.l.length := by omega
    have h9 := h6 _ _ (List.getElem?_eq_getElem hlt)
    rw [List.getD_eq_getElem?_getD, List.getElem?_eq_getElem hlt]
    show (x.l[x.l.length - x.kept - 1]).f0 = _
    omega
theorem Link.lv (h : Link x s) : x.lv = s.lv := by
  obtain ⟨h1, h2, h3, h4, h5, h6, h7, h8⟩ := h
  unfold RS.lv
  rw [← h5, h8]
  by_cases hk : x.kept = 0
  · rw [hk, Nat.sub_zero, List.drop_length]
    unfold XS.lv XS.xo
    rw [hk, Nat.sub_zero]
    cases hl : x.l.getLast? with
    | none =>
      have : x.l = [] := List.getLast?_eq_none_iff.1 hl
      rw [this]
      simp
    | some e =>
      rw [List.getLast?_eq_getElem?] at hl
      have h10 := (List.getElem?_eq_some_iff.1 hl).1
      rw [if_neg (by omega), List.getD_eq_getElem?_getD, hl]
      rfl
  · have hd : (x.l.drop (x.l.length - x.kept)).getLast? = x.l.getLast? := by
      rw [List.getLast?_drop, if_neg (by omega)]
    rw [hd]
    unfold XS.lv
    cases hl : x.l.getLast? with
    | none =>
      have : x.l = [] := List.getLast?_eq_none_iff.1 hl
      rw [this] at h4
      simp at h4
      omega
    | some e => rfl
theorem Link.code (h : Link x s) (n : Int) : btw x.ho x.la n = s.code n := by
  unfold RS.code
  rw [h.la, h.ho]
theorem Link.acode (h : Link x s) (hs : s.ok) (e : S33) : x.acode e = s.acode e := by
  unfold XS.acode RS.acode
  rw [h.la, h.lv, h.xfl, h.kept, h.room, h.ho]
  have h1 : ((s.la : Int) = 2147483647 ∨ isB e.f1 = false) = (s.la = 2147483647 ∨ isB e.f1 = false) := by
    congr 1
    exact propext ⟨fun h => by omega, fun h => by omega⟩
  have h2 : (s.l.length = s.room ∧ (s.room = 0 ∨ (s.ho : Int) < (s.fl : Int) + 1)) = (s.l.length = s.room ∧ s.ho ≤ s.fl) := by
    obtain ⟨r1, r2, r3, r4, r5, r6⟩ := hs
    unfold RS.la at r4
    exact propext ⟨fun h => ⟨h.1, by rcases h.2 with h3 | h3 <;> omega⟩, fun h => ⟨h.1, .inr (by omega)⟩⟩
  simp only [h1, h2]
theorem Link.hold (h : Link x s) (n : Int) : Link (x.hold n) (s.hold n) := by
  unfold XS.hold RS.hold
  rw [h.code]
  split
  · exact ⟨h.room, rfl, h.kept, h.le, h.l, h.st, h.fl, h.o⟩
  · exact h
theorem Link.cut_d (h : Link x s) (hs : s.ok) (n : Int) (hc : s.code n = 0) : (x.la - n).toNat ≤ x.kept ∧ n.toNat - s.fl = x.kept - (x.la - n).toNat := by
  obtain ⟨r1, r2, r3, r4, r5, r6⟩ := hs
  obtain ⟨g1, g2⟩ := btw_zero.1 hc
  have h3 := h.kept
  have h4 := h.la
  unfold RS.la at *
  omega
theorem Link.cut (h : Link x s) (hs : s.ok) (n : Int) : Link (x.cut n) (s.cut n) := by
  unfold XS.cut RS.cut
  rw [h.code]
  split
  · rename_i hc
    obtain ⟨hd, he⟩ := h.cut_d hs n hc
    obtain ⟨d, hdd⟩ : ∃ d, (x.la - n).toNat = d := ⟨_, rfl⟩
    rw [hdd] at hd he ⊢
    rw [he]
    obtain ⟨h1, h2, h3, h4, h5, h6, h7, h8⟩ := h
    have hl : (x.l.take (x.l.length - d)).length = x.l.length - d := by rw [List.length_take]; omega
    refine ⟨h1, h2, ?_, ?_, ?_, ?_, ?_, ?_⟩
    · show x.kept - d = (s.l.take (x.kept - d)).length
      rw [List.length_take]
      omega
    · show x.kept - d ≤ (x.l.take (x.l.length - d)).length
      rw [hl]
      omega
    · show (x.l.take (x.l.length - d)).drop ((x.l.take (x.l.length - d)).length - (x.kept - d)) = s.l.take (x.kept - d)
      rw [hl, List.drop_take, ← h5, show x.l.length - d - (x.kept - d) = x.l.length - x.kept by omega, show x.l.length - d - (x.l.length - x.kept) = x.kept - d by omega]
    · intro i e hi
      have hi : (x.l.take (x.l.length - d))[i]? = some e := hi
      have hlt := (List.getElem?_eq_some_iff.1 hi).1
      rw [List.getElem?_take_of_lt (by omega)] at hi
      exact h6 i e hi
    · show s.fl = x.fl + ((x.l.take (x.l.length - d)).length - (x.kept - d))
      rw [hl]
      omega
    · show s.o = XS.xo { x with l := x.l.take (x.l.length - d), kept := x.kept - d }
      rw [h8]
      unfold XS.xo
      show _ = if (x.l.take (x.l.length - d)).length - (x.kept - d) = 0 then x.o else ((x.l.take (x.l.length - d)).getD ((x.l.take (x.l.length - d)).length - (x.kept - d) - 1) z33).f1
      rw [hl, show x.l.length - d - (x.kept - d) = x.l.length - x.kept by omega]
      split
      · rfl
      · rw [List.getD_eq_getElem?_getD, List.getD_eq_getElem?_getD, List.getElem?_take_of_lt (by omega)]
  · exact h
theorem Link.push (h : Link x s) (hs : s.ok) (e : S33) (hc : s.acode e = 0) : Link (x.push e) (s.push e) := by
  have h0 : e.f0 = (s.la : Int) + 1 ∧ ¬ (s.l.length = s.room ∧ s.ho ≤ s.fl) := by
    unfold RS.acode at hc
    split at hc
    · exact absurd hc (by decide)
    split at hc
    · exact absurd hc (by decide)
    split at hc
    · exact absurd hc (by decide)
    split at hc
    · exact absurd hc (by decide)
    rename_i g1 g2 g3 g4
    exact ⟨by omega, g4⟩
  obtain ⟨he, hr⟩ := h0
  obtain ⟨r1, r2, r3, r4, r5, r6⟩ := hs
  obtain ⟨h1, h2, h3, h4, h5, h6, h7, h8⟩ := h
  unfold RS.la at he r4
  have hst : ∀ (i : Nat) (y : S33), (x.l ++ [e])[i]? = some y → y.f0 = (x.fl : Int) + 1 + i := by
    intro i y hi
    by_cases hlt : i < x.l.length
    · rw [List.getElem?_append_left hlt] at hi
      exact h6 i y hi
    · have hlt2 := (List.getElem?_eq_some_iff.1 hi).1
      rw [List.length_append, List.length_singleton] at hlt2
      have hii : i = x.l.length := by omega
      subst hii
      rw [List.getElem?_append_right (Nat.le_refl _), Nat.sub_self] at hi
      obtain rfl := Option.some.inj hi
      omega
  have hl1 : (x.l ++ [e]).length = x.l.length + 1 := by simp
  unfold XS.push RS.push
  by_cases hf : s.l.length = s.room
  · rw [if_pos hf]
    have hkr : ¬ (x.kept < x.room) := by omega
    have hk1 : 1 ≤ x.kept := by
      have : s.fl < s.ho := Nat.lt_of_not_le (fun h => hr ⟨hf, h⟩)
      omega
    have hsl : s.l.getD 0 z33 = x.l.getD (x.l.length - x.kept) z33 := by
      rw [← h5, List.getD_eq_getElem?_getD, List.getD_eq_getElem?_getD, List.getElem?_drop, Nat.add_zero]
    simp only [if_neg hkr]
    refine ⟨h1, h2, ?_, ?_, ?_, hst, ?_, ?_⟩
    · show x.kept = (s.l.drop 1 ++ [e]).length
      rw [List.length_append, List.length_drop, List.length_singleton]
      omega
    · show x.kept ≤ (x.l ++ [e]).length
      omega
    · show (x.l ++ [e]).drop ((x.l ++ [e]).length - x.kept) = s.l.drop 1 ++ [e]
      rw [hl1, List.drop_append_of_le_length (by omega), ← h5, List.drop_drop]
      congr 2
      omega
    · show s.fl + 1 = x.fl + ((x.l ++ [e]).length - x.kept)
      omega
    · show (s.l.getD 0 z33).f1 = XS.xo { x with l := x.l ++ [e], kept := x.kept }
      rw [hsl]
      unfold XS.xo
      show _ = if (x.l ++ [e]).length - x.kept = 0 then x.o else ((x.l ++ [e]).getD ((x.l ++ [e]).length - x.kept - 1) z33).f1
      rw [hl1, if_neg (by omega), List.getD_eq_getElem?_getD, List.getD_eq_getElem?_getD, show x.l.length + 1 - x.kept - 1 = x.l.length - x.kept by omega, List.getElem?_append_left (by omega)]
  · rw [if_neg hf]
    have hkr : x.kept < x.room := by omega
    simp only [if_pos hkr]
    refine ⟨h1, h2, ?_, ?_, ?_, hst, ?_, ?_⟩
    · show x.kept + 1 = (s.l ++ [e]).length
      rw [List.length_append, List.length_singleton]
      omega
    · show x.kept + 1 ≤ (x.l ++ [e]).length
      omega
    · show (x.l ++ [e]).drop ((x.l ++ [e]).length - (x.kept + 1)) = s.l ++ [e]
      rw [hl1, List.drop_append_of_le_length (by omega), ← h5]
      congr 2
      omega
    · show s.fl = x.fl + ((x.l ++ [e]).length - (x.kept + 1))
      omega
    · show s.o = XS.xo { x with l := x.l ++ [e], kept := x.kept + 1 }
      rw [h8]
      unfold XS.xo
      show _ = if (x.l ++ [e]).length - (x.kept + 1) = 0 then x.o else ((x.l ++ [e]).getD ((x.l ++ [e]).length - (x.kept + 1) - 1) z33).f1
      rw [hl1, show x.l.length + 1 - (x.kept + 1) = x.l.length - x.kept by omega]
      split
      · rfl
      · rw [List.getD_eq_getElem?_getD, List.getD_eq_getElem?_getD, List.getElem?_append_left (by omega)]
theorem Link.app (h : Link x s) (hs : s.ok) (e : S33) : Link (x.app e) (s.app e) := by
  unfold XS.app RS.app
  rw [h.acode hs]
  split
  · rename_i hc
    exact h.push hs e hc
  · exact h
theorem XS.app_len (x : XS) (e : S33) : (x.app e).l.length ≤ x.l.length + 1 := by
  unfold XS.app
  split
  · show (x.l ++ [e]).length ≤ _
    simp
  · omega
theorem XS.hold_len (x : XS) (n : Int) : (x.hold n).l.length = x.l.length := by
  unfold XS.hold
  split <;> rfl
theorem XS.cut_len (x : XS) (n : Int) : (x.cut n).l.length ≤ x.l.length := by
  unfold XS.cut
  split
  · show (x.l.take _).length ≤ _
    rw [List.length_take]
    omega
  · exact Nat.le_refl _
end
end Go.Proofs.Ytcbejpmmlcdhnaa.PW
namespace Go.Proofs.Ytcbejpmmlcdhnaa.PW
open Go.RowKit Go.Proofs.YtcbejpmmlcdhnaaW.PrintWords Go.Proofs.YtcbejpmmlcdhnaaW.PrintLast Go.Proofs.YtcbejpmmlcdhnaaW.PrintMore
set_option linter.unusedVariables false
set_option linter.unusedSimpArgs false

section
variable {W w' : World} {base g b : Nat} {ok : Nat → Prop} {p : Option Nat} {s s' : RS} {x x' : XS}
theorem k55E {q : Nat} (h : q ∈ 55 :: k55.E) : q = 55 := by
  have : k55.E = [] := rfl
  rw [this] at h
  simpa using h
theorem k33E {q : Nat} (h : q ∈ 33 :: k33.E) : q = 33 ∨ q = 55 := by
  have : k33.E = [55] := rfl
  rw [this] at h
  simpa using h
theorem R55_no {W : World} {base : Nat} {ok : Nat → Prop} {v : Value} {xs : List S55} (h : Kd.R k55 55 W base ok v xs) (N : Nat → Prop) (hN : ∀ k, N k → ∃ cells t, W.heap[k]? = some (.cells cells t (0, 0)) ∧ t ≠ 55) : Kd.R k55 55 W base (fun k => ok k ∧ ¬ N k) v xs :=
  Kd.R_mono (Kd.R_bound h) (fun k hk => ⟨hk.1, fun hn => by
    obtain ⟨q, hq, cells, hc⟩ := hk.2.2.2
    obtain ⟨cs, t, h1, h2⟩ := hN k hn
    rw [hc] at h1
    cases h1
    exact h2 (k55E hq)⟩)
theorem S33_no {W : World} {base : Nat} {ok : Nat → Prop} {v : Value} {xs : List S33} (h : Kd.S k33 33 W base ok v xs) (N : Nat → Prop) (hN : ∀ k, N k → ∃ cells t, W.heap[k]? = some (.cells cells t (0, 0)) ∧ t ≠ 55 ∧ t ≠ 33) : Kd.S k33 33 W base (fun k => ok k ∧ ¬ N k) v xs :=
  Kd.S_mono (Kd.S_bound h) (fun k hk => ⟨hk.1, fun hn => by
    obtain ⟨q, hq, cells, hc⟩ := hk.2.2.2
    obtain ⟨cs, t, h1, h2, h3⟩ := hN k hn
    rw [hc] at h1
    cases h1
    rcases k33E hq with h4 | h4
    · exact h3 h4
    · exact h2 h4⟩)
theorem RingIs_no (h : RingIs W base ok p s) (N : Nat → Prop) (hN : ∀ k, N k → ∃ cells t, W.heap[k]? = some (.cells cells t (0, 0)) ∧ t ≠ 55 ∧ t ≠ 66) : RingIs W base (fun k => ok k ∧ ¬ N k) p s := by
  cases p with
  | none => exact h
  | some b =>
    obtain ⟨h1, E, ⟨a1, a2, C, a3, a4, a5, a6, a7, a8, a9, a10⟩, h3⟩ := h
    refine ⟨h1, E, ⟨a1, ⟨a2, fun hn => ?_⟩, C, a3, a4, a5, a6, a7, a8, a9, fun k hk => ?_⟩, h3⟩
    · obtain ⟨cs, t, g1, g2, g3⟩ := hN b hn
      rw [a3] at g1
      cases g1
      exact g3 rfl
    · obtain ⟨e0, e1, e2, e3, e4, v, e5, hv⟩ := a10 k hk
      exact ⟨e0, e1, e2, e3, e4, v, e5, Kd.R_mono (R55_no hv N (fun k hk => by obtain ⟨cs, t, g1, g2, g3⟩ := hN k hk; exact ⟨cs, t, g1, g2⟩)) (fun k hk => ⟨⟨hk.1.1, hk.2⟩, hk.1.2⟩)⟩
theorem XAt_no (h : XAt W base ok g x) (N : Nat → Prop) (hN : ∀ k, N k → ∃ cells t, W.heap[k]? = some (.cells cells t (0, 0)) ∧ t ≠ 55 ∧ t ≠ 33 ∧ t ≠ 68) : XAt W base (fun k => ok k ∧ ¬ N k) g x := by
  obtain ⟨h1, h2, h3, A, c, hb, hS⟩ := h
  refine ⟨h1, ⟨h2, fun hn => ?_⟩, h3, A, c, hb, Kd.S_mono (S33_no hS N (fun k hk => by obtain ⟨cs, t, g1, g2, g3, g4⟩ := hN k hk; exact ⟨cs, t, g1, g2, g3⟩)) (fun k hk => ⟨⟨hk.1.1, hk.2⟩, hk.1.2⟩)⟩
  obtain ⟨cs, t, g1, g2, g3, g4⟩ := hN g hn
  rw [hb] at g1
  cases g1
  exact g4 rfl
theorem XAt_mono {ok' : Nat → Prop} (h : XAt W base ok g x) (hk : ∀ k, ok k → ok' k) : XAt W base ok' g x := by
  obtain ⟨h1, h2, h3, A, c, hb, hS⟩ := h
  exact ⟨h1, hk _ h2, h3, A, c, hb, Kd.S_mono hS (fun k h => ⟨hk k h.1, h.2⟩)⟩
theorem XAt_blk (h : XAt W base ok g x) : ∃ C, W.heap[g]? = some (.cells C 68 (0, 0)) := by
  obtain ⟨h1, h2, h3, A, c, hb, hS⟩ := h
  exact ⟨_, hb⟩
theorem XAt_bound (h : XAt W base ok g x) : XAt W base (fun k => ok k ∧ k < W.heap.size) g x := by
  obtain ⟨k1, k2, k3, A, c, hb, hS⟩ := h
  exact ⟨k1, ⟨k2, blk_lt hb⟩, k3, A, c, hb, Kd.S_mono (Kd.S_bound hS) (fun k hk => ⟨⟨hk.1.1, hk.2.2.1⟩, hk.1.2⟩)⟩
theorem RingIs_bound (h : RingIs W base ok p s) : RingIs W base (fun k => ok k ∧ k < W.heap.size) p s := by
  cases p with
  | none => exact h
  | some b => obtain ⟨h1, E, h2, h3⟩ := h; exact ⟨h1, E, RingAt_old h2, h3⟩
theorem RingIs_base (h : RingIs W base ok (some b) s) : base ≤ b ∧ ok b := by
  obtain ⟨h1, E, ⟨a1, a2, _⟩, h3⟩ := h
  exact ⟨a1, a2⟩
theorem own1_type (h : RingIs W base ok p s) : ∀ k, own1 p k → ∃ cells t, W.heap[k]? = some (.cells cells t (0, 0)) ∧ t ≠ 55 ∧ t ≠ 33 ∧ t ≠ 68 := by
  intro k hk
  cases hk
  obtain ⟨h1, E, hR, h3⟩ := h
  obtain ⟨C, hc, _⟩ := RingAt_blk hR
  exact ⟨C, 66, hc, by decide, by decide, by decide⟩
theorem rows33_type (h : XAt W base ok g x) : ∀ k, rows33 W base g ok k → ∃ cells t, W.heap[k]? = some (.cells cells t (0, 0)) ∧ t ≠ 55 ∧ t ≠ 66 := by
  intro k hk
  rcases hk with rfl | ⟨_, _, cells, hc⟩
  · obtain ⟨C, hc⟩ := XAt_blk h
    exact ⟨C, 68, hc, by decide, by decide⟩
  · exact ⟨cells, 33, hc, by decide, by decide⟩
/-- Behind a call of the ring the reference's stands. -/
theorem XAt_ring {ok2 : Nat → Prop} (hX : XAt W base ok g x) (hR : RingIs W base ok2 p s) (hf : Frm W w' (own1 p)) : XAt w' base ok g x :=
  XAt_mono (XAt_frm (XAt_no hX (own1 p) (own1_type hR)) hf (fun k hk => hk.2)) (fun k hk => hk.1)
/-- Behind a call of the reference's the ring stands. -/
theorem RingIs_ref {ok2 : Nat → Prop} (hR : RingIs W base ok p s) (hX : XAt W base ok2 g x) (hf : Frm W w' (rows33 W base g ok2)) : RingIs w' base ok p s :=
  RingIs_mono (RingIs_frm (RingIs_no hR (rows33 W base g ok2) (rows33_type hX)) hf (fun k hk => hk.2)) (fun k hk => hk.1)
theorem frm_g (hf : Frm W w' (fun k => k = g)) : Frm W w' (rows33 W base g ok) := hf.mono (fun k hk _ => .inl hk)
/-- What calls of both may write. -/
def mine (base : Nat) (ok : Nat → Prop) (k : Nat) : Prop := base ≤ k ∧ ok k
theorem mine_ring (hR : RingIs W base ok p s) (hf : Frm W w' (own1 p)) : Frm W w' (mine base ok) := hf.mono (fun k hk _ => by cases hk; exact RingIs_base hR)
theorem mine_ref (hX : XAt W base ok g x) (hf : Frm W w' (rows33 W base g ok)) : Frm W w' (mine base ok) := hf.mono (fun k hk _ => by
  rcases hk with rfl | ⟨h1, h2, _⟩
  · exact ⟨hX.1, hX.2.1⟩
  · exact ⟨h1, h2⟩)
/-- Both, one said by the other. -/
structure Both (W : World) (base : Nat) (ok : Nat → Prop) (p : Option Nat) (g : Nat) (s : RS) (x : XS) : Prop where
  ra : RingIs W base ok p s
  xa : XAt W base ok g x
  lk : Link x s
theorem Both.below (h : Both W base ok p g s x) (hb : Below W.heap.size W w') : Both w' base ok p g s x := ⟨RingIs_below h.ra hb, XAt_below h.xa hb, h.lk⟩
theorem Both.mono {ok' : Nat → Prop} (h : Both W base ok p g s x) (hk : ∀ k, ok k → ok' k) : Both W base ok' p g s x := ⟨RingIs_mono h.ra hk, XAt_mono h.xa hk, h.lk⟩
theorem Both.bound (h : Both W base ok p g s x) : Both W base (fun k => ok k ∧ k < W.heap.size) p g s x := ⟨RingIs_bound h.ra, XAt_bound h.xa, h.lk⟩
theorem Both.step (h : Both W base ok p g s x) (hm : ∀ k, ok k → k < W.heap.size → w'.heap[k]? = W.heap[k]?) : Both w' base ok p g s x := ⟨RingIs_step h.ra hm, XAt_step h.xa hm, h.lk⟩
end
end Go.Proofs.Ytcbejpmmlcdhnaa.PW
namespace Go.Proofs.Ytcbejpmmlcdhnaa.PW
open Go.RowKit Go.Proofs.YtcbejpmmlcdhnaaW.PrintWords Go.Proofs.YtcbejpmmlcdhnaaW.PrintLast Go.Proofs.YtcbejpmmlcdhnaaW.PrintMore
set_option linter.unusedVariables false
set_option linter.unusedSimpArgs false

theorem sameOps_T (l : List S55) (A A' : Option Addr) (n c c' : Nat) (w : World) (hn : l.length = n) (hm : n ≤ 2513169434843) (h1 : Kd.C k55 w A n l) (h2 : n ≤ c) (h3 : Kd.C k55 w A' n l) (h4 : n ≤ c') :
    Calls Try.prog 35 #[.slice A n c, .slice A' n c'] w fun e w' => e = .returned (.bool true) ∧ Drawn0 w w' := by
  subst hn
  refine heraldlaw6_sameOps.calls (l.length + 1) A c l A' c' l true w h1 h2 h3 h4 ?_
  unfold heraldlaw6_sameOps.f
  rw [if_pos rfl]
  exact sameOps_l0 l (by omega) l.length 0 _ (by omega) (by omega) (by omega)
/-- Append of the reference as one contract. -/
theorem xapp_C {W : World} {base g : Nat} {ok : Nat → Prop} {s : RS} {x : XS} (hs : s.ok) (hx : XAt W base ok g x) (hk : Link x s) (e : S33) (A : Option Addr) (n c : Nat) (hn : e.f5.length = n) (hC : Kd.C k55 W A n e.f5) (hnc : n ≤ c) (hm : opsOk e) (hfresh : ∀ k, W.heap.size ≤ k → ok k) (hlen : x.l.length ≤ 4294967296) :
    Calls Try.prog 54 #[.pointer (some ⟨g, 0, none⟩), entV e (.slice A n c)] W fun r w' => r = .returned (.int .i64 (s.acode e)) ∧ XAt w' base ok g (x.app e) ∧ Frm W w' (rows33 W base g ok) := by
  have hla := hk.la
  have hfl := hk.xfl
  have hlt : s.la ≤ 2147483647 := hs.2.2.2.2.1
  have hft : s.fl ≤ 2147483647 := by unfold RS.la at hlt; omega
  have hac := hk.acode hs e
  by_cases h0 : s.acode e = 0
  · have happ : x.app e = x.push e := by unfold XS.app; rw [hac, if_pos h0]
    rw [h0, happ]
    exact xapp_ok hx e A n c hn hC hnc hm hfresh hlen s.la s.fl hla hfl hlt hft (by rw [hk.kept, hk.room]; exact hs.2.1) (by rw [hac]; exact h0)
  · have happ : x.app e = x := by unfold XS.app; rw [hac, if_neg h0]
    rw [happ]
    refine (xapp_no hx e _ hlen s.la s.fl hla hfl hlt hft _ hac h0).mono ?_
    rintro r w' ⟨rfl, hb⟩
    exact ⟨rfl, XAt_below hx hb, Frm.of_below hb _⟩
def o77 : S55 := ⟨77, ⟨#[]⟩, ⟨#[]⟩, 0, 0⟩
def o78 : S55 := ⟨78, ⟨#[]⟩, ⟨#[]⟩, 0, 0⟩
def cells5 (x : S55) : List Value := [.int .i64 x.f0, .string x.f1, .string x.f2, .int .i64 x.f3, .int .i64 x.f4]
/-- Two ops in a new block. -/
theorem two_reads {W : World} {g : Nat} {X : Array Value} (hX : X = (cells5 o77 ++ cells5 o78).toArray) (hb : W.heap[g]? = some (.cells X 55 (0, 0))) : ReadsRow (fun x cs => cs = cells5 x) k55.sz W (some ⟨g, 0, none⟩) 2 [o77, o78] := by
  refine ⟨rfl, by omega, fun _ => ⟨_, rfl, fun j p hp => ?_⟩⟩
  have hadd : ∀ i, (⟨g, 0, none⟩ : Addr).add i = ⟨g, i, none⟩ := fun i => by unfold Addr.add; split <;> simp_all
  match j, hp with
  | 0, hp =>
    obtain rfl := Option.some.inj hp
    refine ⟨_, rfl, rfl, fun i u hu => ?_⟩
    rw [hadd, blk_cell hb, hX]
    match i, hu with
    | 0, hu => exact hu
    | 1, hu => exact hu
    | 2, hu => exact hu
    | 3, hu => exact hu
    | 4, hu => exact hu
    | (i + 5), hu => simp [cells5] at hu
  | 1, hp =>
    obtain rfl := Option.some.inj hp
    refine ⟨_, rfl, rfl, fun i u hu => ?_⟩
    rw [hadd, blk_cell hb, hX]
    match i, hu with
    | 0, hu => exact hu
    | 1, hu => exact hu
    | 2, hu => exact hu
    | 3, hu => exact hu
    | 4, hu => exact hu
    | (i + 5), hu => simp [cells5] at hu
  | (j + 2), hp => simp at hp
end Go.Proofs.Ytcbejpmmlcdhnaa.PW
