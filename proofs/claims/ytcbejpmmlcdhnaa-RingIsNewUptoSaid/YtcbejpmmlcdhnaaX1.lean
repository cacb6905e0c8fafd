/- Words, contracts and walks of the law RingIsNew, in one text. -/
import Derived.Test.YtcbejpmmlcdhnaaX0
import Derived.Outline
namespace Go.Proofs.Ytcbejpmmlcdhnaa.PW
open Go.RowKit Go.Proofs.YtcbejpmmlcdhnaaW.PrintWords Go.Proofs.YtcbejpmmlcdhnaaW.PrintLast Go.Proofs.YtcbejpmmlcdhnaaW.PrintMore
set_option linter.unusedVariables false
set_option linter.unusedSimpArgs false
attribute [local go_sem] Oper.semAt_some

/-- The elements of a row of entries, each with blocks of its own. -/
theorem S_entries {w : World} {base g n cap : Nat} {ok : Nat → Prop} {L : List S33} (h : Kd.S k33 33 w base ok (.slice (some ⟨g, 0, none⟩) n cap) L) :
    ∃ f : Nat → Nat, ∀ (k : Nat) (y : S33), L[k]? = some y → ∃ A c, (∀ (j : Nat) (v : Value), (cells6 y (.slice A y.f5.length c))[j]? = some v → w.cell? ⟨g, k * 6 + j, none⟩ = some v) ∧
      Kd.R k55 55 w base (fun j => j ≠ g ∧ f j = k ∧ base ≤ j ∧ j < w.heap.size ∧ ok j) (.slice A y.f5.length c) y.f5 := by
  obtain ⟨f, hS⟩ := h
  obtain ⟨h0, inner, ⟨hl, ho⟩, hrl, hr⟩ := Kd.R_bound hS
  refine ⟨f, fun k y hk => ?_⟩
  have hz : L.zipIdx[k]? = some (y, k) := Kd.zip_at hk
  have hM := hr k _ hz
  obtain ⟨v5, hcs, hv⟩ := k33_openM (show k33.M w base _ y _ from hM)
  obtain ⟨A, c, rfl⟩ := Kd.R_slice hv
  rcases ho with ⟨he, _⟩ | ⟨g', cap', cur, he, hb, hh, hnc, hcm, hcs2, hcur⟩
  · cases he
  · injection he with he1 he2 he3
    injection he1 with he1
    injection he1 with he1
    subst he1
    refine ⟨A, c, ?_, Kd.R_mono hv (fun j hj => ⟨fun e => hj.1.2 (by rw [e]; simp [Value.ownBlock]), hj.2, hj.1.1.2.1, hj.1.1.2.2.1, hj.1.1.1⟩)⟩
    intro j v hj
    have hj6 : j < 6 := (List.getElem?_eq_some_iff.1 hj).1
    have h5 : ((inner.drop (k * 6)).take 6)[j]? = some v := by
      rw [show (inner.drop (k * 6)).take 6 = cells6 y (.slice A y.f5.length c) from hcs]
      exact hj
    rw [List.getElem?_take_of_lt hj6, List.getElem?_drop] at h5
    rw [blk_cell hh, ← Array.getElem?_toList]
    rw [← hcur] at h5
    have h6 := (List.getElem?_eq_some_iff.1 h5).1
    rw [List.length_take] at h6
    rw [List.getElem?_take_of_lt (by omega)] at h5
    exact h5
theorem setCells_drawn (g : Nat) : ∀ (vs : List Value) (o : Nat) (w : World), (w.setCells g o vs).drawn = w.drawn
  | [], _, _ => rfl
  | v :: r, o, w => by rw [World.setCells, setCells_drawn g r]; rfl
theorem alloc_full {w : World} {cur : Array Value} {e : TypeId} (vs : List Value) (hs : cur.size = vs.length) : (w.alloc (.cells cur e)).setCells w.heap.size 0 vs = w.alloc (.cells vs.toArray e) := by
  obtain ⟨h1, h2, h3, h4⟩ := setCells_same w.heap.size vs 0 (w.alloc (.cells cur e))
  have hb := blk_full (w := w.alloc (.cells cur e)) (g := w.heap.size) vs (heap_alloc_new w _) hs
  have hh : ((w.alloc (.cells cur e)).setCells w.heap.size 0 vs).heap = (w.alloc (.cells vs.toArray e)).heap := by
    apply Array.ext_getElem?
    intro i
    by_cases hi : i = w.heap.size
    · subst hi
      rw [hb, heap_alloc_new]
    · rw [setCells_far vs 0 i hi]
      simp only [World.alloc]
      rw [Array.getElem?_push, Array.getElem?_push, if_neg hi, if_neg hi]
  have h5 := setCells_drawn w.heap.size vs 0 (w.alloc (.cells cur e))
  cases hA : (w.alloc (.cells cur e)).setCells w.heap.size 0 vs
  rw [hA] at h1 h2 h3 h5 hh
  simp only [World.alloc] at h1 h2 h3 h5 hh ⊢
  subst h1 h2 h3 h5 hh
  rfl
/-- What the iterator itself holds while element k and those behind it are to come. -/
def Mine (T0 : Nat → Prop) (N0 N1 g : Nat) (f : Nat → Nat) (k : Nat) : Nat → Prop := fun j => T0 j ∨ (N0 ≤ j ∧ j < N1 ∧ (j = g ∨ k ≤ f j))
theorem out_all {W : World} {base b nn : Nat} {ok : Nat → Prop} {s : RS} (h : RingIs W base ok (some b) s) (hn : nn = s.l.length) :
    Calls Try.prog 34 #[.pointer (some ⟨b, 0, none⟩), .int .i64 (s.fl : Int), .int .i64 (nn : Int)] W fun e w' => e = .returned (.slice (some ⟨W.heap.size, 0, none⟩) nn nn) ∧ Kd.S k33 33 w' W.heap.size (fun _ => True) (.slice (some ⟨W.heap.size, 0, none⟩) nn nn) s.l ∧ Below W.heap.size W w' := by
  have := out_R h (s.fl : Int) (nn : Int) (.inr ⟨Int.le_refl _, by simp only [RS.la]; omega⟩)
  rw [Int.toNat_natCast, Int.toNat_natCast, Nat.sub_self, List.drop_zero, hn, List.take_length] at this
  rw [hn]
  exact this
def rg33.T1 : Bool × List (List Nat × List Nat) := (true, [([], []), ([], []), ([1], [1]), ([2], [2]), ([3], [3]), ([], []), ([5], [5]), ([6], [6]), ([7], [7]), ([], []), ([9], [9]), ([10], [10]), ([11], [11]), ([8, 12], [8, 12]), ([0, 4, 13], [0, 4, 13]), ([14], [14]), ([], [])])
def rg33.B1 : List Nat := [0, 0, 2, 6, 14, 0, 32, 96, 224, 0, 512, 1536, 3584, 8160, 16383, 32767, 0]
theorem rg33.tab1 : rtab .any (opsOf Try.f33 1) = rg33.T1 := by kernel_rfl
theorem rg33.bits1 : waitsOk rg33.T1.2 rg33.B1 = true := by kernel_rfl
set_option maxHeartbeats 4000000 in
set_option maxRecDepth 100000 in
theorem it33_some (Bn b : Nat) (s : RS) (base : Nat) (ok : Nat → Prop) (W : World) (hbox : W.cell? ⟨Bn, 0, none⟩ = some (.pointer (some ⟨b, 0, none⟩))) (hring : RingIs W base ok (some b) s) : ItRing Try.prog 33 Bn s.l W := by
  intro l J Jx T0 hJ hJx hT0 hY h0
  have HJ := Aside0.mk hJ
  have HY := Aside0.mk hY
  have HT0 := Aside0.mk hT0
  have H0 := Aside0.mk h0
  have HR := Aside0.mk hring
  obtain ⟨⟨r1, r2, r3, r4, r5, r6⟩, E, hR, _⟩ := id hring
  obtain ⟨c1, c2, c3, c4, c5⟩ := RingAt_cells hR
  obtain ⟨nn, hnn⟩ : ∃ nn, nn = s.l.length := ⟨_, rfl⟩
  have hlen : (s.la : Int) - (s.fl : Int) = (nn : Int) := by simp only [RS.la]; omega
  have hn64 : nn ≤ 64 := by omega
  have HNN := Aside0.mk hnn
  have hwr2 : wrap64 (nn : Int) = (nn : Int) := by unfold wrap64; omega
  have hla : (s.la : Int) ≤ 2147483647 := by omega
  have hflla : (s.fl : Int) ≤ (s.la : Int) := by simp only [RS.la]; omega
  have HRR := Aside0.mk (And.intro r1 (And.intro r2 r6))
  have d0 : W.drew.cell? ⟨Bn, 0, none⟩ = some (.pointer (some ⟨b, 0, none⟩)) := hbox
  have d1 : W.drew.cell? ⟨b, 385, none⟩ = some (.int .i64 (s.fl : Int)) := c2
  have d2 : W.drew.cell? ⟨b, 386, none⟩ = some (.int .i64 (s.la : Int)) := c3
  clear hJ hJx hY h0 hT0 hring hR r1 r2 r3 r4 r5 r6 c1 c4 c5 hnn
  go_enter Try.func33, Try.ntmps33
  go_wp2
  refine start_ (n := 17) (S := fun w' => w'.cell? ⟨Bn, 0, none⟩ = some (.pointer (some ⟨b, 0, none⟩)) ∧ w'.cell? ⟨b, 385, none⟩ = some (.int .i64 (s.fl : Int)) ∧ w'.cell? ⟨b, 386, none⟩ = some (.int .i64 (s.la : Int))) (ds := []) #[false, false, false, false, false, false, false, false, false, false, false, false, false, false, false, false, false] (by kernel_rfl) rfl rfl ⟨d0, d1, d2⟩ (fun hHeld => ?_)
  refine with_tabW rg33.tab1 rg33.bits1 (fun HT_ HW_ => ?_)
  refine pure_ (i := 16) (N := some 23) (v := ?_) (a' := ?_) #[false, false, false, false, false, false, false, false, false, false, false, false, false, false, false, false, true] rfl rfl (any_of HT_.out (by kernel_rfl)) (fun _ _ _ h => h) (Or.inl ⟨by rfl, ?_⟩) ?_ ?_
  rotate_left
  · intro w'
    go_simp
    with_reducible rfl
  rotate_left
  · simp only [Act.put, List.setIfInBounds_toArray, List.set_cons_zero, List.set_cons_succ, i64_w, i32_w]
    rfl
  refine take_ (i := 0) (N := some 7) (v := ?_) (a' := ?_) #[true, false, false, false, false, false, false, false, false, false, false, false, false, false, false, false, true] rfl rfl (take_ofW HT_.out HW_.out (by kernel_rfl)) (fun _ _ _ h => h) (Or.inl ⟨by rfl, ?_⟩) hHeld ?_ ?_
  rotate_left
  · rintro w' ⟨s0, s1, s2⟩
    go_simp
    with_reducible rfl
  rotate_left
  · simp only [Act.put, List.setIfInBounds_toArray, List.set_cons_zero, List.set_cons_succ, i64_w, i32_w]
    rfl
  refine take_ (i := 1) (N := some 8) (v := ?_) (a' := ?_) #[true, true, false, false, false, false, false, false, false, false, false, false, false, false, false, false, true] rfl rfl (take_ofW HT_.out HW_.out (by kernel_rfl)) (fun _ _ _ h => h) (Or.inl ⟨by rfl, ?_⟩) hHeld ?_ ?_
  rotate_left
  · rintro w' ⟨s0, s1, s2⟩
    go_simp
    with_reducible rfl
  rotate_left
  · simp only [Act.put, List.setIfInBounds_toArray, List.set_cons_zero, List.set_cons_succ, i64_w, i32_w]
    rfl
  refine pure_ (i := 2) (N := some 9) (v := ?_) (a' := ?_) #[true, true, true, false, false, false, false, false, false, false, false, false, false, false, false, false, true] rfl rfl (any_of HT_.out (by kernel_rfl)) (fun _ _ _ h => h) (Or.inl ⟨by rfl, ?_⟩) ?_ ?_
  rotate_left
  · intro w'
    go_simp
    with_reducible rfl
  rotate_left
  · simp only [Act.put, List.setIfInBounds_toArray, List.set_cons_zero, List.set_cons_succ, i64_w, i32_w]
    rfl
  refine pure_ (i := 3) (N := some 10) (v := ?_) (a' := ?_) #[true, true, true, true, false, false, false, false, false, false, false, false, false, false, false, false, true] rfl rfl (any_of HT_.out (by kernel_rfl)) (fun _ _ _ h => h) (Or.inl ⟨by rfl, ?_⟩) ?_ ?_
  rotate_left
  · intro w'
    go_simp
    with_reducible rfl
  rotate_left
  · simp only [Act.put, List.setIfInBounds_toArray, List.set_cons_zero, List.set_cons_succ, i64_w, i32_w]
    rfl
  refine take_ (i := 4) (N := some 11) (v := ?_) (a' := ?_) #[true, true, true, true, true, false, false, false, false, false, false, false, false, false, false, false, true] rfl rfl (take_ofW HT_.out HW_.out (by kernel_rfl)) (fun _ _ _ h => h) (Or.inl ⟨by rfl, ?_⟩) hHeld ?_ ?_
  rotate_left
  · rintro w' ⟨s0, s1, s2⟩
    go_simp
    with_reducible rfl
  rotate_left
  · simp only [Act.put, List.setIfInBounds_toArray, List.set_cons_zero, List.set_cons_succ, i64_w, i32_w]
    rfl
  refine take_ (i := 5) (N := some 12) (v := ?_) (a' := ?_) #[true, true, true, true, true, true, false, false, false, false, false, false, false, false, false, false, true] rfl rfl (take_ofW HT_.out HW_.out (by kernel_rfl)) (fun _ _ _ h => h) (Or.inl ⟨by rfl, ?_⟩) hHeld ?_ ?_
  rotate_left
  · rintro w' ⟨s0, s1, s2⟩
    go_simp
    with_reducible rfl
  rotate_left
  · simp only [Act.put, List.setIfInBounds_toArray, List.set_cons_zero, List.set_cons_succ, i64_w, i32_w]
    rfl
  refine pure_ (i := 6) (N := some 13) (v := ?_) (a' := ?_) #[true, true, true, true, true, true, true, false, false, false, false, false, false, false, false, false, true] rfl rfl (any_of HT_.out (by kernel_rfl)) (fun _ _ _ h => h) (Or.inl ⟨by rfl, ?_⟩) ?_ ?_
  rotate_left
  · intro w'
    go_simp
    with_reducible rfl
  rotate_left
  · simp only [Act.put, List.setIfInBounds_toArray, List.set_cons_zero, List.set_cons_succ, i64_w, i32_w]
    rfl
  refine pure_ (i := 7) (N := some 14) (v := ?_) (a' := ?_) #[true, true, true, true, true, true, true, true, false, false, false, false, false, false, false, false, true] rfl rfl (any_of HT_.out (by kernel_rfl)) (fun _ _ _ h => h) (Or.inl ⟨by rfl, ?_⟩) ?_ ?_
  rotate_left
  · intro w'
    go_simp
    with_reducible rfl
  rotate_left
  · simp only [Act.put, List.setIfInBounds_toArray, List.set_cons_zero, List.set_cons_succ, i64_w, i32_w]
    rfl
  refine take_ (i := 8) (N := some 15) (v := ?_) (a' := ?_) #[true, true, true, true, true, true, true, true, true, false, false, false, false, false, false, false, true] rfl rfl (take_ofW HT_.out HW_.out (by kernel_rfl)) (fun _ _ _ h => h) (Or.inl ⟨by rfl, ?_⟩) hHeld ?_ ?_
  rotate_left
  · rintro w' ⟨s0, s1, s2⟩
    go_simp
    with_reducible rfl
  rotate_left
  · simp only [Act.put, List.setIfInBounds_toArray, List.set_cons_zero, List.set_cons_succ, i64_w, i32_w]
    rfl
  refine take_ (i := 9) (N := some 16) (v := ?_) (a' := ?_) #[true, true, true, true, true, true, true, true, true, true, false, false, false, false, false, false, true] rfl rfl (take_ofW HT_.out HW_.out (by kernel_rfl)) (fun _ _ _ h => h) (Or.inl ⟨by rfl, ?_⟩) hHeld ?_ ?_
  rotate_left
  · rintro w' ⟨s0, s1, s2⟩
    go_simp
    with_reducible rfl
  rotate_left
  · simp only [Act.put, List.setIfInBounds_toArray, List.set_cons_zero, List.set_cons_succ, i64_w, i32_w]
    rfl
  refine pure_ (i := 10) (N := some 17) (v := ?_) (a' := ?_) #[true, true, true, true, true, true, true, true, true, true, true, false, false, false, false, false, true] rfl rfl (any_of HT_.out (by kernel_rfl)) (fun _ _ _ h => h) (Or.inl ⟨by rfl, ?_⟩) ?_ ?_
  rotate_left
  · intro w'
    go_simp
    with_reducible rfl
  rotate_left
  · simp only [Act.put, List.setIfInBounds_toArray, List.set_cons_zero, List.set_cons_succ, i64_w, i32_w]
    rfl
  refine pure_ (i := 11) (N := some 18) (v := ?_) (a' := ?_) #[true, true, true, true, true, true, true, true, true, true, true, true, false, false, false, false, true] rfl rfl (any_of HT_.out (by kernel_rfl)) (fun _ _ _ h => h) (Or.inl ⟨by rfl, ?_⟩) ?_ ?_
  rotate_left
  · intro w'
    go_simp
    with_reducible rfl
  rotate_left
  · simp only [Act.put, List.setIfInBounds_toArray, List.set_cons_zero, List.set_cons_succ, i64_w, i32_w]
    rfl
  refine take_ (i := 12) (N := some 19) (v := ?_) (a' := ?_) #[true, true, true, true, true, true, true, true, true, true, true, true, true, false, false, false, true] rfl rfl (take_ofW HT_.out HW_.out (by kernel_rfl)) (fun _ _ _ h => h) (Or.inl ⟨by rfl, ?_⟩) hHeld ?_ ?_
  rotate_left
  · rintro w' ⟨s0, s1, s2⟩
    go_simp
    with_reducible rfl
  rotate_left
  · simp only [Act.put, List.setIfInBounds_toArray, List.set_cons_zero, List.set_cons_succ, i64_w, i32_w]
    rfl
  refine pure_ (i := 13) (N := some 20) (v := ?_) (a' := ?_) #[true, true, true, true, true, true, true, true, true, true, true, true, true, true, false, false, true] rfl rfl (any_of HT_.out (by kernel_rfl)) (fun _ _ _ h => h) (Or.inl ⟨by rfl, ?_⟩) ?_ ?_
  rotate_left
  · intro w'
    go_simp
    with_reducible rfl
  rotate_left
  · simp only [Act.put, List.setIfInBounds_toArray, List.set_cons_zero, List.set_cons_succ, i64_w, i32_w]
    rfl
  refine one_ (i := 14) (N := some 21) #[true, true, true, true, true, true, true, true, true, true, true, true, true, true, true, false, true] rfl rfl (one_of HT_.out (by kernel_rfl)) (by decide) (fun K hK => ?_)
  refine goes_ Try.func34 (by kernel_rfl) rfl #[.pointer (some ⟨b, 0, none⟩), .int .i64 (s.fl : Int), .int .i64 (wrap64 (nn : Int))] (by rfl) rfl rfl (by simp only [List.map_toArray, List.map_cons, List.map_nil]; rfl) ?_
  rw [hwr2]
  with_reducible refine (out_all (RingIs_below HR.out (below_drew (Below.refl W.heap.size W))) HNN.out).mono ?_
  rintro e w3 ⟨rfl, hs3, hb3⟩
  refine ⟨_, rfl, ?_⟩
  refine hK.out _ _ ⟨(pw_cell_below hb3 d0), (pw_cell_below hb3 d1), (pw_cell_below hb3 d2)⟩ (fun hHeld => ?_)
  clear hK K
  refine norm_ (a' := ?_) ?_ ?_
  rotate_left
  · show Act.put _ (some 21) _ = _
    simp only [Act.put, List.setIfInBounds_toArray, List.set_cons_zero, List.set_cons_succ, i64_w, i32_w]
    rfl
  refine pure_ (i := 15) (N := some 22) (v := ?_) (a' := ?_) #[true, true, true, true, true, true, true, true, true, true, true, true, true, true, true, true, true] rfl rfl (any_of HT_.out (by kernel_rfl)) (fun _ _ _ h => h) (Or.inl ⟨by rfl, ?_⟩) ?_ ?_
  rotate_left
  · intro w'
    go_simp
    with_reducible rfl
  rotate_left
  · simp only [Act.put, List.setIfInBounds_toArray, List.set_cons_zero, List.set_cons_succ, i64_w, i32_w]
    rfl
  refine done_ (done_of HT_.out (by kernel_rfl)) ?_
  obtain ⟨f, hf⟩ := S_entries hs3
  have HSE := Aside0.mk hf
  have HB3 := Aside0.mk (show Below W.heap.size W w3 from below_then (below_drew (Below.refl W.heap.size W)) (Nat.le_refl _) hb3)
  have hg3 : W.heap.size < w3.heap.size := by
    have := Kd.S_lt hs3 W.heap.size (by simp [Value.ownBlock])
    exact this
  have HG3 := Aside0.mk hg3
  have HJ3 := Aside0.mk (show J (Mine T0 W.heap.size w3.heap.size W.heap.size f 0) 0 w3 from HJ.out T0 0 W w3 none _ H0.out (grown_of_below HB3.out none) (fun r e => by cases e) (fun k hk => hk.imp_right (fun h => ⟨h.1, h.2.1⟩)))
  clear hs3 hb3 hf hg3 d0 d1 d2
  go_wp2
  go_loopg [4, 23] nn (fun kq v4 v23 wr => ∃ k : Nat, k ≤ nn ∧ Aside0 (nn - k = kq) ∧ v23 = .int .i64 (k : Int) ∧ Aside0 (J (Mine T0 W.heap.size w3.heap.size W.heap.size f k) k wr) ∧ Aside0 (∀ j, W.heap.size ≤ j → j < w3.heap.size → (j = W.heap.size ∨ k ≤ f j) → wr.heap[j]? = w3.heap[j]?))
  case atStart => exact ⟨0, Nat.zero_le _, ⟨rfl⟩, rfl, HJ3, ⟨fun _ _ _ _ => rfl⟩⟩
  case round =>
    obtain ⟨k, hk, HKQ, rfl, HJK, HKP⟩ := hrel
    by_cases hlt : k < nn
    · have hd : decide ((k : Int) < (nn : Int)) = true := decide_eq_true (by omega)
      have hx := List.getElem?_eq_getElem (show k < s.l.length by rw [← HNN.out]; exact hlt)
      obtain ⟨y, hy⟩ : ∃ y, y = s.l[k]'(by rw [← HNN.out]; exact hlt) := ⟨_, rfl⟩
      rw [← hy] at hx
      obtain ⟨A, c, hcell, hrow⟩ := HSE.out k y hx
      have hgb : wr.heap[W.heap.size]? = w3.heap[W.heap.size]? := HKP.out _ (Nat.le_refl _) HG3.out (.inl rfl)
      have hcell2 : ∀ (j : Nat) (v : Value), (cells6 y (.slice A y.f5.length c))[j]? = some v → wr.cell? ⟨W.heap.size, k * 6 + j, none⟩ = some v := fun j v hj => by
        rw [show wr.cell? ⟨W.heap.size, k * 6 + j, none⟩ = w3.cell? ⟨W.heap.size, k * 6 + j, none⟩ by simp only [World.cell?]; rw [hgb]]
        exact hcell j v hj
      obtain ⟨m5, hm5⟩ : ∃ m5, m5 = y.f5.length := ⟨_, rfl⟩
      rw [← hm5] at hcell2 hrow
      have v0 : wr.cell? ⟨W.heap.size, k * 6, none⟩ = some (.int .i64 y.f0) := hcell2 0 _ rfl
      have v1 : wr.cell? ⟨W.heap.size, k * 6 + 1, none⟩ = some (.int .i64 y.f1) := hcell2 1 _ rfl
      have v2 : wr.cell? ⟨W.heap.size, k * 6 + 2, none⟩ = some (.int .i64 y.f2) := hcell2 2 _ rfl
      have v3 : wr.cell? ⟨W.heap.size, k * 6 + 3, none⟩ = some (.int .i64 y.f3) := hcell2 3 _ rfl
      have v4 : wr.cell? ⟨W.heap.size, k * 6 + 4, none⟩ = some (.int .i64 y.f4) := hcell2 4 _ rfl
      have v5 : wr.cell? ⟨W.heap.size, k * 6 + 5, none⟩ = some (.slice A m5 c) := hcell2 5 _ rfl
      have hnew : (wr.alloc (.cells zeroCells 33)).heap[wr.heap.size]? = some (.cells zeroCells 33) := heap_alloc_new _ _
      have HX := Aside0.mk hx
      have HM := Aside0.mk hm5
      have HROW := Aside0.mk hrow
      have HNEW := Aside0.mk hnew
      clear hx hy hcell hcell2 hgb hrow hm5 hnew
      go_wp2_with (with_reducible refine stop_store rfl ?_)
      refine wpList_store rfl rfl 33 (.tmp 4) (.tmp 26) rfl (.agg #[.int .i64 y.f0, .int .i64 y.f1, .int .i64 y.f2, .int .i64 y.f3, .int .i64 y.f4, .slice A m5 c]) (cells6 y (.slice A m5 c)) rfl rfl HNEW.out rfl size33 (by show 0 + 6 ≤ 6; omega) (by simp [cells6, Value.oneCell']) ?_
      rw [alloc_full (w := wr) (cur := zeroCells) (e := 33) (cells6 y (.slice A m5 c)) rfl]
      have hb2 : (wr.alloc (.cells (cells6 y (.slice A m5 c)).toArray 33)).heap[wr.heap.size]? = some (.cells (cells6 y (.slice A m5 c)).toArray 33) := heap_alloc_new _ _
      have hJ2 : J (fun j => Mine T0 W.heap.size w3.heap.size W.heap.size f (k + 1) j ∨ (j ≠ W.heap.size ∧ f j = k ∧ W.heap.size ≤ j ∧ j < w3.heap.size)) k (wr.alloc (.cells (cells6 y (.slice A m5 c)).toArray 33)) := by
        refine TOwn.less HJ.out (HJ.out.alloc (T' := Mine T0 W.heap.size w3.heap.size W.heap.size f k) _ HJK.out (fun j hj => .inl hj)) (fun j hj => ?_)
        rcases hj with (h | ⟨h1, h2, h3⟩) | ⟨h1, h2, h3, h4⟩
        · exact .inl h
        · exact .inr ⟨h1, h2, h3.imp_right (fun h => by omega)⟩
        · exact .inr ⟨h3, h4, .inr (by omega)⟩
      have hbel : Below wr.heap.size wr (wr.alloc (.cells (cells6 y (.slice A m5 c)).toArray 33)) := below_alloc (Below.refl _ _) _
      obtain ⟨wx, hwx⟩ : ∃ wx, wx = wr.alloc (.cells (cells6 y (.slice A m5 c)).toArray 33) := ⟨_, rfl⟩
      rw [← hwx] at hb2 hJ2 hbel ⊢
      have hkeep : ∀ j, W.heap.size ≤ j → j < w3.heap.size → (j = W.heap.size ∨ k ≤ f j) → wx.heap[j]? = w3.heap[j]? := fun j h1 h2 h3 => by
        have h4 := HKP.out j h1 h2 h3
        have h5 : j < wr.heap.size := by
          rw [Array.getElem?_eq_getElem h2] at h4
          exact (Array.getElem?_eq_some_iff.1 h4).1
        exact (hbel.block j h5).trans h4
      have hhand : Handed W.heap.size (Mine T0 W.heap.size w3.heap.size W.heap.size f (k + 1)) y A c (fun j => j ≠ W.heap.size ∧ f j = k ∧ W.heap.size ≤ j ∧ j < w3.heap.size) wx := by
        refine ⟨?_, fun j hj => ⟨fun hm => ?_, hj.2.2.1, ?_⟩⟩
        · rw [← HM.out]
          exact Kd.R_step (Kd.R_mono HROW.out (fun j hj => ⟨hj.1, hj.2.1, hj.2.2.1, hj.2.2.2.1⟩)) (fun j hj _ => hkeep j hj.2.2.1 hj.2.2.2 (.inr (by omega)))
        · rcases hm with hm | ⟨_, _, hm⟩
          · have := HT0.out j hm
            omega
          · rcases hm with hm | hm
            · exact hj.1 hm
            · omega
        · have h4 := hkeep j hj.2.2.1 hj.2.2.2 (.inr (by omega))
          rw [Array.getElem?_eq_getElem hj.2.2.2] at h4
          exact (Array.getElem?_eq_some_iff.1 h4).1
      have u0 : wx.cell? ⟨wr.heap.size, 0, none⟩ = some (.int .i64 y.f0) := (blk_cell hb2 0).trans rfl
      have u1 : wx.cell? ⟨wr.heap.size, 1, none⟩ = some (.int .i64 y.f1) := (blk_cell hb2 1).trans rfl
      have u2 : wx.cell? ⟨wr.heap.size, 2, none⟩ = some (.int .i64 y.f2) := (blk_cell hb2 2).trans rfl
      have u3 : wx.cell? ⟨wr.heap.size, 3, none⟩ = some (.int .i64 y.f3) := (blk_cell hb2 3).trans rfl
      have u4 : wx.cell? ⟨wr.heap.size, 4, none⟩ = some (.int .i64 y.f4) := (blk_cell hb2 4).trans rfl
      have u5 : wx.cell? ⟨wr.heap.size, 5, none⟩ = some (.slice A m5 c) := (blk_cell hb2 5).trans rfl
      have hTlt : ∀ j, Mine T0 W.heap.size w3.heap.size W.heap.size f (k + 1) j → j < wx.heap.size := by
        have hg := hkeep W.heap.size (Nat.le_refl _) HG3.out (.inl rfl)
        rw [Array.getElem?_eq_getElem HG3.out] at hg
        have hglt : W.heap.size < wx.heap.size := (Array.getElem?_eq_some_iff.1 hg).1
        intro j hj
        rcases hj with hj | ⟨h1, h2, h3⟩
        · have := HT0.out j hj
          omega
        · have h4 := hkeep j h1 h2 (h3.imp_right (fun h => by omega))
          rw [Array.getElem?_eq_getElem h2] at h4
          exact (Array.getElem?_eq_some_iff.1 h4).1
      have hYA := HY.out _ k y A c _ wx (fun j hj => .inl hj) hTlt HX.out hJ2 hhand
      rw [← HM.out] at hYA
      have HYA := Aside0.mk hYA
      have HKE := Aside0.mk hkeep
      have HTL := Aside0.mk hTlt
      have HBX := Aside0.mk hb2
      clear hYA hkeep hTlt hJ2 hhand hbel hb2 hwx
      refine wpList_nil ?_
      refine ‹∀ (a : Act) (w : World), Code.wp Try.prog _ _ a w → _› _ _ ?_
      refine wp_seq ?_
      refine (wpIn_wide (n := 0)).1 ?_
      refine wpIn_region_lit ?_
      refine listIn_value (r := none) (W1 := wx) (v := .func (.yield l) #[] #[]) rfl (by simp) (by rfl) ?_
      refine listIn_value (r := none) (W1 := wx) (v := .agg #[.int .i64 y.f0, .int .i64 y.f1, .int .i64 y.f2, .int .i64 y.f3, .int .i64 y.f4, .slice A m5 c]) rfl (by simp) ?_ ?_
      · go_simp
      refine listIn_yield (r := none) (.tmp 27) (.tmp 28) _ rfl rfl (by rfl) (by rfl) HYA.out ?_ (by rintro c W' ⟨(⟨h, _⟩ | ⟨h, _⟩), _⟩ <;> cases h) (by rintro W' ⟨(⟨h, _⟩ | ⟨h, _⟩), _⟩ <;> cases h)
      rintro v W' ⟨(⟨h, hj'⟩ | ⟨h, hjx⟩), hTk⟩
      · cases h
        have HJ' := Aside0.mk hj'
        have HK' := Aside0.mk (show ∀ j, W.heap.size ≤ j → j < w3.heap.size → (j = W.heap.size ∨ k + 1 ≤ f j) → W'.heap[j]? = w3.heap[j]? from fun j h1 h2 h3 => (hTk j (.inr ⟨h1, h2, h3⟩) h1 (HTL.out j (.inr ⟨h1, h2, h3⟩))).trans (HKE.out j h1 h2 (h3.imp_right (fun h => by omega))))
        clear hj' hTk u0 u1 u2 u3 u4 u5 v0 v1 v2 v3 v4 v5
        refine listIn_value (r := none) rfl (by simp) (by rfl) ?_
        refine wpListIn_nil ?_
        go_wp2
        go_roundg (nn - (k + 1))
        case measure => have := HKQ.out; omega
        case rel => exact ⟨k + 1, by omega, ⟨rfl⟩, by go_num, HJ', HK'⟩
      · cases h
        have HJX := Aside0.mk hjx
        clear hjx hTk u0 u1 u2 u3 u4 u5 v0 v1 v2 v3 v4 v5
        refine listIn_value (r := none) rfl (by simp) (by rfl) ?_
        refine wpListIn_nil ?_
        go_wp2
        refine bodyPost_ret (results_none rfl _ _ _) rfl ?_
        exact ⟨⟨_, rfl⟩, .inr HJX.out⟩
    · have hd : decide ((k : Int) < (nn : Int)) = false := decide_eq_false (by omega)
      have hkn : k = nn := by omega
      have HJF := Aside0.mk (TOwn.less HJ.out (hkn ▸ HJK.out) (fun j hj => (.inl hj : Mine T0 W.heap.size w3.heap.size W.heap.size f nn j)))
      rw [HNN.out] at HJF
      clear hkn
      go_wp2
      go_end0
      exact ⟨⟨_, rfl⟩, .inl HJF.out⟩
set_option maxRecDepth 100000 in
theorem it33 (Bn : Nat) (p : Option Nat) (s : RS) (base : Nat) (ok : Nat → Prop) (W : World) (hbox : W.cell? ⟨Bn, 0, none⟩ = some (ptr p)) (hring : RingIs W base ok p s) : ItRing Try.prog 33 Bn s.l W := by
  cases p with
  | some b => exact it33_some Bn b s base ok W hbox hring
  | none =>
    intro l J Jx T0 hJ hJx hT0 hY h0
    obtain ⟨_, rfl⟩ := hring
    have HZ := Aside0.mk h0
    have hb : W.cell? ⟨Bn, 0, none⟩ = some (.pointer none) := hbox
    clear hJ hJx hT0 hY h0 hbox
    go_enter Try.func33, Try.ntmps33
    go_wp2
    refine bodyPost_ret (results_none rfl _ _ _) rfl ?_
    exact ⟨⟨_, rfl⟩, .inl HZ.out⟩
end Go.Proofs.Ytcbejpmmlcdhnaa.PW
namespace Go.Proofs.Ytcbejpmmlcdhnaa.PW
open Go.RowKit Go.Proofs.YtcbejpmmlcdhnaaW.PrintWords Go.Proofs.YtcbejpmmlcdhnaaW.PrintLast Go.Proofs.YtcbejpmmlcdhnaaW.PrintMore
set_option linter.unusedVariables false
set_option linter.unusedSimpArgs false
attribute [local go_sem] Oper.semAt_some

/-- A block of cells. -/
def Celly (W : World) (j : Nat) : Prop := ∃ cs q, W.heap[j]? = some (.cells cs q (0, 0))
theorem Celly.lt {W : World} {j : Nat} (h : Celly W j) : j < W.heap.size := by obtain ⟨cs, q, h⟩ := h; exact blk_lt h
theorem S_celly {α : Type} {d : Kd α} {e base : Nat} {ok : Nat → Prop} {w : World} {v : Value} {xs : List α} (h : Kd.S d e w base ok v xs) : Kd.S d e w base (fun k => ok k ∧ base ≤ k ∧ Celly w k) v xs :=
  Kd.S_mono (Kd.S_bound h) (fun k hk => ⟨hk.1, hk.2.1, by obtain ⟨q, _, cs, hc⟩ := hk.2.2.2; exact ⟨cs, q, hc⟩⟩)
theorem R_celly {α : Type} {d : Kd α} {e base : Nat} {ok : Nat → Prop} {w : World} {v : Value} {xs : List α} (h : d.R e w base ok v xs) : d.R e w base (fun k => ok k ∧ base ≤ k ∧ Celly w k) v xs :=
  Kd.R_mono (Kd.R_bound h) (fun k hk => ⟨hk.1, hk.2.1, by obtain ⟨q, _, cs, hc⟩ := hk.2.2.2; exact ⟨cs, q, hc⟩⟩)
/-- What a turn of a block that is no cells, or new blocks, leave alone. -/
theorem celly_grown {W W' : World} {row : Option Nat} {j B : Nat} (hc : Celly W j) (hg : W.grownBy W' row) (hr : ∀ r, row = some r → B ≤ r ∧ ∃ o : Obj, W.heap[r]? = some o ∧ o.isCells = false) : W'.heap[j]? = W.heap[j]? := by
  obtain ⟨cs, q, h⟩ := hc
  refine hg.block j (blk_lt h) (fun e => ?_)
  obtain ⟨_, o, ho, hc⟩ := hr j e.symm
  rw [h] at ho
  cases ho
  cases hc
theorem Celly.grown {W W' : World} {row : Option Nat} {j B : Nat} (hc : Celly W j) (hg : W.grownBy W' row) (hr : ∀ r, row = some r → B ≤ r ∧ ∃ o : Obj, W.heap[r]? = some o ∧ o.isCells = false) : Celly W' j := by
  have := celly_grown hc hg hr
  obtain ⟨cs, q, h⟩ := hc
  exact ⟨cs, q, this.trans h⟩
theorem blk_celly {W W' : World} {row : Option Nat} {j B : Nat} {cs : Array Value} {q : TypeId} (h : W.heap[j]? = some (.cells cs q (0, 0))) (hg : W.grownBy W' row) (hr : ∀ r, row = some r → B ≤ r ∧ ∃ o : Obj, W.heap[r]? = some o ∧ o.isCells = false) : W'.heap[j]? = some (.cells cs q (0, 0)) := (celly_grown ⟨cs, q, h⟩ hg hr).trans h
/-- All: a closure over the ring's pointer. -/
theorem All_C (p : Option Nat) (w : World) : Calls Try.prog 13 #[ptr p] w fun e w' => e = .returned (.func (.func 33) #[] #[.pointer (some ⟨w.heap.size, 0, none⟩)]) ∧ w' = w.alloc (.cells #[ptr p] 23) := by
  unfold ptr
  go_enter Try.func13, Try.ntmps13
  go_wp2
  go_ret
  exact ⟨rfl, rfl⟩
/-- While entries are collected: L.take k in the row at block n0 + 2. -/
def AllI (w0 : World) (p : Option Nat) (L : List S33) (T : Nat → Prop) (k : Nat) (W : World) : Prop :=
  ∃ v okr, Kd.S k33 33 W w0.heap.size okr v (L.take k) ∧ W.heap[w0.heap.size]? = some (.cells #[.slice none 0 0] 25 (0, 0)) ∧ W.heap[w0.heap.size + 1]? = some (.cells #[.bool false] 4 (0, 0)) ∧ W.heap[w0.heap.size + 2]? = some (.cells #[v] 25 (0, 0)) ∧ W.heap[w0.heap.size + 3]? = some (.cells #[ptr p] 23 (0, 0)) ∧
    (∀ j, okr j → w0.heap.size + 4 ≤ j ∧ ¬ T j ∧ Celly W j) ∧ Below w0.heap.size w0 W
theorem AllI_own (w0 : World) (p : Option Nat) (L : List S33) (hB : w0.heap.size ≤ w0.heap.size + 4) : TOwn (w0.heap.size + 4) (AllI w0 p L) := by
  rintro T k W W' row T' ⟨v, okr, h1, h2, h3, h4, h5, h6, h7⟩ hg hr hT
  refine ⟨v, okr, Kd.S_step h1 (fun j hj _ => celly_grown (h6 j hj).2.2 hg hr), blk_celly h2 hg hr, blk_celly h3 hg hr, blk_celly h4 hg hr, blk_celly h5 hg hr, fun j hj => ⟨(h6 j hj).1, fun hx => ?_, (h6 j hj).2.2.grown hg hr⟩, h7.grown hg h7.size (fun r e => by have := (hr r e).1; omega)⟩
  rcases hT j hx with h | h
  · exact (h6 j hj).2.1 h
  · have := (h6 j hj).2.2.lt
    omega
end Go.Proofs.Ytcbejpmmlcdhnaa.PW
namespace Go.Proofs.Ytcbejpmmlcdhnaa.PW
open Go.RowKit Go.Proofs.YtcbejpmmlcdhnaaW.PrintWords Go.Proofs.YtcbejpmmlcdhnaaW.PrintLast Go.Proofs.YtcbejpmmlcdhnaaW.PrintMore
set_option linter.unusedVariables false
set_option linter.unusedSimpArgs false
attribute [local go_sem] Oper.semAt_some

theorem results_25_4 {fn : Func} {p q : Tmp} (h : fn.results = #[.cell p 25, .cell q 4]) (tmps : Array Value) (w : World) (g1 g2 n c : Nat) (A : Option Addr) (b : Bool)
    (hp : tmps.getD p undef = .pointer (some ⟨g1, 0, none⟩)) (hq : tmps.getD q undef = .pointer (some ⟨g2, 0, none⟩)) (c1 : w.cell? ⟨g1, 0, none⟩ = some (.slice A n c)) (c2 : w.cell? ⟨g2, 0, none⟩ = some (.bool b)) :
    (results fn tmps).run Try.prog w = .ok (.tuple #[.slice A n c, .bool b]) w := by
  have hp' : tmps[p]?.getD undef = .pointer (some ⟨g1, 0, none⟩) := by simpa using hp
  have hq' : tmps[q]?.getD undef = .pointer (some ⟨g2, 0, none⟩) := by simpa using hq
  have l1 : (loadVar 25 ⟨g1, 0, none⟩).run Try.prog w = .ok (.slice A n c) w := by go_simp
  have l2 : (loadVar 4 ⟨g2, 0, none⟩).run Try.prog w = .ok (.bool b) w := by go_simp
  simp [results, h, hp', hq', asAddr, l1, l2]
theorem blk4 (w : World) (o0 o1 o2 o3 : Obj) {W : World} (hW : W = (((w.alloc o0).alloc o1).alloc o2).alloc o3) : W.heap[w.heap.size]? = some o0 ∧ W.heap[w.heap.size + 1]? = some o1 ∧ W.heap[w.heap.size + 2]? = some o2 ∧ W.heap[w.heap.size + 3]? = some o3 ∧ W.heap.size = w.heap.size + 4 ∧ Below w.heap.size w W := by
  subst hW
  have s1 := szA w o0
  have s2 := szA (w.alloc o0) o1
  have s3 := szA ((w.alloc o0).alloc o1) o2
  have s4 := szA (((w.alloc o0).alloc o1).alloc o2) o3
  have n0 := heap_alloc_new w o0
  have n1 := heap_alloc_new (w.alloc o0) o1
  have n2 := heap_alloc_new ((w.alloc o0).alloc o1) o2
  have n3 := heap_alloc_new (((w.alloc o0).alloc o1).alloc o2) o3
  have b2 : Below (w.alloc o0).heap.size (w.alloc o0) ((w.alloc o0).alloc o1) := below_alloc (Below.refl _ _) _
  have b3 : Below ((w.alloc o0).alloc o1).heap.size ((w.alloc o0).alloc o1) (((w.alloc o0).alloc o1).alloc o2) := below_alloc (Below.refl _ _) _
  have b4 : Below (((w.alloc o0).alloc o1).alloc o2).heap.size (((w.alloc o0).alloc o1).alloc o2) ((((w.alloc o0).alloc o1).alloc o2).alloc o3) := below_alloc (Below.refl _ _) _
  rw [s1] at n1
  rw [s2, s1] at n2
  rw [s3, s2, s1] at n3
  refine ⟨?_, ?_, ?_, ?_, by omega, below_alloc (below_alloc (below_alloc (below_alloc (Below.refl _ _) _) _) _) _⟩
  · exact (b4.block _ (by omega)).trans ((b3.block _ (by omega)).trans ((b2.block _ (by omega)).trans n0))
  · exact (b4.block _ (by omega)).trans ((b3.block _ (by omega)).trans n1)
  · exact (b4.block _ (by omega)).trans n2
  · exact n3
theorem eq29 (f : FuncId) (xs : Array Value) : ∀ W : World, (binOp .eql 29 (.func (.func f) #[] xs) .nilFunc).run Try.prog W = .ok (.bool false) W := fun W => by kernel_rfl
set_option maxHeartbeats 8000000 in
set_option maxRecDepth 100000 in
theorem all_R {w : World} {base : Nat} {ok : Nat → Prop} {p : Option Nat} {s : RS} (h : RingIs w base ok p s) :
    Calls Try.prog 12 #[ptr p] w fun e w' => ∃ A n c, e = .returned (.tuple #[.slice A n c, .bool true]) ∧ n = s.l.length ∧ n ≤ c ∧ Kd.S k33 33 w' w.heap.size (fun _ => True) (.slice A n c) s.l ∧ Below w.heap.size w w' := by
  have H := Aside0.mk h
  have hlen : s.l.length ≤ 64 := Nat.le_trans h.1.2.1 h.1.1
  have HLEN := Aside0.mk hlen
  clear h hlen
  refine (callsIn_wide (n := 0)).1 (callsIn_of_wp_marks Try.func12 rfl trivial ?_)
  refine (wpIn_wide (n := 0)).2 ?_
  simp only [Try.ntmps12, List.size_toArray, List.length_cons, List.length_nil, Nat.reduceAdd, Nat.reduceSub, Array.replicate_succ, Array.replicate_zero, List.push_toArray, List.append_toArray, List.nil_append, List.cons_append]
  go_wp2_with fail
  refine (All_C p _).mono ?_
  rintro e w1 ⟨rfl, rfl⟩
  obtain ⟨w1, hw1⟩ : ∃ w1, w1 = (((w.alloc (.cells #[.slice none 0 0] 25)).alloc (.cells #[.bool false] 4)).alloc (.cells #[.slice none 0 0] 25)).alloc (.cells #[ptr p] 23) := ⟨_, rfl⟩
  have hsz : (((w.alloc (.cells #[.slice none 0 0] 25)).alloc (.cells #[.bool false] 4)).alloc (.cells #[.slice none 0 0] 25)).heap.size = w.heap.size + 3 := by rw [szA, szA, szA]
  obtain ⟨b0, b1, b2, b3, b4, b5⟩ := blk4 w _ _ _ _ hw1
  rw [← hw1, hsz]
  have HB := Aside0.mk (And.intro b0 (And.intro b1 (And.intro b2 (And.intro b3 (And.intro b4 b5)))))
  have he := eq29 33 #[.pointer (some ⟨w.heap.size + 3, 0, none⟩)]
  have e2 : w.heap.size + 1 + 1 = w.heap.size + 2 := rfl
  rw [e2]
  clear hw1 hsz b0 b1 b2 b3 b4 b5 e2
  go_wp2
  have hI0 : AllI w p s.l (fun _ => False) 0 w1 := ⟨.slice none 0 0, fun _ => False, Kd.S_nil _ _ _ _ _, HB.out.1, HB.out.2.1, HB.out.2.2.1, HB.out.2.2.2.1, fun j hj => hj.elim, HB.out.2.2.2.2.2⟩
  refine rangeRing (gf := 33) (Bn := w.heap.size + 3) 6 s.l rfl (enters_ Try.func33 (by kernel_rfl) rfl) rfl (AllI w p s.l) (fun _ _ => False) (fun _ => False) ?hI ?hIx ?h0 ?hT0 ?hit ?assign ?body ?done ?stop
  case hI => exact TOwn.weak (AllI_own w p s.l (by omega)) (by have := HB.out.2.2.2.2.1; omega)
  case hIx => exact fun c s A B row hs hg hr => hs
  case h0 => exact hI0
  case hT0 => exact fun j hj => hj.elim
  case hit =>
    rintro T W ⟨v, okr, h1, h2, h3, h4, h5, h6, h7⟩
    exact it33 _ p s base ok W (blk_cell h5 0) (RingIs_below H.out h7)
  case assign =>
    intro l y A c W K hK
    simp only [List.zip_toArray, List.zip_cons_cons, List.zip_nil_left, List.zip_nil_right, List.foldl_toArray, List.foldl_toArray', List.foldl_cons, List.foldl_nil, List.setIfInBounds_toArray, List.set_cons_zero, List.set_cons_succ] at hK ⊢
    refine region_round l (by rintro ⟨a, w, h⟩; exact h) (by simp) ?_
    obtain ⟨m5, hm5⟩ : ∃ m5, m5 = y.f5.length := ⟨_, rfl⟩
    rw [← hm5] at hK ⊢
    have HK := Aside0.mk hK
    have HNEW := Aside0.mk (heap_alloc_new W (.cells zeroCells 33))
    clear hK hm5
    unfold entV at *
    go_wp2_with (with_reducible refine stop_store rfl ?_)
    refine wpList_store rfl rfl 33 (.tmp 6) (.tmp 12) rfl (.agg #[.int .i64 y.f0, .int .i64 y.f1, .int .i64 y.f2, .int .i64 y.f3, .int .i64 y.f4, .slice A m5 c]) (cells6 y (.slice A m5 c)) rfl rfl HNEW.out rfl size33 (by show 0 + 6 ≤ 6; omega) (by simp [cells6, Value.oneCell']) ?_
    rw [alloc_full (w := W) (cur := zeroCells) (e := 33) (cells6 y (.slice A m5 c)) rfl]
    exact wpList_nil HK.out
  case body =>
    rintro T l k y A c okx B W hT hTlt hTl hle hloop hy ⟨v, okr, h1, h2, h3, h4, h5, h6, h7⟩ ⟨hR, hokx⟩ hBle hbx
    have hs4 : w1.heap.size = w.heap.size + 4 := HB.out.2.2.2.2.1
    rw [hs4] at hle hR hokx hBle
    simp only [List.zip_toArray, List.zip_cons_cons, List.zip_nil_left, List.zip_nil_right, List.foldl_toArray, List.foldl_toArray', List.foldl_cons, List.foldl_nil, List.setIfInBounds_toArray, List.set_cons_zero, List.set_cons_succ]
    obtain ⟨m5, hm5⟩ : ∃ m5, m5 = y.f5.length := ⟨_, rfl⟩
    rw [← hm5] at hR hbx ⊢
    unfold entV
    have c4 : W.cell? ⟨w.heap.size + 2, 0, none⟩ = some v := (blk_cell h4 0).trans rfl
    have z4 : W.frozen? ⟨w.heap.size + 2, 0, none⟩ = false := blk_frozen h4 0
    have u0 : W.cell? ⟨B, 0, none⟩ = some (.int .i64 y.f0) := (blk_cell hbx 0).trans rfl
    have u1 : W.cell? ⟨B, 1, none⟩ = some (.int .i64 y.f1) := (blk_cell hbx 1).trans rfl
    have u2 : W.cell? ⟨B, 2, none⟩ = some (.int .i64 y.f2) := (blk_cell hbx 2).trans rfl
    have u3 : W.cell? ⟨B, 3, none⟩ = some (.int .i64 y.f3) := (blk_cell hbx 3).trans rfl
    have u4 : W.cell? ⟨B, 4, none⟩ = some (.int .i64 y.f4) := (blk_cell hbx 4).trans rfl
    have u5 : W.cell? ⟨B, 5, none⟩ = some (.slice A m5 c) := (blk_cell hbx 5).trans rfl
    have hkl : k < s.l.length := (List.getElem?_eq_some_iff.1 hy).1
    have htk : s.l.take (k + 1) = s.l.take k ++ [y] := by
      rw [List.take_add_one, hy]
      rfl
    have F1 := Aside0.mk h1
    have F2 := Aside0.mk h2
    have F3 := Aside0.mk h3
    have F4 := Aside0.mk h4
    have F5 := Aside0.mk h5
    have F6 := Aside0.mk h6
    have F7 := Aside0.mk h7
    have FR := Aside0.mk hR
    have FX := Aside0.mk hokx
    have FT := Aside0.mk hTlt
    have FM := Aside0.mk hm5
    have FK := Aside0.mk hkl
    have FTK := Aside0.mk htk
    clear h1 h2 h3 h4 h5 h6 h7 hR hokx hTlt hm5 hkl htk hbx hy hs4 hloop hI0
    refine wpIn_block ?_
    refine wpIn_seq ?_
    refine region_round l (by rintro ⟨a, w, h⟩; exact h) (by simp) ?_
    go_wp2_with (with_reducible refine stop_append rfl ?_)
    refine Kd.S_append k33 (w0 := w) w.heap.size rfl (.tmp 13) (.tmp 15) 25 33 (.agg #[(.int .i64 0), (.int .i64 0), (.int .i64 0), (.int .i64 0), (.int .i64 0), (.slice none 0 0)]) 64 rfl Try.underlying25 info33 rfl (by decide) (by omega) v (s.l.take k) y (cells6 y (.slice A m5 c)) (fun j => okr j ∨ okx j ∨ W.heap.size ≤ j) okx rfl rfl
      (k33_mkM _ _ _ _ (Kd.R_lower FR.out (by omega))) (fun j hj => ⟨.inr (.inl hj), fun e => (F6.out j ((Kd.S_R F1.out).1 j e.symm)).2.1 (.inr hj)⟩) (fun j hj => .inr (.inr hj)) (Kd.S_mono F1.out (fun j hj => ⟨.inl hj, fun hx => (F6.out j hj).2.1 (.inr hx)⟩)) F7.out F7.out.size (by rw [List.length_take]; have := HLEN.out; omega) ?_
    intro v1 w2 ho hb hg hat
    rw [← FTK.out] at ho
    obtain ⟨A1, c1, rfl⟩ := Kd.S_slice ho
    obtain ⟨nn, hnn⟩ : ∃ nn, nn = (s.l.take (k + 1)).length := ⟨_, rfl⟩
    have hnn64 : nn ≤ 64 := by rw [hnn, List.length_take]; have := HLEN.out; omega
    rw [← hnn] at ho ⊢
    have hne : ∀ i, i < 4 → some (w.heap.size + i) ≠ v.ownBlock := fun i hi e => by
      have := (F6.out _ ((Kd.S_R F1.out).1 _ e.symm)).1
      omega
    have hb4 := blk_grown F4.out hg (hne 2 (by omega))
    have c61 : w2.cell? ⟨w.heap.size + 2, 0, none⟩ = some v := (blk_cell hb4 0).trans rfl
    have z61 := blk_frozen hb4 0
    have G1 := Aside0.mk ho
    have G2 := Aside0.mk hg
    have G3 := Aside0.mk hb4
    have G4 := Aside0.mk (And.intro (blk_grown F2.out hg (hne 0 (by omega))) (And.intro (blk_grown F3.out hg (hne 1 (by omega))) (blk_grown F5.out hg (hne 3 (by omega)))))
    have G5 := Aside0.mk hb
    have GN := Aside0.mk hnn
    clear ho hb hg hat hb4 c4 z4 u0 u1 u2 u3 u4 u5 hnn hne
    go_wp2
    obtain ⟨W2, hW2⟩ : ∃ W2, W2 = w2.setCell ⟨w.heap.size + 2, 0, none⟩ (.slice A1 nn c1) := ⟨_, rfl⟩
    rw [← hW2]
    have hb5 : W2.heap[w.heap.size + 2]? = some (.cells #[.slice A1 nn c1] 25 (0, 0)) := by rw [hW2]; simpa using blk_set G3.out 0 (.slice A1 nn c1)
    have hfar : ∀ j, j ≠ w.heap.size + 2 → W2.heap[j]? = w2.heap[j]? := fun j hj => by rw [hW2]; exact Below.heap_setCell w2 _ _ j hj
    have hI : AllI w p s.l T (k + 1) W2 := by
      refine ⟨_, fun j => (okr j ∨ okx j ∨ W.heap.size ≤ j) ∧ Celly w2 j ∧ j ≠ w.heap.size + 2 ∧ w.heap.size + 4 ≤ j, ?_, (hfar _ (by omega)).trans G4.out.1, (hfar _ (by omega)).trans G4.out.2.1, hb5, (hfar _ (by omega)).trans G4.out.2.2, ?_, ?_⟩
      · refine Kd.S_step (Kd.S_mono (S_celly G1.out) (fun j hj => ⟨hj.1, hj.2.2, ?_, ?_⟩)) (fun j hj _ => hfar j hj.2.2.1)
        · rcases hj.1 with h | h | h
          · have := (F6.out j h).1
            omega
          · have := (FX.out j h).2.1
            omega
          · have := F5.out
            have := blk_lt F5.out
            omega
        · rcases hj.1 with h | h | h
          · exact (F6.out j h).1
          · exact (FX.out j h).2.1
          · have := blk_lt F5.out
            omega
      · intro j hj
        refine ⟨hj.2.2.2, fun hT => ?_, ?_⟩
        · rcases hj.1 with h | h | h
          · exact (F6.out j h).2.1 (.inl hT)
          · exact (FX.out j h).1 hT
          · have := FT.out j hT
            omega
        · obtain ⟨cs, q, hc⟩ := hj.2.1
          exact ⟨cs, q, (hfar j hj.2.2.1).trans hc⟩
      · rw [hW2]
        exact below_set G5.out (by show w.heap.size ≤ w.heap.size + 2; omega)
    have hTk : ∀ j, T j ∧ w1.heap.size ≤ j → W2.heap[j]? = W.heap[j]? := fun j hj => by
      have h4 := HB.out.2.2.2.2.1
      exact (hfar j (by omega)).trans (G2.out.block j (FT.out j hj.1) (fun e => (F6.out j ((Kd.S_R F1.out).1 j e.symm)).2.1 (.inl hj.1)))
    have c62 : W2.cell? ⟨w.heap.size + 2, 0, none⟩ = some (.slice A1 nn c1) := (blk_cell hb5 0).trans rfl
    have HI := Aside0.mk hI
    have HTK := Aside0.mk hTk
    clear hW2 hb5 hfar hI hTk c61 z61
    gi_wp2
    exact ⟨HTK.out, HI.out⟩
  case done =>
    rintro D W hD ⟨v, okr, h1, h2, h3, h4, h5, h6, h7⟩ hK
    rw [List.take_length] at h1
    obtain ⟨A1, c1, rfl⟩ := Kd.S_slice h1
    obtain ⟨nn, hnn⟩ : ∃ nn, nn = s.l.length := ⟨_, rfl⟩
    rw [← hnn] at h1 h4
    have c4 : W.cell? ⟨w.heap.size + 2, 0, none⟩ = some (.slice A1 nn c1) := (blk_cell h4 0).trans rfl
    have F1 := Aside0.mk h1
    have F2 := Aside0.mk h2
    have F3 := Aside0.mk h3
    have F6 := Aside0.mk h6
    have F7 := Aside0.mk h7
    have FN := Aside0.mk hnn
    have c2 : W.cell? ⟨w.heap.size, 0, none⟩ = some (.slice none 0 0) := (blk_cell h2 0).trans rfl
    have z2 : W.frozen? ⟨w.heap.size, 0, none⟩ = false := blk_frozen h2 0
    have c3 : W.cell? ⟨w.heap.size + 1, 0, none⟩ = some (.bool false) := (blk_cell h3 0).trans rfl
    have z3 : W.frozen? ⟨w.heap.size + 1, 0, none⟩ = false := blk_frozen h3 0
    clear h1 h2 h3 h4 h5 h6 h7 hnn hI0
    have hdf : ((W.setCell ⟨w.heap.size, 0, none⟩ (.slice A1 nn c1)).setCell ⟨w.heap.size + 1, 0, none⟩ (.bool true)).heap[D]? = some (.deferred (some [])) := by
      have h4 := HB.out.2.2.2.2.1
      exact (Below.heap_setCell _ _ _ D (by show D ≠ w.heap.size + 1; omega)).trans ((Below.heap_setCell _ _ _ D (by show D ≠ w.heap.size; omega)).trans hK)
    have HDF := Aside0.mk hdf
    have HDD := Aside0.mk hD
    clear hK hdf hD
    go_wp2
    obtain ⟨Wf, hWf⟩ : ∃ Wf, Wf = (W.setCell ⟨w.heap.size, 0, none⟩ (.slice A1 nn c1)).setCell ⟨w.heap.size + 1, 0, none⟩ (.bool true) := ⟨_, rfl⟩
    rw [← hWf] at HDF ⊢
    refine ⟨by simp, .inl ⟨_, _, rfl, run_takeDeferred HDF.out, ?_⟩⟩
    have hDne : w.heap.size + 4 ≤ D := by have h4 := HB.out.2.2.2.2.1; have := HDD.out; omega
    have b2 : (Wf.putObj D (.deferred none)).heap[w.heap.size]? = some (.cells #[.slice A1 nn c1] 25 (0, 0)) := by
      rw [World.putObj_heap_other (by omega), hWf]
      refine blk_far ?_ (by show w.heap.size ≠ w.heap.size + 1; omega) _
      simpa using blk_set F2.out 0 (.slice A1 nn c1)
    have b3 : (Wf.putObj D (.deferred none)).heap[w.heap.size + 1]? = some (.cells #[.bool true] 4 (0, 0)) := by
      rw [World.putObj_heap_other (by omega), hWf]
      have := blk_set (w := W.setCell ⟨w.heap.size, 0, none⟩ (.slice A1 nn c1)) (blk_far F3.out (by show w.heap.size + 1 ≠ w.heap.size; omega) _) 0 (.bool true)
      simpa using this
    refine ⟨_, results_25_4 (fn := Try.f12) rfl _ _ w.heap.size (w.heap.size + 1) nn c1 A1 true rfl rfl ((blk_cell b2 0).trans rfl) ((blk_cell b3 0).trans rfl), A1, nn, c1, rfl, FN.out, ?_, ?_, ?_⟩
    · rw [FN.out]
      rw [FN.out] at F1
      exact (Kd.S_reads' F1.out).2.1
    · refine Kd.S_mono (Kd.S_step F1.out (fun j hj _ => ?_)) (fun _ _ => trivial)
      have h6 := F6.out j hj
      rw [hWf]
      have hne : j ≠ D := fun e => by
        obtain ⟨cs, q, hc⟩ := h6.2.2
        have h7 := HDF.out
        rw [hWf, ← e] at h7
        rw [Below.heap_setCell _ ⟨w.heap.size + 1, 0, none⟩ _ j (by show j ≠ w.heap.size + 1; omega), Below.heap_setCell _ ⟨w.heap.size, 0, none⟩ _ j (by show j ≠ w.heap.size; omega), hc] at h7
        cases h7
      exact (World.putObj_heap_other (by omega)).trans ((Below.heap_setCell _ ⟨w.heap.size + 1, 0, none⟩ _ j (by show j ≠ w.heap.size + 1; omega)).trans (Below.heap_setCell _ ⟨w.heap.size, 0, none⟩ _ j (by show j ≠ w.heap.size; omega)))
    · rw [hWf]
      have := below_set (g := w.heap.size + 1) (j := 0) (v := .bool true) (below_set (g := w.heap.size) (j := 0) (v := .slice A1 nn c1) F7.out (Nat.le_refl _)) (by omega)
      exact this.grown (grownBy_putObj' _ D _) this.size (fun r e => by cases e; omega)
  case stop => exact fun D c W _ h _ => h.elim
end Go.Proofs.Ytcbejpmmlcdhnaa.PW
namespace Go.Proofs.Ytcbejpmmlcdhnaa.PW
open Go.RowKit Go.Proofs.YtcbejpmmlcdhnaaW.PrintWords Go.Proofs.YtcbejpmmlcdhnaaW.PrintLast Go.Proofs.YtcbejpmmlcdhnaaW.PrintMore
set_option linter.unusedVariables false
set_option linter.unusedSimpArgs false

section
variable {W w' : World} {base b : Nat} {ok : Nat → Prop} {p : Option Nat} {s : RS}
theorem k33E {q : Nat} (h : q ∈ 33 :: k33.E) : q = 33 ∨ q = 55 := by
  have : k33.E = [55] := rfl
  rw [this] at h
  simpa using h
theorem RingIs_bound (h : RingIs W base ok p s) : RingIs W base (fun k => ok k ∧ k < W.heap.size) p s := by
  cases p with
  | none => exact h
  | some b => obtain ⟨h1, E, h2, h3⟩ := h; exact ⟨h1, E, RingAt_old h2, h3⟩
theorem RingIs_base (h : RingIs W base ok (some b) s) : base ≤ b ∧ ok b := by
  obtain ⟨h1, E, ⟨a1, a2, _⟩, h3⟩ := h
  exact ⟨a1, a2⟩
end
def cells5 (x : S55) : List Value := [.int .i64 x.f0, .string x.f1, .string x.f2, .int .i64 x.f3, .int .i64 x.f4]
theorem size55 : (Try.prog.info? 55).map (·.size) = some 5 := by kernel_rfl
end Go.Proofs.Ytcbejpmmlcdhnaa.PW
namespace Go.Proofs.Ytcbejpmmlcdhnaa.PW
open Go.RowKit Go.Proofs.YtcbejpmmlcdhnaaW.PrintWords Go.Proofs.YtcbejpmmlcdhnaaW.PrintLast Go.Proofs.YtcbejpmmlcdhnaaW.PrintMore
set_option linter.unusedVariables false
set_option linter.unusedSimpArgs false

theorem add0 (g i : Nat) : (⟨g, 0, none⟩ : Addr).add i = ⟨g, i, none⟩ := by unfold Addr.add; split <;> simp_all
section
variable {W w1 : World} {base e sz n m : Nat} {v v0 v1 : Value} {xs ys X Y : List Value}
theorem own_base' (h : W.ownsRow base e sz v n xs) : ∀ k, v.ownBlock = some k → base ≤ k ∧ k < W.heap.size := h.lt
theorem own_step (h : W.ownsRow base e sz v n xs) (hm : ∀ k, v.ownBlock = some k → w1.heap[k]? = W.heap[k]?) : w1.ownsRow base e sz v n xs := by
  refine ⟨h.1, ?_⟩
  rcases h.2 with h2 | ⟨g, cap, cur, rfl, h3, h4, h5⟩
  · exact .inl h2
  · exact .inr ⟨g, cap, cur, rfl, h3, (hm g rfl).trans h4, h5⟩
theorem own_type (h : W.ownsRow base e sz v n xs) : ∀ k, v.ownBlock = some k → ∃ cells, W.heap[k]? = some (.cells cells e (0, 0)) := by
  intro k hk
  rcases h.2 with ⟨rfl, _⟩ | ⟨g, cap, cur, rfl, h3, h4, h5⟩
  · simp [Value.ownBlock] at hk
  · cases hk
    exact ⟨cur, h4⟩
theorem own_form (h : W.ownsRow base e sz v n xs) : ∃ A c, v = .slice A n c ∧ n ≤ c := by
  rcases h.2 with ⟨rfl, rfl⟩ | ⟨g, cap, cur, rfl, h3, h4, h5, h6, h7⟩
  · exact ⟨none, 0, rfl, Nat.le_refl _⟩
  · exact ⟨_, _, rfl, h5⟩
theorem own_some (h : W.ownsRow base e sz v n xs) (hn : 0 < n) : ∃ g c cur, v = .slice (some ⟨g, 0, none⟩) n c ∧ n ≤ c ∧ base ≤ g ∧ W.heap[g]? = some (.cells cur e (0, 0)) ∧ n * sz ≤ cur.size := by
  rcases h.2 with ⟨rfl, rfl⟩ | ⟨g, cap, cur, rfl, h3, h4, h5, h6, h7, h8⟩
  · omega
  · exact ⟨g, cap, cur, rfl, h5, h3, h4, by rw [h7]; exact Nat.mul_le_mul_right _ h5⟩
theorem own_cell {g c : Nat} (h : W.ownsRow base e sz (.slice (some ⟨g, 0, none⟩) n c) n xs) {j : Nat} {u : Value} (hj : xs[j]? = some u) : W.cell? ⟨g, j, none⟩ = some u := by
  have := h.cells (g := g) rfl j u hj
  rw [add0] at this
  exact this
/-- A shorter slice of the same block. -/
theorem own_prefix {g c : Nat} (h : W.ownsRow base e sz (.slice (some ⟨g, 0, none⟩) m c) m (xs ++ ys)) (hn : xs.length = n * sz) (hnm : n ≤ m) : W.ownsRow base e sz (.slice (some ⟨g, 0, none⟩) n c) n xs := by
  refine ⟨hn, ?_⟩
  rcases h.2 with ⟨h1, _⟩ | ⟨g', cap, cur, h1, h3, h4, h5, h6, h7, h8⟩
  · cases h1
  · cases h1
    refine .inr ⟨g, c, cur, rfl, h3, h4, Nat.le_trans hnm h5, h6, h7, ?_⟩
    have h9 : cur.toList.take (n * sz) = (cur.toList.take (m * sz)).take (n * sz) := by
      rw [List.take_take, Nat.min_eq_left (Nat.mul_le_mul_right _ hnm)]
    rw [h9, h8, ← hn, List.take_left]
/-- Some cells of a row written over. -/
theorem own_put {g c i : Nat} {seg r : List Value} (h : W.ownsRow base e sz (.slice (some ⟨g, 0, none⟩) n c) n (xs ++ r ++ ys)) (hi : xs.length = i) (hr : r.length = seg.length) : (W.setCells g i seg).ownsRow base e sz (.slice (some ⟨g, 0, none⟩) n c) n (xs ++ seg ++ ys) := by
  refine ⟨by rw [← h.1]; simp [hr], ?_⟩
  have hl := h.1
  rcases h.2 with ⟨h1, _⟩ | ⟨g', cap, cur, h1, h3, h4, h5, h6, h7, h8⟩
  · cases h1
  · cases h1
    have hle : n * sz ≤ cur.size := by rw [h7]; exact Nat.mul_le_mul_right _ h5
    have hfit : i + seg.length ≤ n * sz := by rw [← hl, ← hi, ← hr]; simp [Nat.add_assoc]
    obtain ⟨cur', k1, k2, k3⟩ := setCells_row seg i W cur h4 (by omega)
    refine .inr ⟨g, c, cur', rfl, h3, k1, h5, h6, by rw [k2]; exact h7, ?_⟩
    have hcur : cur.toList = (xs ++ r ++ ys) ++ cur.toList.drop (n * sz) := by rw [← h8, List.take_append_drop]
    have ht : cur.toList.take i = xs := by
      rw [hcur, ← hi, List.append_assoc, List.append_assoc, List.take_left]
    have hd : cur.toList.drop (i + seg.length) = ys ++ cur.toList.drop (n * sz) := by
      have : i + seg.length = (xs ++ r).length := by rw [List.length_append, hi, hr]
      conv => lhs; rw [hcur, this, List.append_assoc, List.drop_left]
    rw [k3, ht, hd, ← List.append_assoc, List.take_append_of_le_length (by simp; have := hl; simp at this; omega)]
    rw [List.take_of_length_le (by have := hl; simp at this ⊢; omega)]
end
/-- Marks: n times the cells of a mark. -/
def rep (mk : Int → List Value) (n : Nat) (m : Int) : List Value := (List.replicate n (mk m)).flatten
def mk5 (m : Int) : List Value := [.int .i64 m, .string ⟨#[]⟩, .string ⟨#[]⟩, .int .i64 0, .int .i64 0]
def mk6 (m : Int) : List Value := [.int .i64 m, .int .i64 0, .int .i64 0, .int .i64 0, .int .i64 0, .slice none 0 0]
section
variable {mk : Int → List Value} {sz n : Nat} {m : Int}
theorem rep_len (hs : ∀ m, (mk m).length = sz) : (rep mk n m).length = n * sz := by
  induction n with
  | zero => simp [rep]
  | succ n ih =>
    unfold rep at ih ⊢
    rw [List.replicate_succ, List.flatten_cons, List.length_append, ih, hs, Nat.succ_mul, Nat.add_comm]
theorem rep_succ : rep mk (n + 1) m = rep mk n m ++ mk m := by
  unfold rep
  rw [List.replicate_succ', List.flatten_append]
  simp
theorem rep_zero : rep mk 0 m = [] := rfl
theorem rep_get (hs : ∀ m, (mk m).length = sz) {i j : Nat} (hi : i < n) (hj : j < sz) : (rep mk n m)[i * sz + j]? = (mk m)[j]? := by
  induction n with
  | zero => omega
  | succ n ih =>
    rw [rep_succ]
    by_cases h : i < n
    · have hlt : i * sz + j < n * sz := by
        have : (i + 1) * sz ≤ n * sz := Nat.mul_le_mul_right _ h
        rw [Nat.succ_mul] at this
        omega
      rw [List.getElem?_append_left (by rw [rep_len hs]; exact hlt)]
      exact ih h
    · have : i = n := by omega
      subst this
      rw [List.getElem?_append_right (by rw [rep_len hs]; omega), rep_len hs, Nat.add_sub_cancel_left]
end
section
variable {P : Program} (w : World)
/-- An append of one element: the row, and whether it was moved. -/
theorem append_two (base : Nat) (t ty e : TypeId) (i : TypeInfo) (z : Value) (size bytes : Nat) (ht : P.underlying t = some (.slice e)) (hi : P.info? e = some i) (hz : i.zero = some z)
    (hsize : i.size = size) (hby : i.bytes = bytes) (hzs : z.cells.size = size) (hsz : 0 < size)
    (v : Value) (n : Nat) (xs : List Value) (hown : w.ownsRow base e size v n xs)
    (a : Addr) (c : Nat) (news : List Value) (hl : news.length = 1 * size) (hnews : ∀ j u, news[j]? = some u → w.cell? (a.add j) = some u) (h1 : ∀ u ∈ news, u.oneCell' = true)
    (h63 : n + 1 ≤ maxLen) (hbytes : (n + 1) * bytes ≤ 140737488355328) (hbase : base ≤ w.heap.size) :
    ∃ v' w', (Builtin.append_ #[t, t] ty #[v, .slice (some a) 1 c]).run P w = .ok v' w' ∧ w'.ownsRow base e size v' (n + 1) (xs ++ news) ∧ w.grownBy w' v.ownBlock ∧
      ((∃ g cap, v = .slice (some ⟨g, 0, none⟩) n cap ∧ v' = .slice (some ⟨g, 0, none⟩) (n + 1) cap) ∨ (v'.ownBlock = some w.heap.size ∧ w.grownBy w' none)) := by
  obtain ⟨v', w', hr, h2, h3, h4, h5⟩ := run_append_own_at (P := P) w base t ty e i z size bytes ht hi hz hsize hby hzs hsz v n xs hown a 1 c news hl hnews h1 h63 hbytes hbase
  refine ⟨v', w', hr, h2, h3, ?_⟩
  have hsmall : n + 1 ≤ 9223372036854775807 := by simp only [maxLen] at h63; omega
  subst hsize
  subst hby
  rcases hown.2 with ⟨rfl, rfl⟩ | ⟨g, cap, cur, rfl, hbg, hg, hnc, hcm, hcs, htake⟩
  · have hr2 := run_append_nil (P := P) w t ty e i z ht hi hz a 1 c news hl hnews (by omega) (by omega) (by omega)
    rw [hr] at hr2
    injection hr2 with e1 e2
    exact .inr ⟨by rw [e1]; rfl, by rw [e2]; exact ⟨rfl, rfl, rfl, by simp, fun k hk _ => heap_alloc_old w.drew _ hk⟩⟩
  · by_cases hroom : n + 1 ≤ cap
    · have hfit : n * i.size + news.length ≤ cur.size := by rw [hl, hcs, ← Nat.add_mul]; exact Nat.mul_le_mul_right _ hroom
      have hr2 := run_append_room (P := P) w t ty e i ht hi g n cap cur hg a 1 c news hl hnews h1 hroom hfit
      rw [hr] at hr2
      injection hr2 with e1 e2
      exact .inl ⟨g, cap, rfl, e1⟩
    · have holds : ∀ j u, xs[j]? = some u → w.cell? ((⟨g, 0, none⟩ : Addr).add j) = some u := hown.cells (g := g) rfl
      have hr2 := run_append_grow (P := P) w t ty e i z ht hi hz ⟨g, 0, none⟩ n cap xs hown.1 holds a 1 c news hl hnews (by omega) (by omega) (growslice_fits (by omega) hbytes)
      rw [hr] at hr2
      injection hr2 with e1 e2
      exact .inr ⟨by rw [e1]; rfl, by rw [e2]; exact ⟨rfl, rfl, rfl, by simp, fun k hk _ => heap_alloc_old w.drew _ hk⟩⟩
end
/-- The elder slice behind an append to a longer one of the same row. -/
theorem keep_elder {W w1 : World} {base e sz n0 m m1 : Nat} {v0 g g1 : Value} {X0 Y Z : List Value} (hsz : 0 < sz) (h0 : W.ownsRow base e sz v0 n0 X0) (hg : W.ownsRow base e sz g m (X0 ++ Y)) (h1 : w1.ownsRow base e sz g1 m1 (X0 ++ Z)) (hnm : n0 ≤ m1)
    (hgr : W.grownBy w1 g.ownBlock) (hat : (∃ b cap, g = .slice (some ⟨b, 0, none⟩) m cap ∧ g1 = .slice (some ⟨b, 0, none⟩) m1 cap) ∨ W.grownBy w1 none) : w1.ownsRow base e sz v0 n0 X0 := by
  rcases h0.2 with ⟨rfl, rfl⟩ | ⟨b, cap, cur, rfl, k3, k4, k5, k6, k7, k8⟩
  · exact ⟨h0.1, .inl ⟨rfl, rfl⟩⟩
  · rcases hat with ⟨b2, cap2, rfl, rfl⟩ | hat
    · by_cases hb : b2 = b
      · subst hb
        rcases hg.2 with ⟨h9, _⟩ | ⟨b', cap', cur', h9, q3, q4, q5, q6, q7, q8⟩
        · cases h9
        · cases h9
          rw [k4] at q4
          cases q4
          have hcap : cap = cap2 := Nat.eq_of_mul_eq_mul_right hsz (k7.symm.trans q7)
          subst hcap
          exact own_prefix h1 h0.1 hnm
      · exact own_step h0 (fun k hk => by cases hk; exact hgr.block b (blk_lt k4) (fun e => hb (by have e : some b = some b2 := e; exact (Option.some.inj e).symm)))
    · exact own_step h0 (fun k hk => by cases hk; exact hat.block b (blk_lt k4) (by simp))
section
variable {P : Program} {ops : Array Oper} {rest : List Oper} {o : Oper} {a : Act} {Q : Exit → Act → World → Prop}
/-- append(v, x): x of several cells in a new block; told whether the row was moved. -/
theorem own_append {W : World} (base : Nat) (hgd : o.guard = none) (s x : Operand) (t e : TypeId) (z : Value) (size bytes : Nat)
    (ho : o.op = .call { callee := .builtin .append, args := #[s, x], argTypes := #[t, t] })
    (ht : P.underlying t = some (.slice e)) (hinfo : (P.info? e).map (fun i => (i.zero, i.size, i.bytes)) = some (some z, size, bytes)) (hz : z.cells.size = size) (hs0 : 0 < size) (hb0 : 0 < bytes)
    (v : Value) (n : Nat) (xs ys : List Value) (hs : a.eval s = v) (hx : a.eval x = .slice (some ⟨W.heap.size, 0, none⟩) 1 1) (hys : ys.length = size) (h1 : ∀ u ∈ ys, u.oneCell' = true)
    (HO : W.ownsRow base e size v n xs) (hbase : base ≤ W.heap.size) (hl : (n + 1) * bytes ≤ 140737488355328)
    (h : ∀ v1 w1, w1.ownsRow base e size v1 (n + 1) (xs ++ ys) → W.grownBy w1 v.ownBlock → ((∃ g cap, v = .slice (some ⟨g, 0, none⟩) n cap ∧ v1 = .slice (some ⟨g, 0, none⟩) (n + 1) cap) ∨ ((∃ b, v1.ownBlock = some b ∧ W.heap.size ≤ b) ∧ W.grownBy w1 none)) → wpList P ops Q rest (a.put o.dst v1) w1) :
    wpList P ops Q (o :: rest) a (W.alloc (.cells ys.toArray e)) := by
  obtain ⟨i0, hi, hzz⟩ := Option.map_eq_some_iff.1 hinfo
  simp only [Prod.mk.injEq] at hzz
  obtain ⟨hz0, hz1, hz2⟩ := hzz
  have hlen : n + 1 ≤ 140737488355328 := Nat.le_trans (Nat.le_mul_of_pos_right _ hb0) hl
  obtain ⟨v1, w1, hr, hown, hg, hat⟩ := append_two (P := P) (W.alloc (.cells ys.toArray e)) base t o.type e i0 z size bytes ht hi hz0 hz1 hz2 hz hs0 v n xs (HO.alloc _) ⟨W.heap.size, 0, none⟩ 1 ys (by rw [hys]; simp)
    (by simpa using World.news_of_block (cs := ys.toArray) (t := e) (fr := (0, 0)) (heap_alloc_new W (.cells ys.toArray e))) h1 (by simp only [maxLen]; omega) hl (by simp; omega)
  refine wpList_plain hgd fun K hK => ?_
  unfold Oper.wp execOp
  simp only [ho, resolve, invoke, builtin, Sem.run_bind, Sem.run_pure, Result.andThen_ok, List.map_toArray, List.map_cons, List.map_nil, hs, hx, hr]
  refine hK _ _ (h v1 w1 hown (World.grownBy.trans (World.grownBy_alloc W _ _) hg) ?_)
  rcases hat with hat | ⟨hat, hat2⟩
  · exact .inl hat
  · exact .inr ⟨⟨_, hat, by simp⟩, World.grownBy.trans (World.grownBy_alloc W _ _) hat2⟩
end
end Go.Proofs.Ytcbejpmmlcdhnaa.PW
namespace Go.Proofs.Ytcbejpmmlcdhnaa.PW
open Go.RowKit Go.Proofs.YtcbejpmmlcdhnaaW.PrintWords Go.Proofs.YtcbejpmmlcdhnaaW.PrintLast Go.Proofs.YtcbejpmmlcdhnaaW.PrintMore
set_option linter.unusedVariables false
set_option linter.unusedSimpArgs false

/-- The book in block gb: its four rows, and what stands in them. -/
structure Book (W : World) (base gb : Nat) (ro rm re rx : Value) (vo mo ve me : List Value) : Prop where
  lb : base ≤ gb
  blk : W.heap[gb]? = some (.cells #[ro, rm, re, rx] 76 (0, 0))
  o : W.ownsRow base 31 1 ro vo.length vo
  m : W.ownsRow base 31 1 rm mo.length mo
  e : W.ownsRow base 25 1 re ve.length ve
  x : W.ownsRow base 25 1 rx me.length me
/-- No two have a block in common. -/
def Dist (vs : List Value) : Prop := ∀ (i j : Nat) (u v : Value), vs[i]? = some u → vs[j]? = some v → i ≠ j → ∀ b, u.ownBlock = some b → v.ownBlock ≠ some b
/-- A list of at most 64. -/
def Raw (W : World) (base e sz : Nat) (v : Value) : Prop := ∃ n xs, n ≤ 64 ∧ W.ownsRow base e sz v n xs
/-- A list full of marks. -/
def Mkd (W : World) (base e sz : Nat) (mk : Int → List Value) (k : Nat) (v : Value) : Prop := ∃ n, n ≤ 64 ∧ W.ownsRow base e sz v n (rep mk n ((k + 1 : Nat) : Int))
/-- A list full of marks, and what it was grown to. -/
def Pair (W : World) (base e sz : Nat) (mk : Int → List Value) (k : Nat) (v v' : Value) : Prop := ∃ n m, n ≤ 64 ∧ m ≤ 96 ∧ W.ownsRow base e sz v n (rep mk n ((k + 1 : Nat) : Int)) ∧ W.ownsRow base e sz v' (n + m) (rep mk n ((k + 1 : Nat) : Int) ++ rep mk m (-((k + 1 : Nat) : Int)))
/-- The blocks of some lists. -/
def blocks (vs : List Value) (q : Nat) : Prop := ∃ (j : Nat) (v : Value), vs[j]? = some v ∧ v.ownBlock = some q
section
variable {W W' : World} {base gb e sz : Nat} {ro rm re rx v v' : Value} {vo mo ve me vs : List Value} {mk : Int → List Value} {k : Nat}
/-- Blocks of some type. -/
def typed (W : World) (t : Nat) (q : Nat) : Prop := ∃ cells, W.heap[q]? = some (.cells cells t (0, 0))
theorem own_tstep {n : Nat} {xs : List Value} (h : W.ownsRow base e sz v n xs) (hm : ∀ q, typed W e q → W'.heap[q]? = W.heap[q]?) : W'.ownsRow base e sz v n xs := own_step h (fun k hk => hm k (own_type h k hk))
theorem Book.step (h : Book W base gb ro rm re rx vo mo ve me) (hm : ∀ q, (typed W 76 q ∨ typed W 31 q ∨ typed W 25 q) → W'.heap[q]? = W.heap[q]?) : Book W' base gb ro rm re rx vo mo ve me :=
  ⟨h.lb, (hm gb (.inl ⟨_, h.blk⟩)).trans h.blk, own_tstep h.o (fun q hq => hm q (.inr (.inl hq))), own_tstep h.m (fun q hq => hm q (.inr (.inl hq))), own_tstep h.e (fun q hq => hm q (.inr (.inr hq))), own_tstep h.x (fun q hq => hm q (.inr (.inr hq)))⟩
theorem Raw.step (h : Raw W base e sz v) (hm : ∀ k, v.ownBlock = some k → W'.heap[k]? = W.heap[k]?) : Raw W' base e sz v := by
  obtain ⟨n, xs, h1, h2⟩ := h
  exact ⟨n, xs, h1, own_step h2 hm⟩
theorem Mkd.step (h : Mkd W base e sz mk k v) (hm : ∀ k, v.ownBlock = some k → W'.heap[k]? = W.heap[k]?) : Mkd W' base e sz mk k v := by
  obtain ⟨n, h1, h2⟩ := h
  exact ⟨n, h1, own_step h2 hm⟩
theorem Pair.step (h : Pair W base e sz mk k v v') (hm : ∀ k, v.ownBlock = some k ∨ v'.ownBlock = some k → W'.heap[k]? = W.heap[k]?) : Pair W' base e sz mk k v v' := by
  obtain ⟨n, m, h1, h2, h3, h4⟩ := h
  exact ⟨n, m, h1, h2, own_step h3 (fun k hk => hm k (.inl hk)), own_step h4 (fun k hk => hm k (.inr hk))⟩
theorem Raw.lt (h : Raw W base e sz v) : ∀ k, v.ownBlock = some k → base ≤ k ∧ k < W.heap.size := by
  obtain ⟨n, xs, h1, h2⟩ := h
  exact h2.lt
theorem Mkd.lt (h : Mkd W base e sz mk k v) : ∀ k, v.ownBlock = some k → base ≤ k ∧ k < W.heap.size := by
  obtain ⟨n, h1, h2⟩ := h
  exact h2.lt
theorem Raw.type (h : Raw W base e sz v) : ∀ k, v.ownBlock = some k → typed W e k := by
  obtain ⟨n, xs, h1, h2⟩ := h
  exact own_type h2
theorem Mkd.type (h : Mkd W base e sz mk k v) : ∀ k, v.ownBlock = some k → typed W e k := by
  obtain ⟨n, h1, h2⟩ := h
  exact own_type h2
theorem typed_ne {t t' q : Nat} (h : typed W t q) (h' : typed W t' q) : t = t' := by
  obtain ⟨c, h⟩ := h
  obtain ⟨c', h'⟩ := h'
  rw [h] at h'
  cases h'
  rfl
/-- What changed is of another type. -/
theorem keep_type {S : Nat → Prop} {t : Nat} (hf : Frm W W' S) (hS : ∀ q, S q → typed W t q) {t' : Nat} (hne : t' ≠ t) {q : Nat} (hq : typed W t' q) : W'.heap[q]? = W.heap[q]? := by
  obtain ⟨c, hc⟩ := hq
  exact hf.block q (blk_lt hc) (fun h => hne (typed_ne ⟨c, hc⟩ (hS q h)))
end
end Go.Proofs.Ytcbejpmmlcdhnaa.PW
namespace Go.Proofs.Ytcbejpmmlcdhnaa.PW
open Go.RowKit Go.Proofs.YtcbejpmmlcdhnaaW.PrintWords Go.Proofs.YtcbejpmmlcdhnaaW.PrintLast Go.Proofs.YtcbejpmmlcdhnaaW.PrintMore
set_option linter.unusedVariables false
set_option linter.unusedSimpArgs false

set_option maxHeartbeats 32000000 in
set_option maxRecDepth 100000 in
theorem full_B {W : World} {base gb : Nat} {ro rm re rx : Value} {vo mo ve me : List Value} (h : Book W base gb ro rm re rx vo mo ve me) (hro : ∀ (j : Nat) (v : Value), vo[j]? = some v → Raw W base 55 5 v) (hre : ∀ (j : Nat) (v : Value), ve[j]? = some v → Raw W base 33 6 v) (hdo : Dist vo) (hde : Dist ve) (hlo : vo.length ≤ 12000) (hle : ve.length ≤ 12000) :
    Calls Try.prog 51 #[.pointer (some ⟨gb, 0, none⟩)] W fun r w' => (∃ v, r = .returned v) ∧ Book w' base gb ro rm re rx vo mo ve me ∧ (∀ (j : Nat) (v : Value), vo[j]? = some v → Mkd w' base 55 5 mk5 j v) ∧ (∀ (j : Nat) (v : Value), ve[j]? = some v → Mkd w' base 33 6 mk6 j v) ∧ Frm W w' (fun q => blocks vo q ∨ blocks ve q) := by
  obtain ⟨oA, oc, hroE, hoc⟩ := own_form h.o
  obtain ⟨eA, ec, hreE, hec⟩ := own_form h.e
  obtain ⟨N1, hN1⟩ : ∃ N1, N1 = vo.length := ⟨_, rfl⟩
  obtain ⟨N2, hN2⟩ : ∃ N2, N2 = ve.length := ⟨_, rfl⟩
  rw [← hN1] at hroE hlo
  rw [← hN2] at hreE hle
  subst hroE
  subst hreE
  have HB1 := Aside0.mk h
  have HN1 := Aside0.mk hN1
  have HN2 := Aside0.mk hN2
  have HR1 := Aside0.mk hro
  have HRE := Aside0.mk hre
  have HD1 := Aside0.mk hdo
  have HD2 := Aside0.mk hde
  have HLEN1 := Aside0.mk hlo
  have HLEN2 := Aside0.mk hle
  have HT1 := Aside0.mk (show ∀ q, blocks vo q → typed W 55 q from fun q ⟨j, v, hj, hq⟩ => (hro j v hj).type q hq)
  have c0 : W.cell? ⟨gb, 0, none⟩ = some (.slice oA N1 oc) := (blk_cell h.blk 0).trans rfl
  clear h hN1 hN2 hro hre hdo hde hlo hle hoc hec
  go_enter Try.func51, Try.ntmps51
  go_wp2
  go_loopw [2, 3, 4] (fun v2 v3 v4 wr => ∃ k : Nat, k ≤ N1 ∧ v2 = .int .i64 (k : Int) ∧ Aside0 (Frm W wr (blocks vo)) ∧ Aside0 (∀ (j : Nat) (v : Value), vo[j]? = some v → j < k → Mkd wr base 55 5 mk5 j v) ∧ Aside0 (∀ (j : Nat) (v : Value), vo[j]? = some v → k ≤ j → Raw wr base 55 5 v)) (fun v2 _ _ _ => N1 + 1 - (intOf v2).toNat)
  case atStart => exact ⟨0, Nat.zero_le _, rfl, ⟨Frm.refl _ _⟩, ⟨fun j v _ h => absurd h (Nat.not_lt_zero _)⟩, ⟨fun j v hj _ => HR1.out j v hj⟩⟩
  case round =>
    obtain ⟨k, hk, rfl, HFR, HMK, HRW⟩ := hrel
    have hblk := (keep_type HFR.out HT1.out (t' := 76) (by decide) ⟨_, HB1.out.blk⟩).trans HB1.out.blk
    have c0 : wr.cell? ⟨gb, 0, none⟩ = some (.slice oA N1 oc) := (blk_cell hblk 0).trans rfl
    have HBLK := Aside0.mk hblk
    clear hblk
    by_cases hlt : k < N1
    · have hd1 : decide (k < N1) = true := decide_eq_true hlt
      have hd2 : decide ((k : Int) < (N1 : Int)) = true := decide_eq_true (by omega)
      have hown := HB1.out.o
      rw [← HN1.out] at hown
      obtain ⟨gr, cr, cur, hrow, _, _, _, _⟩ := own_some hown (by omega)
      injection hrow with hA _ hc
      have hAe : oA = some ⟨gr, 0, none⟩ := hA
      have hkv : k < vo.length := by rw [← HN1.out]; exact hlt
      obtain ⟨v, hv⟩ : ∃ v, vo[k]? = some v := ⟨_, List.getElem?_eq_getElem hkv⟩
      rw [hAe] at c0 hown
      have hrow2 := own_step hown (fun q hq => keep_type HFR.out HT1.out (t' := 31) (by decide) (own_type hown q hq))
      obtain ⟨n5, X0, hn64, hX0⟩ := HRW.out k v hv (Nat.le_refl _)
      obtain ⟨A5, c5, rfl, hc5⟩ := own_form hX0
      have ck : wr.cell? ⟨gr, k, none⟩ = some (.slice A5 n5 c5) := own_cell hrow2 hv
      obtain ⟨wk, hwk⟩ : ∃ wk, wk = wr := ⟨_, rfl⟩
      have HCK := Aside0.mk ck
      have HV := Aside0.mk hv
      have HX0 := Aside0.mk hX0
      have HC5 := Aside0.mk hc5
      have HAE := Aside0.mk hAe
      have HOWN := Aside0.mk hrow2
      rw [← hwk] at HFR HMK HRW HCK HX0 HBLK HOWN
      have HX1 := Aside0.mk (show ∃ X, X.length = (n5 - 0) * 5 ∧ wr.ownsRow base 55 5 (.slice A5 n5 c5) n5 (rep mk5 0 ((k + 1 : Nat) : Int) ++ X) from ⟨X0, by rw [Nat.sub_zero]; exact hX0.1, by rw [rep_zero]; exact hX0⟩)
      have HF1 := Aside0.mk (show Frm wk wr (fun q => (Value.slice A5 n5 c5).ownBlock = some q) by rw [hwk]; exact Frm.refl _ _)
      obtain ⟨K1, hK1⟩ : ∃ K1, K1 = k + 1 := ⟨_, rfl⟩
      rw [← hK1] at HX1
      have hkk1 : (k : Int) + 1 = (K1 : Int) := by omega
      have hkb : K1 ≤ 12001 := by have := HLEN1.out; omega
      have HK1 := Aside0.mk hK1
      obtain rfl := hAe
      clear hown hkv hv hrow2 hX0 hc5 hwk hK1
      go_wp2
      go_loopw [3, 4] (fun v3 v4 wr => ∃ i : Nat, i ≤ n5 ∧ v3 = .int .i64 (i : Int) ∧ Aside0 (Frm wk wr (fun q => (Value.slice A5 n5 c5).ownBlock = some q)) ∧ Aside0 (∃ X, X.length = (n5 - i) * 5 ∧ wr.ownsRow base 55 5 (.slice A5 n5 c5) n5 (rep mk5 i (K1 : Int) ++ X))) (fun v3 _ _ => n5 + 1 - (intOf v3).toNat)
      case atStart => exact ⟨0, Nat.zero_le _, rfl, HF1, HX1⟩
      case round =>
        obtain ⟨i, hi, rfl, HFI, HXI⟩ := hrel
        have hT5 : ∀ q, (Value.slice A5 n5 c5).ownBlock = some q → typed wk 55 q := fun q hq => own_type HX0.out q hq
        have HT5 := Aside0.mk hT5
        have hb5 := (keep_type HFI.out HT5.out (t' := 76) (by decide) ⟨_, HBLK.out⟩).trans HBLK.out
        have c0 : wr.cell? ⟨gb, 0, none⟩ = some (.slice (some ⟨gr, 0, none⟩) N1 oc) := (blk_cell hb5 0).trans rfl
        have ck : wr.cell? ⟨gr, k, none⟩ = some (.slice A5 n5 c5) := own_cell (own_step HOWN.out (fun q hq => keep_type HFI.out HT5.out (t' := 31) (by decide) (own_type HOWN.out q hq))) HV.out
        clear hb5 hT5
        by_cases hin : i < n5
        · have hd3 : decide (i < n5) = true := decide_eq_true hin
          have hd4 : decide ((i : Int) < (n5 : Int)) = true := decide_eq_true (by omega)
          obtain ⟨X, hXl, hX⟩ := HXI.out
          obtain ⟨g5, c6, cur5, hrow5, _, _, hb5, hsz5⟩ := own_some hX (by omega)
          injection hrow5 with hA5 _ hc6
          obtain rfl := hA5
          have HX := Aside0.mk (And.intro hXl hX)
          have HB5 := Aside0.mk (And.intro hb5 hsz5)
          clear hXl hX hb5 hsz5
          go_wp2_with (with_reducible refine stop_store rfl ?_)
          refine wpList_store rfl rfl 55 (.tmp 41) (.tmp 40) rfl (g := g5) (o' := i * 5) (.agg (mk5 (K1 : Int)).toArray) (mk5 (K1 : Int)) (by first | rfl | simp [Act.eval, Addr.add]) rfl HB5.out.1 rfl size55 (by show i * 5 + 5 ≤ _; have := HB5.out.2; omega) (by simp [mk5, Value.oneCell']) ?_
          have hput := own_put (xs := rep mk5 i (K1 : Int)) (r := X.take 5) (ys := X.drop 5) (seg := mk5 (K1 : Int)) (i := i * 5) (by rw [List.append_assoc, List.take_append_drop]; exact HX.out.2) (rep_len (fun m => rfl)) (by rw [List.length_take]; show min 5 X.length = 5; have := HX.out.1; have : 1 * 5 ≤ (n5 - i) * 5 := Nat.mul_le_mul_right _ (by omega); omega)
          rw [← rep_succ] at hput
          have HPUT := Aside0.mk (show ∃ X', X'.length = (n5 - (i + 1)) * 5 ∧ (wr.setCells g5 (i * 5) (mk5 (K1 : Int))).ownsRow base 55 5 (.slice (some ⟨g5, 0, none⟩) n5 c5) n5 (rep mk5 (i + 1) (K1 : Int) ++ X') from ⟨X.drop 5, by rw [List.length_drop, HX.out.1, show n5 - i = (n5 - (i + 1)) + 1 by omega, Nat.succ_mul]; omega, hput⟩)
          have HF7 := Aside0.mk (Frm.setCells HFI.out (g := g5) (.inl rfl) (i * 5) (mk5 (K1 : Int)))
          clear hput c0 ck
          obtain ⟨w8, hw8⟩ : ∃ w8, w8 = wr.setCells g5 (i * 5) (mk5 (K1 : Int)) := ⟨_, rfl⟩
          rw [← hw8] at HPUT HF7 ⊢
          clear hw8
          go_wp2
          go_roundw
          case rel => exact ⟨i + 1, by omega, by go_num, HF7, HPUT⟩
          case measure => simp [intOf]; omega
        · have hd3 : decide (i < n5) = false := decide_eq_false hin
          have hd4 : decide ((i : Int) < (n5 : Int)) = false := decide_eq_false (by omega)
          have hii : i = n5 := by omega
          obtain rfl := hii
          have hmk : Mkd wr base 55 5 mk5 k (.slice A5 i c5) := by
            obtain ⟨X, hXl, hX⟩ := HXI.out
            rw [Nat.sub_self, Nat.zero_mul] at hXl
            obtain rfl := List.eq_nil_of_length_eq_zero hXl
            rw [List.append_nil, HK1.out] at hX
            exact ⟨i, hn64, hX⟩
          have hother : ∀ (j : Nat) (u : Value), vo[j]? = some u → j ≠ k → ∀ q, u.ownBlock = some q → q < wk.heap.size → wr.heap[q]? = wk.heap[q]? := fun j u hj hne q hq hlt => HFI.out.block q hlt (fun h => HD1.out k j _ u HV.out hj (fun e => hne e.symm) q h hq)
          have HMK2 := Aside0.mk (show ∀ (j : Nat) (u : Value), vo[j]? = some u → j < K1 → Mkd wr base 55 5 mk5 j u from fun j u hj hlt2 => by
            by_cases hjk : j = k
            · subst hjk
              rw [HV.out] at hj
              cases hj
              exact hmk
            · have := HMK.out j u hj (by have := HK1.out; omega)
              exact this.step (fun q hq => hother j u hj hjk q hq (this.lt q hq).2))
          have HRW2 := Aside0.mk (show ∀ (j : Nat) (u : Value), vo[j]? = some u → K1 ≤ j → Raw wr base 55 5 u from fun j u hj hle => by
            have := HRW.out j u hj (by have := HK1.out; omega)
            exact this.step (fun q hq => hother j u hj (by have := HK1.out; omega) q hq (this.lt q hq).2))
          have HFR2 := Aside0.mk (HFR.out.then_ HFI.out (fun q hq _ => ⟨k, _, HV.out, hq⟩))
          clear hmk hother
          go_wp2
          go_roundw
          case rel => exact ⟨K1, by have := HK1.out; omega, by go_num, HFR2, HMK2, HRW2⟩
          case measure => have := HK1.out; simp [intOf]; omega
    · have hd1 : decide (k < N1) = false := decide_eq_false hlt
      have hd2 : decide ((k : Int) < (N1 : Int)) = false := decide_eq_false (by omega)
      have hkk : k = N1 := by omega
      obtain rfl := hkk
      have HB2 := Aside0.mk (HB1.out.step (fun q hq => by
        rcases hq with hq | hq | hq
        · exact keep_type HFR.out HT1.out (t' := 76) (by decide) hq
        · exact keep_type HFR.out HT1.out (t' := 31) (by decide) hq
        · exact keep_type HFR.out HT1.out (t' := 25) (by decide) hq))
      have HR2 := Aside0.mk (show ∀ (j : Nat) (v : Value), ve[j]? = some v → Raw wr base 33 6 v from fun j v hj => (HRE.out j v hj).step (fun q hq => keep_type HFR.out HT1.out (t' := 33) (by decide) ((HRE.out j v hj).type q hq)))
      have HM1 := Aside0.mk (show ∀ (j : Nat) (v : Value), vo[j]? = some v → Mkd wr base 55 5 mk5 j v from fun j v hj => HMK.out j v hj (by have := (List.getElem?_eq_some_iff.1 hj).1; have := HN1.out; omega))
      have HT2 := Aside0.mk (show ∀ q, blocks ve q → typed wr 33 q from fun q ⟨j, v, hj, hq⟩ => (HR2.out j v hj).type q hq)
      have HFW := Aside0.mk HFR.out
      obtain ⟨wm, hwm⟩ : ∃ wm, wm = wr := ⟨_, rfl⟩
      rw [← hwm] at HB2 HR2 HM1 HT2 HFW c0 ⊢
      have c2 : wm.cell? ⟨gb, 2, none⟩ = some (.slice eA N2 ec) := (blk_cell HB2.out.blk 2).trans rfl
      clear hwm HFR HMK HRW HBLK
      go_wp2
      go_loopw [5, 6, 7] (fun v5 v6 v7 wr => ∃ k : Nat, k ≤ N2 ∧ v5 = .int .i64 (k : Int) ∧ Aside0 (Frm wm wr (blocks ve)) ∧ Aside0 (∀ (j : Nat) (v : Value), ve[j]? = some v → j < k → Mkd wr base 33 6 mk6 j v) ∧ Aside0 (∀ (j : Nat) (v : Value), ve[j]? = some v → k ≤ j → Raw wr base 33 6 v)) (fun v5 _ _ _ => N2 + 1 - (intOf v5).toNat)
      case atStart => exact ⟨0, Nat.zero_le _, rfl, ⟨Frm.refl _ _⟩, ⟨fun j v _ h => absurd h (Nat.not_lt_zero _)⟩, ⟨fun j v hj _ => HR2.out j v hj⟩⟩
      case round =>
        obtain ⟨k, hk, rfl, HFR, HMK, HRW⟩ := hrel
        have hblk := (keep_type HFR.out HT2.out (t' := 76) (by decide) ⟨_, HB2.out.blk⟩).trans HB2.out.blk
        have c0 : wr.cell? ⟨gb, 2, none⟩ = some (.slice eA N2 ec) := (blk_cell hblk 2).trans rfl
        have HBLK := Aside0.mk hblk
        clear hblk
        by_cases hlt : k < N2
        · have hd1 : decide (k < N2) = true := decide_eq_true hlt
          have hd2 : decide ((k : Int) < (N2 : Int)) = true := decide_eq_true (by omega)
          have hown := HB2.out.e
          rw [← HN2.out] at hown
          obtain ⟨gr, cr, cur, hrow, _, _, _, _⟩ := own_some hown (by omega)
          injection hrow with hA _ hc
          have hAe : eA = some ⟨gr, 0, none⟩ := hA
          have hkv : k < ve.length := by rw [← HN2.out]; exact hlt
          obtain ⟨v, hv⟩ : ∃ v, ve[k]? = some v := ⟨_, List.getElem?_eq_getElem hkv⟩
          rw [hAe] at c0 hown
          have hrow2 := own_step hown (fun q hq => keep_type HFR.out HT2.out (t' := 25) (by decide) (own_type hown q hq))
          obtain ⟨n5, X0, hn64, hX0⟩ := HRW.out k v hv (Nat.le_refl _)
          obtain ⟨A5, c5, rfl, hc5⟩ := own_form hX0
          have ck : wr.cell? ⟨gr, k, none⟩ = some (.slice A5 n5 c5) := own_cell hrow2 hv
          obtain ⟨wk, hwk⟩ : ∃ wk, wk = wr := ⟨_, rfl⟩
          have HCK := Aside0.mk ck
          have HV := Aside0.mk hv
          have HX0 := Aside0.mk hX0
          have HC5 := Aside0.mk hc5
          have HAE := Aside0.mk hAe
          have HOWN := Aside0.mk hrow2
          rw [← hwk] at HFR HMK HRW HCK HX0 HBLK HOWN
          have HX1 := Aside0.mk (show ∃ X, X.length = (n5 - 0) * 6 ∧ wr.ownsRow base 33 6 (.slice A5 n5 c5) n5 (rep mk6 0 ((k + 1 : Nat) : Int) ++ X) from ⟨X0, by rw [Nat.sub_zero]; exact hX0.1, by rw [rep_zero]; exact hX0⟩)
          have HF1 := Aside0.mk (show Frm wk wr (fun q => (Value.slice A5 n5 c5).ownBlock = some q) by rw [hwk]; exact Frm.refl _ _)
          obtain ⟨K1, hK1⟩ : ∃ K1, K1 = k + 1 := ⟨_, rfl⟩
          rw [← hK1] at HX1
          have hkk1 : (k : Int) + 1 = (K1 : Int) := by omega
          have hkb : K1 ≤ 12001 := by have := HLEN2.out; omega
          have HK1 := Aside0.mk hK1
          obtain rfl := hAe
          clear hown hkv hv hrow2 hX0 hc5 hwk hK1
          go_wp2
          go_loopw [6, 7] (fun v6 v7 wr => ∃ i : Nat, i ≤ n5 ∧ v6 = .int .i64 (i : Int) ∧ Aside0 (Frm wk wr (fun q => (Value.slice A5 n5 c5).ownBlock = some q)) ∧ Aside0 (∃ X, X.length = (n5 - i) * 6 ∧ wr.ownsRow base 33 6 (.slice A5 n5 c5) n5 (rep mk6 i (K1 : Int) ++ X))) (fun v6 _ _ => n5 + 1 - (intOf v6).toNat)
          case atStart => exact ⟨0, Nat.zero_le _, rfl, HF1, HX1⟩
          case round =>
            obtain ⟨i, hi, rfl, HFI, HXI⟩ := hrel
            have hT5 : ∀ q, (Value.slice A5 n5 c5).ownBlock = some q → typed wk 33 q := fun q hq => own_type HX0.out q hq
            have HT5 := Aside0.mk hT5
            have hb5 := (keep_type HFI.out HT5.out (t' := 76) (by decide) ⟨_, HBLK.out⟩).trans HBLK.out
            have c0 : wr.cell? ⟨gb, 2, none⟩ = some (.slice (some ⟨gr, 0, none⟩) N2 ec) := (blk_cell hb5 2).trans rfl
            have ck : wr.cell? ⟨gr, k, none⟩ = some (.slice A5 n5 c5) := own_cell (own_step HOWN.out (fun q hq => keep_type HFI.out HT5.out (t' := 25) (by decide) (own_type HOWN.out q hq))) HV.out
            clear hb5 hT5
            by_cases hin : i < n5
            · have hd3 : decide (i < n5) = true := decide_eq_true hin
              have hd4 : decide ((i : Int) < (n5 : Int)) = true := decide_eq_true (by omega)
              obtain ⟨X, hXl, hX⟩ := HXI.out
              obtain ⟨g5, c6, cur5, hrow5, _, _, hb5, hsz5⟩ := own_some hX (by omega)
              injection hrow5 with hA5 _ hc6
              obtain rfl := hA5
              have HX := Aside0.mk (And.intro hXl hX)
              have HB5 := Aside0.mk (And.intro hb5 hsz5)
              clear hXl hX hb5 hsz5
              go_wp2_with (with_reducible refine stop_store rfl ?_)
              refine wpList_store rfl rfl 33 (.tmp 75) (.tmp 74) rfl (g := g5) (o' := i * 6) (.agg (mk6 (K1 : Int)).toArray) (mk6 (K1 : Int)) (by first | rfl | simp [Act.eval, Addr.add]) rfl HB5.out.1 rfl size33 (by show i * 6 + 6 ≤ _; have := HB5.out.2; omega) (by simp [mk6, Value.oneCell']) ?_
              have hput := own_put (xs := rep mk6 i (K1 : Int)) (r := X.take 6) (ys := X.drop 6) (seg := mk6 (K1 : Int)) (i := i * 6) (by rw [List.append_assoc, List.take_append_drop]; exact HX.out.2) (rep_len (fun m => rfl)) (by rw [List.length_take]; show min 6 X.length = 6; have := HX.out.1; have : 1 * 6 ≤ (n5 - i) * 6 := Nat.mul_le_mul_right _ (by omega); omega)
              rw [← rep_succ] at hput
              have HPUT := Aside0.mk (show ∃ X', X'.length = (n5 - (i + 1)) * 6 ∧ (wr.setCells g5 (i * 6) (mk6 (K1 : Int))).ownsRow base 33 6 (.slice (some ⟨g5, 0, none⟩) n5 c5) n5 (rep mk6 (i + 1) (K1 : Int) ++ X') from ⟨X.drop 6, by rw [List.length_drop, HX.out.1, show n5 - i = (n5 - (i + 1)) + 1 by omega, Nat.succ_mul]; omega, hput⟩)
              have HF7 := Aside0.mk (Frm.setCells HFI.out (g := g5) (.inl rfl) (i * 6) (mk6 (K1 : Int)))
              clear hput c0 ck
              obtain ⟨w8, hw8⟩ : ∃ w8, w8 = wr.setCells g5 (i * 6) (mk6 (K1 : Int)) := ⟨_, rfl⟩
              rw [← hw8] at HPUT HF7 ⊢
              clear hw8
              go_wp2
              go_roundw
              case rel => exact ⟨i + 1, by omega, by go_num, HF7, HPUT⟩
              case measure => simp [intOf]; omega
            · have hd3 : decide (i < n5) = false := decide_eq_false hin
              have hd4 : decide ((i : Int) < (n5 : Int)) = false := decide_eq_false (by omega)
              have hii : i = n5 := by omega
              obtain rfl := hii
              have hmk : Mkd wr base 33 6 mk6 k (.slice A5 i c5) := by
                obtain ⟨X, hXl, hX⟩ := HXI.out
                rw [Nat.sub_self, Nat.zero_mul] at hXl
                obtain rfl := List.eq_nil_of_length_eq_zero hXl
                rw [List.append_nil, HK1.out] at hX
                exact ⟨i, hn64, hX⟩
              have hother : ∀ (j : Nat) (u : Value), ve[j]? = some u → j ≠ k → ∀ q, u.ownBlock = some q → q < wk.heap.size → wr.heap[q]? = wk.heap[q]? := fun j u hj hne q hq hlt => HFI.out.block q hlt (fun h => HD2.out k j _ u HV.out hj (fun e => hne e.symm) q h hq)
              have HMK2 := Aside0.mk (show ∀ (j : Nat) (u : Value), ve[j]? = some u → j < K1 → Mkd wr base 33 6 mk6 j u from fun j u hj hlt2 => by
                by_cases hjk : j = k
                · subst hjk
                  rw [HV.out] at hj
                  cases hj
                  exact hmk
                · have := HMK.out j u hj (by have := HK1.out; omega)
                  exact this.step (fun q hq => hother j u hj hjk q hq (this.lt q hq).2))
              have HRW2 := Aside0.mk (show ∀ (j : Nat) (u : Value), ve[j]? = some u → K1 ≤ j → Raw wr base 33 6 u from fun j u hj hle => by
                have := HRW.out j u hj (by have := HK1.out; omega)
                exact this.step (fun q hq => hother j u hj (by have := HK1.out; omega) q hq (this.lt q hq).2))
              have HFR2 := Aside0.mk (HFR.out.then_ HFI.out (fun q hq _ => ⟨k, _, HV.out, hq⟩))
              clear hmk hother
              go_wp2
              go_roundw
              case rel => exact ⟨K1, by have := HK1.out; omega, by go_num, HFR2, HMK2, HRW2⟩
              case measure => have := HK1.out; simp [intOf]; omega
        · have hd1 : decide (k < N2) = false := decide_eq_false hlt
          have hd2 : decide ((k : Int) < (N2 : Int)) = false := decide_eq_false (by omega)
          have hkk : k = N2 := by omega
          obtain rfl := hkk
          go_wp2
          go_end0
          have hf : Frm W wr (fun q => blocks vo q ∨ blocks ve q) := (HFW.out.mono (fun q hq _ => .inl hq)).then_ HFR.out (fun q hq _ => .inr hq)
          refine ⟨⟨_, rfl⟩, HB2.out.step (fun q hq => ?_), fun j v hj => (HM1.out j v hj).step (fun q hq => keep_type HFR.out HT2.out (t' := 55) (by decide) ((HM1.out j v hj).type q hq)), fun j v hj => HMK.out j v hj (by have := (List.getElem?_eq_some_iff.1 hj).1; have := HN2.out; omega), hf⟩
          rcases hq with hq | hq | hq
          · exact keep_type HFR.out HT2.out (t' := 76) (by decide) hq
          · exact keep_type HFR.out HT2.out (t' := 31) (by decide) hq
          · exact keep_type HFR.out HT2.out (t' := 25) (by decide) hq
end Go.Proofs.Ytcbejpmmlcdhnaa.PW
namespace Go.Proofs.Ytcbejpmmlcdhnaa.PW
open Go.RowKit Go.Proofs.YtcbejpmmlcdhnaaW.PrintWords Go.Proofs.YtcbejpmmlcdhnaaW.PrintLast Go.Proofs.YtcbejpmmlcdhnaaW.PrintMore
set_option linter.unusedVariables false
set_option linter.unusedSimpArgs false

theorem info31 : (Try.prog.info? 31).map (fun i => (i.zero, i.size, i.bytes)) = some (some (.slice none 0 0), 1, 24) := by kernel_rfl
theorem info25 : (Try.prog.info? 25).map (fun i => (i.zero, i.size, i.bytes)) = some (some (.slice none 0 0), 1, 24) := by kernel_rfl
section
variable {W w1 : World} {base gb e sz n i : Nat} {ro rm re rx rn v g u : Value} {vo mo ve me xs : List Value} {row : Option Nat}
/-- A row behind an append to another one and a store into the book. -/
theorem row_keep (h : W.ownsRow base e sz v n xs) (hg : W.grownBy w1 row) (hne : ∀ q, v.ownBlock = some q → row ≠ some q) (hb : typed W 76 gb) (he : e ≠ 76) (i : Nat) (u : Value) : (w1.setCell ⟨gb, i, none⟩ u).ownsRow base e sz v n xs :=
  own_step h (fun k hk => by
    have hlt := (h.lt k hk).2
    have hk76 : k ≠ gb := fun e2 => he (typed_ne (own_type h k hk) (e2 ▸ hb))
    exact (Below.heap_setCell w1 _ _ k hk76).trans (hg.block k hlt (fun e2 => hne k hk e2.symm)))
/-- The row that was appended to, behind a store into the book. -/
theorem row_grown (h : w1.ownsRow base e sz v n xs) (hb : typed w1 76 gb) (he : e ≠ 76) (i : Nat) (u : Value) : (w1.setCell ⟨gb, i, none⟩ u).ownsRow base e sz v n xs :=
  own_step h (fun k hk => Below.heap_setCell w1 _ _ k (fun e2 => he (typed_ne (own_type h k hk) (e2 ▸ hb))))
theorem blk_grown76 (h : W.heap[gb]? = some (.cells #[ro, rm, re, rx] 76 (0, 0))) (hg : W.grownBy w1 row) (hr : ∀ q, row = some q → typed W e q) (he : e ≠ 76) : w1.heap[gb]? = some (.cells #[ro, rm, re, rx] 76 (0, 0)) :=
  (hg.block gb (blk_lt h) (fun e2 => he (typed_ne (hr gb e2.symm) ⟨_, h⟩))).trans h
theorem Book.grow_m (h : Book W base gb ro rm re rx vo mo ve me) (hne : ∀ q, ro.ownBlock = some q → rm.ownBlock ≠ some q) (hown : w1.ownsRow base 31 1 rn (mo.length + 1) (mo ++ [g])) (hg : W.grownBy w1 rm.ownBlock) : Book (w1.setCell ⟨gb, 1, none⟩ rn) base gb ro rn re rx vo (mo ++ [g]) ve me := by
  have hb1 := blk_grown76 h.blk hg (own_type h.m) (by decide)
  have ht : typed W 76 gb := ⟨_, h.blk⟩
  have h25 : ∀ {z : Value} {n : Nat} {ys : List Value}, W.ownsRow base 25 1 z n ys → ∀ q, z.ownBlock = some q → rm.ownBlock ≠ some q := fun hz q hq hr => absurd (typed_ne (own_type hz q hq) (own_type h.m q hr)) (by decide)
  exact ⟨h.lb, blk_set hb1 1 rn, row_keep h.o hg hne ht (by decide) _ _, by rw [List.length_append, List.length_singleton]; exact row_grown hown ⟨_, hb1⟩ (by decide) _ _, row_keep h.e hg (h25 h.e) ht (by decide) _ _, row_keep h.x hg (h25 h.x) ht (by decide) _ _⟩
theorem Book.grow_x (h : Book W base gb ro rm re rx vo mo ve me) (hne : ∀ q, re.ownBlock = some q → rx.ownBlock ≠ some q) (hown : w1.ownsRow base 25 1 rn (me.length + 1) (me ++ [g])) (hg : W.grownBy w1 rx.ownBlock) : Book (w1.setCell ⟨gb, 3, none⟩ rn) base gb ro rm re rn vo mo ve (me ++ [g]) := by
  have hb1 := blk_grown76 h.blk hg (own_type h.x) (by decide)
  have ht : typed W 76 gb := ⟨_, h.blk⟩
  have h31 : ∀ {z : Value} {n : Nat} {ys : List Value}, W.ownsRow base 31 1 z n ys → ∀ q, z.ownBlock = some q → rx.ownBlock ≠ some q := fun hz q hq hr => absurd (typed_ne (own_type hz q hq) (own_type h.x q hr)) (by decide)
  exact ⟨h.lb, blk_set hb1 3 rn, row_keep h.o hg (h31 h.o) ht (by decide) _ _, row_keep h.m hg (h31 h.m) ht (by decide) _ _, row_keep h.e hg hne ht (by decide) _ _, by rw [List.length_append, List.length_singleton]; exact row_grown hown ⟨_, hb1⟩ (by decide) _ _⟩
theorem Book.grow_o (h : Book W base gb ro rm re rx vo mo ve me) (hne : ∀ q, rm.ownBlock = some q → ro.ownBlock ≠ some q) (hown : w1.ownsRow base 31 1 rn (vo.length + 1) (vo ++ [g])) (hg : W.grownBy w1 ro.ownBlock) : Book (w1.setCell ⟨gb, 0, none⟩ rn) base gb rn rm re rx (vo ++ [g]) mo ve me := by
  have hb1 := blk_grown76 h.blk hg (own_type h.o) (by decide)
  have ht : typed W 76 gb := ⟨_, h.blk⟩
  have h25 : ∀ {z : Value} {n : Nat} {ys : List Value}, W.ownsRow base 25 1 z n ys → ∀ q, z.ownBlock = some q → ro.ownBlock ≠ some q := fun hz q hq hr => absurd (typed_ne (own_type hz q hq) (own_type h.o q hr)) (by decide)
  exact ⟨h.lb, blk_set hb1 0 rn, by rw [List.length_append, List.length_singleton]; exact row_grown hown ⟨_, hb1⟩ (by decide) _ _, row_keep h.m hg hne ht (by decide) _ _, row_keep h.e hg (h25 h.e) ht (by decide) _ _, row_keep h.x hg (h25 h.x) ht (by decide) _ _⟩
theorem Book.grow_e (h : Book W base gb ro rm re rx vo mo ve me) (hne : ∀ q, rx.ownBlock = some q → re.ownBlock ≠ some q) (hown : w1.ownsRow base 25 1 rn (ve.length + 1) (ve ++ [g])) (hg : W.grownBy w1 re.ownBlock) : Book (w1.setCell ⟨gb, 2, none⟩ rn) base gb ro rm rn rx vo mo (ve ++ [g]) me := by
  have hb1 := blk_grown76 h.blk hg (own_type h.e) (by decide)
  have ht : typed W 76 gb := ⟨_, h.blk⟩
  have h31 : ∀ {z : Value} {n : Nat} {ys : List Value}, W.ownsRow base 31 1 z n ys → ∀ q, z.ownBlock = some q → re.ownBlock ≠ some q := fun hz q hq hr => absurd (typed_ne (own_type hz q hq) (own_type h.e q hr)) (by decide)
  exact ⟨h.lb, blk_set hb1 2 rn, row_keep h.o hg (h31 h.o) ht (by decide) _ _, row_keep h.m hg (h31 h.m) ht (by decide) _ _, by rw [List.length_append, List.length_singleton]; exact row_grown hown ⟨_, hb1⟩ (by decide) _ _, row_keep h.x hg hne ht (by decide) _ _⟩
/-- How many are put behind list k. -/
theorem grownBy_C (k : Nat) (w : World) : ∃ M : Nat, M ≤ 96 ∧ ∀ w, Calls Try.prog 57 #[.int .i64 (k : Int)] w fun e w' => e = .returned (.int .i64 (M : Int)) ∧ Drawn0 w w' := by
  by_cases h : (k : Int) < 64
  · exact ⟨96, by omega, fun w => heraldlaw6_grownBy.calls k 96 w (by unfold heraldlaw6_grownBy.f; rw [if_pos h])⟩
  · exact ⟨2, by omega, fun w => heraldlaw6_grownBy.calls k 2 w (by unfold heraldlaw6_grownBy.f; rw [if_neg h])⟩
end
end Go.Proofs.Ytcbejpmmlcdhnaa.PW
namespace Go.Proofs.Ytcbejpmmlcdhnaa.PW
open Go.RowKit Go.Proofs.YtcbejpmmlcdhnaaW.PrintWords Go.Proofs.YtcbejpmmlcdhnaaW.PrintLast Go.Proofs.YtcbejpmmlcdhnaaW.PrintMore
set_option linter.unusedVariables false
set_option linter.unusedSimpArgs false
def rg52.T6 : Bool × List (List Nat × List Nat) := (true, [([], []), ([], []), ([1], [1]), ([2], [2]), ([3], [3]), ([], []), ([4, 5], [4, 5]), ([6], [6]), ([7], [7]), ([], []), ([9], [9]), ([8, 10], [8, 10]), ([0, 11], [0, 11])])
def rg52.B6 : List Nat := [0, 0, 2, 6, 14, 0, 62, 126, 254, 0, 512, 2046, 4095]
theorem rg52.tab6 : rtab .any (opsOf Try.f52 6) = rg52.T6 := by kernel_rfl
theorem rg52.bits6 : waitsOk rg52.T6.2 rg52.B6 = true := by kernel_rfl
def rg52.T16 : Bool × List (List Nat × List Nat) := (true, [([], []), ([], []), ([1], [1]), ([2], [2]), ([3], [3]), ([], []), ([4, 5], [4, 5]), ([6], [6]), ([7], [7]), ([], []), ([9], [9]), ([8, 10], [8, 10]), ([0, 11], [0, 11])])
def rg52.B16 : List Nat := [0, 0, 2, 6, 14, 0, 62, 126, 254, 0, 512, 2046, 4095]
theorem rg52.tab16 : rtab .any (opsOf Try.f52 16) = rg52.T16 := by kernel_rfl
theorem rg52.bits16 : waitsOk rg52.T16.2 rg52.B16 = true := by kernel_rfl

set_option maxHeartbeats 64000000 in
set_option maxRecDepth 100000 in
theorem grow_B {W : World} {base gb : Nat} {ro re : Value} {vo ve : List Value} (h : Book W base gb ro (.slice none 0 0) re (.slice none 0 0) vo [] ve []) (hro : ∀ (j : Nat) (v : Value), vo[j]? = some v → Mkd W base 55 5 mk5 j v) (hre : ∀ (j : Nat) (v : Value), ve[j]? = some v → Mkd W base 33 6 mk6 j v) (hdo : Dist vo) (hde : Dist ve) (hlo : vo.length ≤ 12000) (hle : ve.length ≤ 12000) (hbase : base ≤ W.heap.size) :
    Calls Try.prog 52 #[.pointer (some ⟨gb, 0, none⟩)] W fun r w' => (∃ v, r = .returned v) ∧ ∃ rm rx mo me, Book w' base gb ro rm re rx vo mo ve me ∧ mo.length = vo.length ∧ me.length = ve.length ∧ (∀ (j : Nat) (v v' : Value), vo[j]? = some v → mo[j]? = some v' → Pair w' base 55 5 mk5 j v v') ∧ (∀ (j : Nat) (v v' : Value), ve[j]? = some v → me[j]? = some v' → Pair w' base 33 6 mk6 j v v') ∧ Frm W w' (fun q => q = gb ∨ blocks vo q ∨ blocks ve q) := by
  obtain ⟨oA, oc, hroE, hoc⟩ := own_form h.o
  obtain ⟨eA, ec, hreE, hec⟩ := own_form h.e
  obtain ⟨N1, hN1⟩ : ∃ N1, N1 = vo.length := ⟨_, rfl⟩
  obtain ⟨N2, hN2⟩ : ∃ N2, N2 = ve.length := ⟨_, rfl⟩
  rw [← hN1] at hroE hlo
  rw [← hN2] at hreE hle
  subst hroE
  subst hreE
  have HB1 := Aside0.mk h
  have HN1 := Aside0.mk hN1
  have HN2 := Aside0.mk hN2
  have HR1 := Aside0.mk hro
  have HRE := Aside0.mk hre
  have HD1 := Aside0.mk hdo
  have HD2 := Aside0.mk hde
  have HLEN1 := Aside0.mk hlo
  have HLEN2 := Aside0.mk hle
  have HLB := Aside0.mk (show base ≤ W.heap.size ∧ True from ⟨hbase, trivial⟩)
  clear h hN1 hN2 hro hre hdo hde hlo hle hoc hec hbase
  go_enter Try.func52, Try.ntmps52
  go_wp2
  go_loopw [2, 3, 4, 5] (fun v2 v3 v4 v5 wr => ∃ (k : Nat) (rm : Value) (mo : List Value), k ≤ N1 ∧ v2 = .int .i64 (k : Int) ∧ Aside0 (Book wr base gb (.slice oA N1 oc) rm (.slice eA N2 ec) (.slice none 0 0) vo mo ve []) ∧ Aside0 (mo.length = k ∧ ∀ q, rm.ownBlock = some q → W.heap.size ≤ q) ∧
      Aside0 (∀ (j : Nat) (v v' : Value), vo[j]? = some v → mo[j]? = some v' → Pair wr base 55 5 mk5 j v v' ∧ ∀ q, v'.ownBlock = some q → v.ownBlock = some q ∨ W.heap.size ≤ q) ∧
      Aside0 (∀ (j : Nat) (v : Value), vo[j]? = some v → k ≤ j → Mkd wr base 55 5 mk5 j v) ∧ Aside0 (Frm W wr (fun q => q = gb ∨ blocks vo q))) (fun v2 _ _ _ _ => N1 + 1 - (intOf v2).toNat)
  case atStart => exact ⟨0, _, _, Nat.zero_le _, rfl, HB1, ⟨⟨rfl, fun q hq => by simp [Value.ownBlock] at hq⟩⟩, ⟨fun j v v' _ h => by simp at h⟩, ⟨fun j v hj _ => HR1.out j v hj⟩, ⟨Frm.refl _ _⟩⟩
  case round =>
    obtain ⟨k, rm, mo, hk, rfl, HBK, HMO, HPR, HMK, HFR⟩ := hrel
    have c0 : wr.cell? ⟨gb, 0, none⟩ = some (.slice oA N1 oc) := (blk_cell HBK.out.blk 0).trans rfl
    by_cases hlt : k < N1
    · have hd1 : decide (k < N1) = true := decide_eq_true hlt
      have hd2 : decide ((k : Int) < (N1 : Int)) = true := decide_eq_true (by omega)
      have hown := HBK.out.o
      rw [← HN1.out] at hown
      obtain ⟨gr, cr, cur, hrow, _, _, _, _⟩ := own_some hown (by omega)
      injection hrow with hA _ hc
      have hAe : oA = some ⟨gr, 0, none⟩ := hA
      have hkv : k < vo.length := by rw [← HN1.out]; exact hlt
      obtain ⟨v, hv⟩ : ∃ v, vo[k]? = some v := ⟨_, List.getElem?_eq_getElem hkv⟩
      rw [hAe] at c0 hown
      obtain ⟨n5, hn64, hX0⟩ := HMK.out k v hv (Nat.le_refl _)
      obtain ⟨A5, c5, rfl, hc5⟩ := own_form hX0
      have ck : wr.cell? ⟨gr, k, none⟩ = some (.slice A5 n5 c5) := own_cell hown hv
      obtain ⟨M, hM, hMC⟩ := grownBy_C k wr
      obtain ⟨wk, hwk⟩ : ∃ wk, wk = wr := ⟨_, rfl⟩
      have HV := Aside0.mk hv
      have HOWN := Aside0.mk hown
      have HMC := Aside0.mk hMC
      have HX0 := Aside0.mk hX0
      rw [← hwk] at HBK HPR HMK HFR HOWN HX0
      obtain ⟨K1, hK1⟩ : ∃ K1, K1 = k + 1 := ⟨_, rfl⟩
      obtain ⟨NK, hNK⟩ : ∃ NK : Int, NK = -((k + 1 : Nat) : Int) := ⟨_, rfl⟩
      have hkk1 : (k : Int) + 1 = (K1 : Int) := by omega
      have hkb : K1 ≤ 12001 := by have := HLEN1.out; omega
      obtain ⟨NM, hNM⟩ : ∃ NM, NM = n5 + M := ⟨_, rfl⟩
      have HSUM := Aside0.mk (show (n5 : Int) + (M : Int) = (NM : Int) ∧ wrap64 ((n5 : Int) + (M : Int)) = (NM : Int) ∧ wrap64 (NM : Int) = (NM : Int) from ⟨by omega, by unfold wrap64; omega, by unfold wrap64; omega⟩)
      have HNM := Aside0.mk hNM
      clear hNM
      have hm1 : wrap64 (-(k : Int)) = -(k : Int) := by unfold wrap64; omega
      have hm2 : -(k : Int) - 1 = NK := by omega
      have hm3 : wrap64 NK = NK := by unfold wrap64; omega
      have hm4 : wrap64 (-(k : Int) - 1) = NK := by unfold wrap64; omega
      have HK1 := Aside0.mk (And.intro hK1 hNK)
      obtain ⟨I0, hI0⟩ : ∃ I0, I0 = n5 := ⟨_, rfl⟩
      have HX1 := Aside0.mk (show wr.ownsRow base 55 5 (.slice A5 n5 c5) n5 (rep mk5 n5 ((k + 1 : Nat) : Int)) from hX0)
      have HX2 := Aside0.mk (show wr.ownsRow base 55 5 (.slice A5 n5 c5) (n5 + 0) (rep mk5 n5 ((k + 1 : Nat) : Int) ++ rep mk5 0 NK) by rw [rep_zero, List.append_nil]; exact hX0)
      have HF1 := Aside0.mk (show Frm wk wr (fun q => (Value.slice A5 n5 c5).ownBlock = some q) by rw [hwk]; exact Frm.refl _ _)
      obtain rfl := hAe
      clear hown hkv hv hX0 hc5 hwk hK1 hNK hMC hI0
      go_wp2
      clear hm1 hm2 hm3 hm4
      go_loopw [4, 5] (fun v4 v5 wr => ∃ (j I : Nat) (gv : Value), j ≤ M ∧ gv = v4 ∧ v5 = .int .i64 (I : Int) ∧ Aside0 (I = n5 + j) ∧ Aside0 (Frm wk wr (fun q => (Value.slice A5 n5 c5).ownBlock = some q)) ∧ Aside0 (wr.ownsRow base 55 5 (.slice A5 n5 c5) n5 (rep mk5 n5 ((k + 1 : Nat) : Int))) ∧ Aside0 (wr.ownsRow base 55 5 gv (n5 + j) (rep mk5 n5 ((k + 1 : Nat) : Int) ++ rep mk5 j NK)) ∧ Aside0 (∀ q, gv.ownBlock = some q → (Value.slice A5 n5 c5).ownBlock = some q ∨ wk.heap.size ≤ q)) (fun _ v5 _ => n5 + M + 1 - (intOf v5).toNat)
      case atStart => exact ⟨0, n5, _, Nat.zero_le _, rfl, rfl, ⟨rfl⟩, HF1, HX1, HX2, ⟨fun q hq => .inl hq⟩⟩
      case round =>
        obtain ⟨j, I, gv, hj, rfl, rfl, HI, HFI, HXE, HXG, HGB⟩ := hrel
        have hT5 : ∀ q, (Value.slice A5 n5 c5).ownBlock = some q → typed wk 55 q := fun q hq => own_type HX0.out q hq
        have HT5 := Aside0.mk hT5
        have hb5 := (keep_type HFI.out HT5.out (t' := 76) (by decide) ⟨_, HBK.out.blk⟩).trans HBK.out.blk
        have c0 : wr.drew.cell? ⟨gb, 0, none⟩ = some (.slice (some ⟨gr, 0, none⟩) N1 oc) := (blk_cell hb5 0).trans rfl
        have ck : wr.drew.cell? ⟨gr, k, none⟩ = some (.slice A5 n5 c5) := own_cell (own_step HOWN.out (fun q hq => keep_type HFI.out HT5.out (t' := 31) (by decide) (own_type HOWN.out q hq))) HV.out
        have HB5 := Aside0.mk hb5
        clear hb5 hT5
        by_cases hjM : j < M
        · have hd3 : decide (I < NM) = true := decide_eq_true (by have := HI.out; have := HNM.out; omega)
          have hd4 : decide ((I : Int) < (NM : Int)) = true := decide_eq_true (by have := HI.out; have := HNM.out; omega)
          have hI1 : I ≤ 300 := by have := HI.out; omega
          obtain ⟨hsum, hwsum, hwNM⟩ := HSUM.out
          go_wp2
          refine start_ (n := 13) (S := fun w' => w'.cell? ⟨gb, 0, none⟩ = some (.slice (some ⟨gr, 0, none⟩) N1 oc) ∧ w'.cell? ⟨gr, k, none⟩ = some (.slice A5 n5 c5)) (ds := []) #[false, false, false, false, false, false, false, false, false, false, false, false, false] (by kernel_rfl) rfl rfl ⟨c0, ck⟩ (fun hHeld => ?_)
          refine with_tabW rg52.tab6 rg52.bits6 (fun HT_ HW_ => ?_)
          refine pure_ (i := 0) (N := some 31) (v := ?_) (a' := ?_) #[true, false, false, false, false, false, false, false, false, false, false, false, false] rfl rfl (any_of HT_.out (by kernel_rfl)) (fun _ _ _ h => h) (Or.inl ⟨by rfl, ?_⟩) ?_ ?_
          rotate_left
          · intro w'
            go_simp
            with_reducible rfl
          rotate_left
          · simp only [Act.put, List.setIfInBounds_toArray, List.set_cons_zero, List.set_cons_succ, i64_w, i32_w]
            rfl
          refine pure_ (i := 1) (N := some 32) (v := ?_) (a' := ?_) #[true, true, false, false, false, false, false, false, false, false, false, false, false] rfl rfl (any_of HT_.out (by kernel_rfl)) (fun _ _ _ h => h) (Or.inl ⟨by rfl, ?_⟩) ?_ ?_
          rotate_left
          · intro w'
            go_simp
            with_reducible rfl
          rotate_left
          · simp only [Act.put, List.setIfInBounds_toArray, List.set_cons_zero, List.set_cons_succ, i64_w, i32_w]
            rfl
          refine pure_ (i := 2) (N := some 33) (v := ?_) (a' := ?_) #[true, true, true, false, false, false, false, false, false, false, false, false, false] rfl rfl (any_of HT_.out (by kernel_rfl)) (fun _ _ _ h => h) (Or.inl ⟨by rfl, ?_⟩) ?_ ?_
          rotate_left
          · intro w'
            go_simp
            with_reducible rfl
          rotate_left
          · simp only [Act.put, List.setIfInBounds_toArray, List.set_cons_zero, List.set_cons_succ, i64_w, i32_w]
            rfl
          refine pure_ (i := 3) (N := some 34) (v := ?_) (a' := ?_) #[true, true, true, true, false, false, false, false, false, false, false, false, false] rfl rfl (any_of HT_.out (by kernel_rfl)) (fun _ _ _ h => h) (Or.inl ⟨by rfl, ?_⟩) ?_ ?_
          rotate_left
          · intro w'
            go_simp
            with_reducible rfl
          rotate_left
          · simp only [Act.put, List.setIfInBounds_toArray, List.set_cons_zero, List.set_cons_succ, i64_w, i32_w]
            rfl
          refine pure_ (i := 5) (N := some 36) (v := ?_) (a' := ?_) #[true, true, true, true, false, true, false, false, false, false, false, false, false] rfl rfl (any_of HT_.out (by kernel_rfl)) (fun _ _ _ h => h) (Or.inl ⟨by rfl, ?_⟩) ?_ ?_
          rotate_left
          · intro w'
            go_simp
            with_reducible rfl
          rotate_left
          · simp only [Act.put, List.setIfInBounds_toArray, List.set_cons_zero, List.set_cons_succ, i64_w, i32_w]
            rfl
          refine pure_ (i := 9) (N := some 40) (v := ?_) (a' := ?_) #[true, true, true, true, false, true, false, false, false, true, false, false, false] rfl rfl (any_of HT_.out (by kernel_rfl)) (fun _ _ _ h => h) (Or.inl ⟨by rfl, ?_⟩) ?_ ?_
          rotate_left
          · intro w'
            go_simp
            with_reducible rfl
          rotate_left
          · simp only [Act.put, List.setIfInBounds_toArray, List.set_cons_zero, List.set_cons_succ, i64_w, i32_w]
            rfl
          refine take_ (i := 4) (N := some 35) (v := ?_) (a' := ?_) #[true, true, true, true, true, true, false, false, false, true, false, false, false] rfl rfl (take_ofW HT_.out HW_.out (by kernel_rfl)) (fun _ _ _ h => h) (Or.inl ⟨by rfl, ?_⟩) hHeld ?_ ?_
          rotate_left
          · rintro w' ⟨s0, s1⟩
            go_simp
            with_reducible rfl
          rotate_left
          · simp only [Act.put, List.setIfInBounds_toArray, List.set_cons_zero, List.set_cons_succ, i64_w, i32_w]
            rfl
          refine pure_ (i := 6) (N := some 37) (v := ?_) (a' := ?_) #[true, true, true, true, true, true, true, false, false, true, false, false, false] rfl rfl (any_of HT_.out (by kernel_rfl)) (fun _ _ _ h => h) (Or.inl ⟨by rfl, ?_⟩) ?_ ?_
          rotate_left
          · intro w'
            go_simp
            with_reducible rfl
          rotate_left
          · simp only [Act.put, List.setIfInBounds_toArray, List.set_cons_zero, List.set_cons_succ, i64_w, i32_w]
            rfl
          refine take_ (i := 7) (N := some 38) (v := ?_) (a' := ?_) #[true, true, true, true, true, true, true, true, false, true, false, false, false] rfl rfl (take_ofW HT_.out HW_.out (by kernel_rfl)) (fun _ _ _ h => h) (Or.inl ⟨by rfl, ?_⟩) hHeld ?_ ?_
          rotate_left
          · rintro w' ⟨s0, s1⟩
            go_simp
            with_reducible rfl
          rotate_left
          · simp only [Act.put, List.setIfInBounds_toArray, List.set_cons_zero, List.set_cons_succ, i64_w, i32_w]
            rfl
          refine pure_ (i := 8) (N := some 39) (v := ?_) (a' := ?_) #[true, true, true, true, true, true, true, true, true, true, false, false, false] rfl rfl (any_of HT_.out (by kernel_rfl)) (fun _ _ _ h => h) (Or.inl ⟨by rfl, ?_⟩) ?_ ?_
          rotate_left
          · intro w'
            go_simp
            with_reducible rfl
          rotate_left
          · simp only [Act.put, List.setIfInBounds_toArray, List.set_cons_zero, List.set_cons_succ, i64_w, i32_w]
            rfl
          refine one_ (i := 10) (N := some 41) #[true, true, true, true, true, true, true, true, true, true, true, false, false] rfl rfl (one_of HT_.out (by kernel_rfl)) (by decide) (fun K hK => ?_)
          refine goes_ Try.func57 (by kernel_rfl) rfl #[.int .i64 (k : Int)] (by rfl) rfl rfl (by simp only [List.map_toArray, List.map_cons, List.map_nil]; rfl) ?_
          with_reducible refine (HMC.out _).mono ?_
          rintro e w9 ⟨rfl, ⟨⟨mq, rfl⟩⟩⟩
          refine ⟨_, rfl, ?_⟩
          refine hK.out _ _ ⟨c0, ck⟩ (fun hHeld => ?_)
          clear hK K
          refine norm_ (a' := ?_) ?_ ?_
          rotate_left
          · show Act.put _ (some 41) _ = _
            simp only [Act.put, List.setIfInBounds_toArray, List.set_cons_zero, List.set_cons_succ, i64_w, i32_w]
            rfl
          refine pure_ (i := 11) (N := some 42) (v := ?_) (a' := ?_) #[true, true, true, true, true, true, true, true, true, true, true, true, false] rfl rfl (any_of HT_.out (by kernel_rfl)) (fun _ _ _ h => h) (Or.inl ⟨by rfl, ?_⟩) ?_ ?_
          rotate_left
          · intro w'
            go_simp
            with_reducible rfl
          rotate_left
          · simp only [Act.put, List.setIfInBounds_toArray, List.set_cons_zero, List.set_cons_succ, i64_w, i32_w]
            rfl
          refine pure_ (i := 12) (N := some 43) (v := ?_) (a' := ?_) #[true, true, true, true, true, true, true, true, true, true, true, true, true] rfl rfl (any_of HT_.out (by kernel_rfl)) (fun _ _ _ h => h) (Or.inl ⟨by rfl, ?_⟩) ?_ ?_
          rotate_left
          · intro w'
            go_simp
            with_reducible rfl
          rotate_left
          · simp only [Act.put, List.setIfInBounds_toArray, List.set_cons_zero, List.set_cons_succ, i64_w, i32_w]
            rfl
          refine done_ (done_of HT_.out (by kernel_rfl)) ?_
          clear hsum hwsum hwNM
          have HXE2 := Aside0.mk (show (wr.drew.drewN mq).ownsRow base 55 5 (.slice A5 n5 c5) n5 (rep mk5 n5 ((k + 1 : Nat) : Int)) from HXE.out)
          have HXG2 := Aside0.mk (show (wr.drew.drewN mq).ownsRow base 55 5 gv (n5 + j) (rep mk5 n5 ((k + 1 : Nat) : Int) ++ rep mk5 j NK) from HXG.out)
          have HFI2 := Aside0.mk (show Frm wk (wr.drew.drewN mq) (fun q => (Value.slice A5 n5 c5).ownBlock = some q) from (HFI.out.drew).drewN mq)
          obtain ⟨w5, hw5⟩ : ∃ w5, w5 = wr.drew.drewN mq := ⟨_, rfl⟩
          rw [← hw5] at HXE2 HXG2 HFI2 ⊢
          clear hw5 c0 ck
          go_wp2_with (with_reducible refine stop_append rfl ?_)
          refine own_append (W := w5) base rfl (.tmp 46) (.tmp 49) 31 55 (.agg #[(.int .i64 0), (.string ⟨#[]⟩), (.string ⟨#[]⟩), (.int .i64 0), (.int .i64 0)]) 5 56 rfl Try.underlying31 info55 rfl (by decide) (by decide) gv (n5 + j) (rep mk5 n5 ((k + 1 : Nat) : Int) ++ rep mk5 j NK) (mk5 NK) rfl rfl rfl (by simp [mk5, Value.oneCell']) HXG2.out (by have := HLB.out.1; have := HFR.out.size; have := HFI2.out.size; omega) (by omega) ?_
          intro g1 w6 ho6 hg6 hat6
          have hE6 := keep_elder (Y := rep mk5 j NK) (Z := rep mk5 (j + 1) NK) (m1 := n5 + j + 1) (by decide) HXE2.out HXG2.out (by rw [rep_succ, ← List.append_assoc]; exact ho6) (by omega) hg6 (hat6.imp (fun h => h) (fun h => h.2))
          have HXE3 := Aside0.mk hE6
          have HXG3 := Aside0.mk (show w6.ownsRow base 55 5 g1 (n5 + (j + 1)) (rep mk5 n5 ((k + 1 : Nat) : Int) ++ rep mk5 (j + 1) NK) by rw [rep_succ, ← List.append_assoc]; exact ho6)
          have HFI3 := Aside0.mk (HFI2.out.then_ (Frm.of_grown hg6 (S := fun q => gv.ownBlock = some q) (fun q hq => hq)) (fun q hq hlt => (HGB.out q hq).elim (fun h => h) (fun h => by omega)))
          have HGB3 := Aside0.mk (show ∀ q, g1.ownBlock = some q → (Value.slice A5 n5 c5).ownBlock = some q ∨ wk.heap.size ≤ q from fun q hq => by
            rcases hat6 with ⟨b, cap, rfl, rfl⟩ | ⟨⟨b, hb, hlb⟩, _⟩
            · exact HGB.out q hq
            · rw [hb] at hq
              cases hq
              exact .inr (Nat.le_trans HFI2.out.size hlb))
          obtain ⟨I1, hI1'⟩ : ∃ I1, I1 = I + 1 := ⟨_, rfl⟩
          have HI1 := Aside0.mk hI1'
          have hII : (I : Int) + 1 = (I1 : Int) := by omega
          clear ho6 hg6 hat6 hE6 HXE HXG HXE2 HXG2 HFI HFI2 HGB hI1'
          go_wp2
          go_roundw
          case rel => exact ⟨j + 1, I1, g1, by omega, rfl, by go_num, ⟨by have := HI.out; have := HI1.out; omega⟩, HFI3, HXE3, HXG3, HGB3⟩
          case measure => have := HI.out; have := HI1.out; simp [intOf]; omega
        · have hjj : j = M := by omega
          have hd3 : decide (I < NM) = false := decide_eq_false (by have := HI.out; have := HNM.out; omega)
          have hd4 : decide ((I : Int) < (NM : Int)) = false := decide_eq_false (by have := HI.out; have := HNM.out; omega)
          obtain ⟨A7, c7, rfl, hc7⟩ := own_form HXG.out
          obtain ⟨L7, hL7⟩ : ∃ L7, L7 = n5 + j := ⟨_, rfl⟩
          have HL7 := Aside0.mk hL7
          rw [← hL7] at HXG HGB ⊢
          clear hc7 hL7
          obtain ⟨hsum, hwsum, hwNM⟩ := HSUM.out
          go_wp2
          refine start_ (n := 13) (S := fun w' => w'.cell? ⟨gb, 0, none⟩ = some (.slice (some ⟨gr, 0, none⟩) N1 oc) ∧ w'.cell? ⟨gr, k, none⟩ = some (.slice A5 n5 c5)) (ds := []) #[false, false, false, false, false, false, false, false, false, false, false, false, false] (by kernel_rfl) rfl rfl ⟨c0, ck⟩ (fun hHeld => ?_)
          refine with_tabW rg52.tab6 rg52.bits6 (fun HT_ HW_ => ?_)
          refine pure_ (i := 0) (N := some 31) (v := ?_) (a' := ?_) #[true, false, false, false, false, false, false, false, false, false, false, false, false] rfl rfl (any_of HT_.out (by kernel_rfl)) (fun _ _ _ h => h) (Or.inl ⟨by rfl, ?_⟩) ?_ ?_
          rotate_left
          · intro w'
            go_simp
            with_reducible rfl
          rotate_left
          · simp only [Act.put, List.setIfInBounds_toArray, List.set_cons_zero, List.set_cons_succ, i64_w, i32_w]
            rfl
          refine pure_ (i := 1) (N := some 32) (v := ?_) (a' := ?_) #[true, true, false, false, false, false, false, false, false, false, false, false, false] rfl rfl (any_of HT_.out (by kernel_rfl)) (fun _ _ _ h => h) (Or.inl ⟨by rfl, ?_⟩) ?_ ?_
          rotate_left
          · intro w'
            go_simp
            with_reducible rfl
          rotate_left
          · simp only [Act.put, List.setIfInBounds_toArray, List.set_cons_zero, List.set_cons_succ, i64_w, i32_w]
            rfl
          refine pure_ (i := 2) (N := some 33) (v := ?_) (a' := ?_) #[true, true, true, false, false, false, false, false, false, false, false, false, false] rfl rfl (any_of HT_.out (by kernel_rfl)) (fun _ _ _ h => h) (Or.inl ⟨by rfl, ?_⟩) ?_ ?_
          rotate_left
          · intro w'
            go_simp
            with_reducible rfl
          rotate_left
          · simp only [Act.put, List.setIfInBounds_toArray, List.set_cons_zero, List.set_cons_succ, i64_w, i32_w]
            rfl
          refine pure_ (i := 3) (N := some 34) (v := ?_) (a' := ?_) #[true, true, true, true, false, false, false, false, false, false, false, false, false] rfl rfl (any_of HT_.out (by kernel_rfl)) (fun _ _ _ h => h) (Or.inl ⟨by rfl, ?_⟩) ?_ ?_
          rotate_left
          · intro w'
            go_simp
            with_reducible rfl
          rotate_left
          · simp only [Act.put, List.setIfInBounds_toArray, List.set_cons_zero, List.set_cons_succ, i64_w, i32_w]
            rfl
          refine pure_ (i := 5) (N := some 36) (v := ?_) (a' := ?_) #[true, true, true, true, false, true, false, false, false, false, false, false, false] rfl rfl (any_of HT_.out (by kernel_rfl)) (fun _ _ _ h => h) (Or.inl ⟨by rfl, ?_⟩) ?_ ?_
          rotate_left
          · intro w'
            go_simp
            with_reducible rfl
          rotate_left
          · simp only [Act.put, List.setIfInBounds_toArray, List.set_cons_zero, List.set_cons_succ, i64_w, i32_w]
            rfl
          refine pure_ (i := 9) (N := some 40) (v := ?_) (a' := ?_) #[true, true, true, true, false, true, false, false, false, true, false, false, false] rfl rfl (any_of HT_.out (by kernel_rfl)) (fun _ _ _ h => h) (Or.inl ⟨by rfl, ?_⟩) ?_ ?_
          rotate_left
          · intro w'
            go_simp
            with_reducible rfl
          rotate_left
          · simp only [Act.put, List.setIfInBounds_toArray, List.set_cons_zero, List.set_cons_succ, i64_w, i32_w]
            rfl
          refine take_ (i := 4) (N := some 35) (v := ?_) (a' := ?_) #[true, true, true, true, true, true, false, false, false, true, false, false, false] rfl rfl (take_ofW HT_.out HW_.out (by kernel_rfl)) (fun _ _ _ h => h) (Or.inl ⟨by rfl, ?_⟩) hHeld ?_ ?_
          rotate_left
          · rintro w' ⟨s0, s1⟩
            go_simp
            with_reducible rfl
          rotate_left
          · simp only [Act.put, List.setIfInBounds_toArray, List.set_cons_zero, List.set_cons_succ, i64_w, i32_w]
            rfl
          refine pure_ (i := 6) (N := some 37) (v := ?_) (a' := ?_) #[true, true, true, true, true, true, true, false, false, true, false, false, false] rfl rfl (any_of HT_.out (by kernel_rfl)) (fun _ _ _ h => h) (Or.inl ⟨by rfl, ?_⟩) ?_ ?_
          rotate_left
          · intro w'
            go_simp
            with_reducible rfl
          rotate_left
          · simp only [Act.put, List.setIfInBounds_toArray, List.set_cons_zero, List.set_cons_succ, i64_w, i32_w]
            rfl
          refine take_ (i := 7) (N := some 38) (v := ?_) (a' := ?_) #[true, true, true, true, true, true, true, true, false, true, false, false, false] rfl rfl (take_ofW HT_.out HW_.out (by kernel_rfl)) (fun _ _ _ h => h) (Or.inl ⟨by rfl, ?_⟩) hHeld ?_ ?_
          rotate_left
          · rintro w' ⟨s0, s1⟩
            go_simp
            with_reducible rfl
          rotate_left
          · simp only [Act.put, List.setIfInBounds_toArray, List.set_cons_zero, List.set_cons_succ, i64_w, i32_w]
            rfl
          refine pure_ (i := 8) (N := some 39) (v := ?_) (a' := ?_) #[true, true, true, true, true, true, true, true, true, true, false, false, false] rfl rfl (any_of HT_.out (by kernel_rfl)) (fun _ _ _ h => h) (Or.inl ⟨by rfl, ?_⟩) ?_ ?_
          rotate_left
          · intro w'
            go_simp
            with_reducible rfl
          rotate_left
          · simp only [Act.put, List.setIfInBounds_toArray, List.set_cons_zero, List.set_cons_succ, i64_w, i32_w]
            rfl
          refine one_ (i := 10) (N := some 41) #[true, true, true, true, true, true, true, true, true, true, true, false, false] rfl rfl (one_of HT_.out (by kernel_rfl)) (by decide) (fun K hK => ?_)
          refine goes_ Try.func57 (by kernel_rfl) rfl #[.int .i64 (k : Int)] (by rfl) rfl rfl (by simp only [List.map_toArray, List.map_cons, List.map_nil]; rfl) ?_
          with_reducible refine (HMC.out _).mono ?_
          rintro e w9 ⟨rfl, ⟨⟨mq, rfl⟩⟩⟩
          refine ⟨_, rfl, ?_⟩
          refine hK.out _ _ ⟨c0, ck⟩ (fun hHeld => ?_)
          clear hK K
          refine norm_ (a' := ?_) ?_ ?_
          rotate_left
          · show Act.put _ (some 41) _ = _
            simp only [Act.put, List.setIfInBounds_toArray, List.set_cons_zero, List.set_cons_succ, i64_w, i32_w]
            rfl
          refine pure_ (i := 11) (N := some 42) (v := ?_) (a' := ?_) #[true, true, true, true, true, true, true, true, true, true, true, true, false] rfl rfl (any_of HT_.out (by kernel_rfl)) (fun _ _ _ h => h) (Or.inl ⟨by rfl, ?_⟩) ?_ ?_
          rotate_left
          · intro w'
            go_simp
            with_reducible rfl
          rotate_left
          · simp only [Act.put, List.setIfInBounds_toArray, List.set_cons_zero, List.set_cons_succ, i64_w, i32_w]
            rfl
          refine pure_ (i := 12) (N := some 43) (v := ?_) (a' := ?_) #[true, true, true, true, true, true, true, true, true, true, true, true, true] rfl rfl (any_of HT_.out (by kernel_rfl)) (fun _ _ _ h => h) (Or.inl ⟨by rfl, ?_⟩) ?_ ?_
          rotate_left
          · intro w'
            go_simp
            with_reducible rfl
          rotate_left
          · simp only [Act.put, List.setIfInBounds_toArray, List.set_cons_zero, List.set_cons_succ, i64_w, i32_w]
            rfl
          refine done_ (done_of HT_.out (by kernel_rfl)) ?_
          clear hsum hwsum hwNM
          have HFI2 := Aside0.mk (show Frm wk (wr.drew.drewN mq) (fun q => (Value.slice A5 n5 c5).ownBlock = some q) from (HFI.out.drew).drewN mq)
          have hkeep5 : ∀ t', t' ≠ 55 → ∀ q, typed wk t' q → (wr.drew.drewN mq).heap[q]? = wk.heap[q]? := fun t' ht' q hq => keep_type HFI2.out HT5.out ht' hq
          have hBK5 := HBK.out.step (W' := wr.drew.drewN mq) (fun q hq => by
            rcases hq with hq | hq | hq
            · exact hkeep5 76 (by decide) q hq
            · exact hkeep5 31 (by decide) q hq
            · exact hkeep5 25 (by decide) q hq)
          have HXE2 := Aside0.mk (show (wr.drew.drewN mq).ownsRow base 55 5 (.slice A5 n5 c5) n5 (rep mk5 n5 ((k + 1 : Nat) : Int)) from HXE.out)
          have HXG2 := Aside0.mk (show (wr.drew.drewN mq).ownsRow base 55 5 (.slice A7 L7 c7) L7 (rep mk5 n5 ((k + 1 : Nat) : Int) ++ rep mk5 j NK) from HXG.out)
          obtain ⟨w5, hw5⟩ : ∃ w5, w5 = wr.drew.drewN mq := ⟨_, rfl⟩
          rw [← hw5] at HXE2 HXG2 HFI2 hBK5 ⊢
          have m1 : w5.cell? ⟨gb, 1, none⟩ = some rm := (blk_cell hBK5.blk 1).trans rfl
          have hfm : ∃ Am cm, rm = .slice Am mo.length cm := by obtain ⟨Am, cm, h, _⟩ := own_form hBK5.m; exact ⟨Am, cm, h⟩
          obtain ⟨Am, cm, hrm⟩ := hfm
          obtain ⟨LM, hLM⟩ : ∃ LM, LM = mo.length := ⟨_, rfl⟩
          rw [← hLM] at hrm
          subst hrm
          have HBK5 := Aside0.mk hBK5
          have HLM := Aside0.mk hLM
          clear hw5 c0 ck hkeep5 hBK5 hLM
          go_wp2_with (with_reducible refine stop_append rfl ?_)
          refine own_append (W := w5) base rfl (.tmp 55) (.tmp 57) 74 31 (.slice none 0 0) 1 24 rfl Try.underlying74 info31 rfl (by decide) (by decide) (.slice Am LM cm) mo.length mo [.slice A7 L7 c7] rfl rfl rfl (by simp [Value.oneCell']) HBK5.out.m (by have := HLB.out.1; have := HFR.out.size; have := HFI2.out.size; omega) (by have := HMO.out.1; omega) ?_
          intro rn w6 ho6 hg6 hat6
          have hne6 : ∀ q, (Value.slice (some (⟨gr, 0, none⟩ : Addr)) N1 oc).ownBlock = some q → (Value.slice Am LM cm).ownBlock ≠ some q := fun q hq hr => by
            have h1 := HMO.out.2 q hr
            have h2 := (HB1.out.o.lt q hq).2
            omega
          have hBK6 := Book.grow_m HBK5.out hne6 ho6 hg6
          have hb6 := blk_grown76 HBK5.out.blk hg6 (own_type HBK5.out.m) (by decide)
          have m2 : w6.cell? ⟨gb, 1, none⟩ = some (.slice Am LM cm) := (blk_cell hb6 1).trans rfl
          have z2 : w6.frozen? ⟨gb, 1, none⟩ = false := blk_frozen hb6 1
          have hkeep6 : ∀ q, typed w5 55 q → (w6.setCell ⟨gb, 1, none⟩ rn).heap[q]? = w5.heap[q]? := fun q hq => by
            have h1 : q ≠ gb := fun e => absurd (typed_ne hq (e ▸ ⟨_, HBK5.out.blk⟩ : typed w5 76 q)) (by decide)
            obtain ⟨cs, hcs⟩ := hq
            exact (Below.heap_setCell w6 _ _ q h1).trans (hg6.block q (blk_lt hcs) (fun e => absurd (typed_ne ⟨cs, hcs⟩ (own_type HBK5.out.m q e.symm)) (by decide)))
          have hF6 : Frm w5 (w6.setCell ⟨gb, 1, none⟩ rn) (fun q => q = gb ∨ (Value.slice Am LM cm).ownBlock = some q) := Frm.set_ (p := ⟨gb, 1, none⟩) (Frm.of_grown hg6 (S := fun q => q = gb ∨ (Value.slice Am LM cm).ownBlock = some q) (fun q hq => .inr hq)) (.inl (.inl rfl)) _
          have hRnE : ∃ An cn, rn = .slice An (LM + 1) cn := by obtain ⟨An, cn, h, _⟩ := own_form ho6; exact ⟨An, cn, by rw [h, HLM.out]⟩
          have hRnB : ∀ q, rn.ownBlock = some q → W.heap.size ≤ q := fun q hq => by
            rcases hat6 with ⟨b, cap, h1, rfl⟩ | ⟨⟨b, hb, hlb⟩, _⟩
            · exact HMO.out.2 q (by rw [h1]; exact hq)
            · rw [hb] at hq
              cases hq
              exact Nat.le_trans (Nat.le_trans HFR.out.size HFI2.out.size) hlb
          have HRN := Aside0.mk hRnB
          have HBK6 := Aside0.mk hBK6
          have HK6 := Aside0.mk hkeep6
          have HF6 := Aside0.mk hF6
          obtain ⟨An, cn, rfl⟩ := hRnE
          clear ho6 hg6 hat6 hne6 hBK6 hb6 hkeep6 hF6 hRnB m1
          go_wp2
          obtain ⟨w7, hw7⟩ : ∃ w7, w7 = w6.setCell ⟨gb, 1, none⟩ (.slice An (LM + 1) cn) := ⟨_, rfl⟩
          rw [← hw7] at HBK6 HK6 HF6 ⊢
          clear hw7 m2 z2
          have HPAIR := Aside0.mk (show Pair w7 base 55 5 mk5 k (.slice A5 n5 c5) (.slice A7 L7 c7) from ⟨n5, j, hn64, by omega, own_tstep HXE2.out HK6.out, by rw [← HL7.out, ← HK1.out.2]; exact own_tstep HXG2.out HK6.out⟩)
          have hstep : ∀ (i : Nat) (u : Value), vo[i]? = some u → i ≠ k → ∀ q, (u.ownBlock = some q ∨ W.heap.size ≤ q) → typed wk 55 q → w7.heap[q]? = wk.heap[q]? := fun i u hi hne q hq ht => by
            have h1 : w5.heap[q]? = wk.heap[q]? := by
              obtain ⟨cs, hcs⟩ := ht
              refine HFI2.out.block q (blk_lt hcs) (fun h => ?_)
              rcases hq with hq | hq
              · exact HD1.out k i _ u HV.out hi (fun e => hne e.symm) q h hq
              · have h2 := ((HR1.out k _ HV.out).lt q h).2
                omega
            obtain ⟨cs, hcs⟩ := ht
            exact (HK6.out q ⟨cs, h1.trans hcs⟩).trans h1
          have HPR2 := Aside0.mk (show ∀ (i : Nat) (u u' : Value), vo[i]? = some u → (mo ++ [.slice A7 L7 c7])[i]? = some u' → Pair w7 base 55 5 mk5 i u u' ∧ ∀ q, u'.ownBlock = some q → u.ownBlock = some q ∨ W.heap.size ≤ q from fun i u u' hi hi' => by
            by_cases hik : i < k
            · rw [List.getElem?_append_left (by rw [HMO.out.1]; exact hik)] at hi'
              obtain ⟨hp, hq⟩ := HPR.out i u u' hi hi'
              refine ⟨?_, hq⟩
              obtain ⟨n9, m9, p1, p2, p3, p4⟩ := hp
              exact ⟨n9, m9, p1, p2, own_step p3 (fun q h => hstep i u hi (by omega) q (.inl h) (own_type p3 q h)), own_step p4 (fun q h => hstep i u hi (by omega) q (hq q h) (own_type p4 q h))⟩
            · have hlt3 := (List.getElem?_eq_some_iff.1 hi').1
              rw [List.length_append, List.length_singleton, HMO.out.1] at hlt3
              have hik2 : i = k := by omega
              subst hik2
              rw [List.getElem?_append_right (by rw [HMO.out.1]; exact Nat.le_refl _), HMO.out.1, Nat.sub_self] at hi'
              cases hi'
              rw [HV.out] at hi
              cases hi
              exact ⟨HPAIR.out, fun q hq => (HGB.out q hq).imp (fun h => h) (fun h => Nat.le_trans HFR.out.size h)⟩)
          have HMK2 := Aside0.mk (show ∀ (i : Nat) (u : Value), vo[i]? = some u → K1 ≤ i → Mkd w7 base 55 5 mk5 i u from fun i u hi hle => by
            have h1 := HMK.out i u hi (by have := HK1.out.1; omega)
            exact h1.step (fun q hq => hstep i u hi (by have := HK1.out.1; omega) q (.inl hq) (h1.type q hq)))
          have HMO2 := Aside0.mk (show (mo ++ [Value.slice A7 L7 c7]).length = K1 ∧ ∀ q, (Value.slice An (LM + 1) cn).ownBlock = some q → W.heap.size ≤ q from ⟨by rw [List.length_append, List.length_singleton, HMO.out.1]; exact HK1.out.1.symm, HRN.out⟩)
          have HFR2 := Aside0.mk (HFR.out.then_ ((HFI2.out.mono (S1 := fun q => (Value.slice A5 n5 c5).ownBlock = some q ∨ q = gb ∨ (Value.slice Am LM cm).ownBlock = some q) (fun q hq _ => .inl hq)).then_ HF6.out (fun q hq _ => .inr hq)) (fun q hq hlt => by
            rcases hq with hq | hq | hq
            · exact .inr ⟨k, _, HV.out, hq⟩
            · exact .inl hq
            · have := HMO.out.2 q hq
              omega))
          clear hstep HXE HXG HXE2 HXG2 HPAIR HPR HMK HMO HFR HBK5 HK6 HF6
          go_roundw
          case rel => exact ⟨K1, _, _, by have := HK1.out.1; omega, by go_num, HBK6, HMO2, HPR2, HMK2, HFR2⟩
          case measure => have := HK1.out.1; simp [intOf]; omega
    · have hd1 : decide (k < N1) = false := decide_eq_false hlt
      have hd2 : decide ((k : Int) < (N1 : Int)) = false := decide_eq_false (by omega)
      obtain rfl : N1 = k := by omega
      have HT1 := Aside0.mk (show ∀ q, blocks vo q → typed W 55 q from fun q ⟨j, v, hj, hq⟩ => (HR1.out j v hj).type q hq)
      have HR2 := Aside0.mk (show ∀ (j : Nat) (v : Value), ve[j]? = some v → Mkd wr base 33 6 mk6 j v from fun j v hj => (HRE.out j v hj).step (fun q hq => by
        have ht := (HRE.out j v hj).type q hq
        obtain ⟨cs, hcs⟩ := ht
        refine HFR.out.block q (blk_lt hcs) ?_
        rintro (rfl | h2)
        · exact absurd (typed_ne ⟨cs, hcs⟩ (⟨_, HB1.out.blk⟩ : typed W 76 q)) (by decide)
        · exact absurd (typed_ne ⟨cs, hcs⟩ (HT1.out q h2)) (by decide)))
      have HFW := Aside0.mk HFR.out
      obtain ⟨wm, hwm⟩ : ∃ wm, wm = wr := ⟨_, rfl⟩
      obtain ⟨rm1, hrm1⟩ : ∃ rm1, rm1 = rm := ⟨_, rfl⟩
      obtain ⟨mo1, hmo1⟩ : ∃ mo1, mo1 = mo := ⟨_, rfl⟩
      rw [← hwm, ← hrm1, ← hmo1] at HBK
      rw [← hmo1] at HMO
      rw [← hwm, ← hmo1] at HPR
      rw [← hwm] at HR2 HFW c0 ⊢
      have HB2 := HBK
      have HPR1 := HPR
      have HMO1 := Aside0.mk HMO.out.1
      clear hwm hrm1 hmo1 HBK HPR HMO HMK HFR rm mo
      go_wp2
      go_loopw [6, 7, 8, 9] (fun v6 v7 v8 v9 wr => ∃ (k : Nat) (rm : Value) (mo : List Value), k ≤ N2 ∧ v6 = .int .i64 (k : Int) ∧ Aside0 (Book wr base gb (.slice oA N1 oc) rm1 (.slice eA N2 ec) rm vo mo1 ve mo) ∧ Aside0 (mo.length = k ∧ ∀ q, rm.ownBlock = some q → wm.heap.size ≤ q) ∧
          Aside0 (∀ (j : Nat) (v v' : Value), ve[j]? = some v → mo[j]? = some v' → Pair wr base 33 6 mk6 j v v' ∧ ∀ q, v'.ownBlock = some q → v.ownBlock = some q ∨ wm.heap.size ≤ q) ∧
          Aside0 (∀ (j : Nat) (v : Value), ve[j]? = some v → k ≤ j → Mkd wr base 33 6 mk6 j v) ∧ Aside0 (Frm wm wr (fun q => q = gb ∨ blocks ve q))) (fun v6 _ _ _ _ => N2 + 1 - (intOf v6).toNat)
      case atStart => exact ⟨0, _, _, Nat.zero_le _, rfl, HB2, ⟨⟨rfl, fun q hq => by simp [Value.ownBlock] at hq⟩⟩, ⟨fun j v v' _ h => by simp at h⟩, ⟨fun j v hj _ => HR2.out j v hj⟩, ⟨Frm.refl _ _⟩⟩
      case round =>
        obtain ⟨k, rm, mo, hk, rfl, HBK, HMO, HPR, HMK, HFR⟩ := hrel
        have c0 : wr.cell? ⟨gb, 2, none⟩ = some (.slice eA N2 ec) := (blk_cell HBK.out.blk 2).trans rfl
        by_cases hlt : k < N2
        · have hd1 : decide (k < N2) = true := decide_eq_true hlt
          have hd2 : decide ((k : Int) < (N2 : Int)) = true := decide_eq_true (by omega)
          have hown := HBK.out.e
          rw [← HN2.out] at hown
          obtain ⟨gr, cr, cur, hrow, _, _, _, _⟩ := own_some hown (by omega)
          injection hrow with hA _ hc
          have hAe : eA = some ⟨gr, 0, none⟩ := hA
          have hkv : k < ve.length := by rw [← HN2.out]; exact hlt
          obtain ⟨v, hv⟩ : ∃ v, ve[k]? = some v := ⟨_, List.getElem?_eq_getElem hkv⟩
          rw [hAe] at c0 hown
          obtain ⟨n5, hn64, hX0⟩ := HMK.out k v hv (Nat.le_refl _)
          obtain ⟨A5, c5, rfl, hc5⟩ := own_form hX0
          have ck : wr.cell? ⟨gr, k, none⟩ = some (.slice A5 n5 c5) := own_cell hown hv
          obtain ⟨M, hM, hMC⟩ := grownBy_C k wr
          obtain ⟨wk, hwk⟩ : ∃ wk, wk = wr := ⟨_, rfl⟩
          have HV := Aside0.mk hv
          have HOWN := Aside0.mk hown
          have HMC := Aside0.mk hMC
          have HX0 := Aside0.mk hX0
          rw [← hwk] at HBK HPR HMK HFR HOWN HX0
          obtain ⟨K1, hK1⟩ : ∃ K1, K1 = k + 1 := ⟨_, rfl⟩
          obtain ⟨NK, hNK⟩ : ∃ NK : Int, NK = -((k + 1 : Nat) : Int) := ⟨_, rfl⟩
          have hkk1 : (k : Int) + 1 = (K1 : Int) := by omega
          have hkb : K1 ≤ 12001 := by have := HLEN2.out; omega
          obtain ⟨NM, hNM⟩ : ∃ NM, NM = n5 + M := ⟨_, rfl⟩
          have HSUM := Aside0.mk (show (n5 : Int) + (M : Int) = (NM : Int) ∧ wrap64 ((n5 : Int) + (M : Int)) = (NM : Int) ∧ wrap64 (NM : Int) = (NM : Int) from ⟨by omega, by unfold wrap64; omega, by unfold wrap64; omega⟩)
          have HNM := Aside0.mk hNM
          clear hNM
          have hm1 : wrap64 (-(k : Int)) = -(k : Int) := by unfold wrap64; omega
          have hm2 : -(k : Int) - 1 = NK := by omega
          have hm3 : wrap64 NK = NK := by unfold wrap64; omega
          have hm4 : wrap64 (-(k : Int) - 1) = NK := by unfold wrap64; omega
          have HK1 := Aside0.mk (And.intro hK1 hNK)
          obtain ⟨I0, hI0⟩ : ∃ I0, I0 = n5 := ⟨_, rfl⟩
          have HX1 := Aside0.mk (show wr.ownsRow base 33 6 (.slice A5 n5 c5) n5 (rep mk6 n5 ((k + 1 : Nat) : Int)) from hX0)
          have HX2 := Aside0.mk (show wr.ownsRow base 33 6 (.slice A5 n5 c5) (n5 + 0) (rep mk6 n5 ((k + 1 : Nat) : Int) ++ rep mk6 0 NK) by rw [rep_zero, List.append_nil]; exact hX0)
          have HF1 := Aside0.mk (show Frm wk wr (fun q => (Value.slice A5 n5 c5).ownBlock = some q) by rw [hwk]; exact Frm.refl _ _)
          obtain rfl := hAe
          clear hown hkv hv hX0 hc5 hwk hK1 hNK hMC hI0
          go_wp2
          clear hm1 hm2 hm3 hm4
          go_loopw [8, 9] (fun v8 v9 wr => ∃ (j I : Nat) (gv : Value), j ≤ M ∧ gv = v8 ∧ v9 = .int .i64 (I : Int) ∧ Aside0 (I = n5 + j) ∧ Aside0 (Frm wk wr (fun q => (Value.slice A5 n5 c5).ownBlock = some q)) ∧ Aside0 (wr.ownsRow base 33 6 (.slice A5 n5 c5) n5 (rep mk6 n5 ((k + 1 : Nat) : Int))) ∧ Aside0 (wr.ownsRow base 33 6 gv (n5 + j) (rep mk6 n5 ((k + 1 : Nat) : Int) ++ rep mk6 j NK)) ∧ Aside0 (∀ q, gv.ownBlock = some q → (Value.slice A5 n5 c5).ownBlock = some q ∨ wk.heap.size ≤ q)) (fun _ v9 _ => n5 + M + 1 - (intOf v9).toNat)
          case atStart => exact ⟨0, n5, _, Nat.zero_le _, rfl, rfl, ⟨rfl⟩, HF1, HX1, HX2, ⟨fun q hq => .inl hq⟩⟩
          case round =>
            obtain ⟨j, I, gv, hj, rfl, rfl, HI, HFI, HXE, HXG, HGB⟩ := hrel
            have hT5 : ∀ q, (Value.slice A5 n5 c5).ownBlock = some q → typed wk 33 q := fun q hq => own_type HX0.out q hq
            have HT5 := Aside0.mk hT5
            have hb5 := (keep_type HFI.out HT5.out (t' := 76) (by decide) ⟨_, HBK.out.blk⟩).trans HBK.out.blk
            have c0 : wr.drew.cell? ⟨gb, 2, none⟩ = some (.slice (some ⟨gr, 0, none⟩) N2 ec) := (blk_cell hb5 2).trans rfl
            have ck : wr.drew.cell? ⟨gr, k, none⟩ = some (.slice A5 n5 c5) := own_cell (own_step HOWN.out (fun q hq => keep_type HFI.out HT5.out (t' := 25) (by decide) (own_type HOWN.out q hq))) HV.out
            have HB5 := Aside0.mk hb5
            clear hb5 hT5
            by_cases hjM : j < M
            · have hd3 : decide (I < NM) = true := decide_eq_true (by have := HI.out; have := HNM.out; omega)
              have hd4 : decide ((I : Int) < (NM : Int)) = true := decide_eq_true (by have := HI.out; have := HNM.out; omega)
              have hI1 : I ≤ 300 := by have := HI.out; omega
              obtain ⟨hsum, hwsum, hwNM⟩ := HSUM.out
              go_wp2
              refine start_ (n := 13) (S := fun w' => w'.cell? ⟨gb, 2, none⟩ = some (.slice (some ⟨gr, 0, none⟩) N2 ec) ∧ w'.cell? ⟨gr, k, none⟩ = some (.slice A5 n5 c5)) (ds := []) #[false, false, false, false, false, false, false, false, false, false, false, false, false] (by kernel_rfl) rfl rfl ⟨c0, ck⟩ (fun hHeld => ?_)
              refine with_tabW rg52.tab16 rg52.bits16 (fun HT_ HW_ => ?_)
              refine pure_ (i := 0) (N := some 82) (v := ?_) (a' := ?_) #[true, false, false, false, false, false, false, false, false, false, false, false, false] rfl rfl (any_of HT_.out (by kernel_rfl)) (fun _ _ _ h => h) (Or.inl ⟨by rfl, ?_⟩) ?_ ?_
              rotate_left
              · intro w'
                go_simp
                with_reducible rfl
              rotate_left
              · simp only [Act.put, List.setIfInBounds_toArray, List.set_cons_zero, List.set_cons_succ, i64_w, i32_w]
                rfl
              refine pure_ (i := 1) (N := some 83) (v := ?_) (a' := ?_) #[true, true, false, false, false, false, false, false, false, false, false, false, false] rfl rfl (any_of HT_.out (by kernel_rfl)) (fun _ _ _ h => h) (Or.inl ⟨by rfl, ?_⟩) ?_ ?_
              rotate_left
              · intro w'
                go_simp
                with_reducible rfl
              rotate_left
              · simp only [Act.put, List.setIfInBounds_toArray, List.set_cons_zero, List.set_cons_succ, i64_w, i32_w]
                rfl
              refine pure_ (i := 2) (N := some 84) (v := ?_) (a' := ?_) #[true, true, true, false, false, false, false, false, false, false, false, false, false] rfl rfl (any_of HT_.out (by kernel_rfl)) (fun _ _ _ h => h) (Or.inl ⟨by rfl, ?_⟩) ?_ ?_
              rotate_left
              · intro w'
                go_simp
                with_reducible rfl
              rotate_left
              · simp only [Act.put, List.setIfInBounds_toArray, List.set_cons_zero, List.set_cons_succ, i64_w, i32_w]
                rfl
              refine pure_ (i := 3) (N := some 85) (v := ?_) (a' := ?_) #[true, true, true, true, false, false, false, false, false, false, false, false, false] rfl rfl (any_of HT_.out (by kernel_rfl)) (fun _ _ _ h => h) (Or.inl ⟨by rfl, ?_⟩) ?_ ?_
              rotate_left
              · intro w'
                go_simp
                with_reducible rfl
              rotate_left
              · simp only [Act.put, List.setIfInBounds_toArray, List.set_cons_zero, List.set_cons_succ, i64_w, i32_w]
                rfl
              refine pure_ (i := 5) (N := some 87) (v := ?_) (a' := ?_) #[true, true, true, true, false, true, false, false, false, false, false, false, false] rfl rfl (any_of HT_.out (by kernel_rfl)) (fun _ _ _ h => h) (Or.inl ⟨by rfl, ?_⟩) ?_ ?_
              rotate_left
              · intro w'
                go_simp
                with_reducible rfl
              rotate_left
              · simp only [Act.put, List.setIfInBounds_toArray, List.set_cons_zero, List.set_cons_succ, i64_w, i32_w]
                rfl
              refine pure_ (i := 9) (N := some 91) (v := ?_) (a' := ?_) #[true, true, true, true, false, true, false, false, false, true, false, false, false] rfl rfl (any_of HT_.out (by kernel_rfl)) (fun _ _ _ h => h) (Or.inl ⟨by rfl, ?_⟩) ?_ ?_
              rotate_left
              · intro w'
                go_simp
                with_reducible rfl
              rotate_left
              · simp only [Act.put, List.setIfInBounds_toArray, List.set_cons_zero, List.set_cons_succ, i64_w, i32_w]
                rfl
              refine take_ (i := 4) (N := some 86) (v := ?_) (a' := ?_) #[true, true, true, true, true, true, false, false, false, true, false, false, false] rfl rfl (take_ofW HT_.out HW_.out (by kernel_rfl)) (fun _ _ _ h => h) (Or.inl ⟨by rfl, ?_⟩) hHeld ?_ ?_
              rotate_left
              · rintro w' ⟨s0, s1⟩
                go_simp
                with_reducible rfl
              rotate_left
              · simp only [Act.put, List.setIfInBounds_toArray, List.set_cons_zero, List.set_cons_succ, i64_w, i32_w]
                rfl
              refine pure_ (i := 6) (N := some 88) (v := ?_) (a' := ?_) #[true, true, true, true, true, true, true, false, false, true, false, false, false] rfl rfl (any_of HT_.out (by kernel_rfl)) (fun _ _ _ h => h) (Or.inl ⟨by rfl, ?_⟩) ?_ ?_
              rotate_left
              · intro w'
                go_simp
                with_reducible rfl
              rotate_left
              · simp only [Act.put, List.setIfInBounds_toArray, List.set_cons_zero, List.set_cons_succ, i64_w, i32_w]
                rfl
              refine take_ (i := 7) (N := some 89) (v := ?_) (a' := ?_) #[true, true, true, true, true, true, true, true, false, true, false, false, false] rfl rfl (take_ofW HT_.out HW_.out (by kernel_rfl)) (fun _ _ _ h => h) (Or.inl ⟨by rfl, ?_⟩) hHeld ?_ ?_
              rotate_left
              · rintro w' ⟨s0, s1⟩
                go_simp
                with_reducible rfl
              rotate_left
              · simp only [Act.put, List.setIfInBounds_toArray, List.set_cons_zero, List.set_cons_succ, i64_w, i32_w]
                rfl
              refine pure_ (i := 8) (N := some 90) (v := ?_) (a' := ?_) #[true, true, true, true, true, true, true, true, true, true, false, false, false] rfl rfl (any_of HT_.out (by kernel_rfl)) (fun _ _ _ h => h) (Or.inl ⟨by rfl, ?_⟩) ?_ ?_
              rotate_left
              · intro w'
                go_simp
                with_reducible rfl
              rotate_left
              · simp only [Act.put, List.setIfInBounds_toArray, List.set_cons_zero, List.set_cons_succ, i64_w, i32_w]
                rfl
              refine one_ (i := 10) (N := some 92) #[true, true, true, true, true, true, true, true, true, true, true, false, false] rfl rfl (one_of HT_.out (by kernel_rfl)) (by decide) (fun K hK => ?_)
              refine goes_ Try.func57 (by kernel_rfl) rfl #[.int .i64 (k : Int)] (by rfl) rfl rfl (by simp only [List.map_toArray, List.map_cons, List.map_nil]; rfl) ?_
              with_reducible refine (HMC.out _).mono ?_
              rintro e w9 ⟨rfl, ⟨⟨mq, rfl⟩⟩⟩
              refine ⟨_, rfl, ?_⟩
              refine hK.out _ _ ⟨c0, ck⟩ (fun hHeld => ?_)
              clear hK K
              refine norm_ (a' := ?_) ?_ ?_
              rotate_left
              · show Act.put _ (some 92) _ = _
                simp only [Act.put, List.setIfInBounds_toArray, List.set_cons_zero, List.set_cons_succ, i64_w, i32_w]
                rfl
              refine pure_ (i := 11) (N := some 93) (v := ?_) (a' := ?_) #[true, true, true, true, true, true, true, true, true, true, true, true, false] rfl rfl (any_of HT_.out (by kernel_rfl)) (fun _ _ _ h => h) (Or.inl ⟨by rfl, ?_⟩) ?_ ?_
              rotate_left
              · intro w'
                go_simp
                with_reducible rfl
              rotate_left
              · simp only [Act.put, List.setIfInBounds_toArray, List.set_cons_zero, List.set_cons_succ, i64_w, i32_w]
                rfl
              refine pure_ (i := 12) (N := some 94) (v := ?_) (a' := ?_) #[true, true, true, true, true, true, true, true, true, true, true, true, true] rfl rfl (any_of HT_.out (by kernel_rfl)) (fun _ _ _ h => h) (Or.inl ⟨by rfl, ?_⟩) ?_ ?_
              rotate_left
              · intro w'
                go_simp
                with_reducible rfl
              rotate_left
              · simp only [Act.put, List.setIfInBounds_toArray, List.set_cons_zero, List.set_cons_succ, i64_w, i32_w]
                rfl
              refine done_ (done_of HT_.out (by kernel_rfl)) ?_
              clear hsum hwsum hwNM
              have HXE2 := Aside0.mk (show (wr.drew.drewN mq).ownsRow base 33 6 (.slice A5 n5 c5) n5 (rep mk6 n5 ((k + 1 : Nat) : Int)) from HXE.out)
              have HXG2 := Aside0.mk (show (wr.drew.drewN mq).ownsRow base 33 6 gv (n5 + j) (rep mk6 n5 ((k + 1 : Nat) : Int) ++ rep mk6 j NK) from HXG.out)
              have HFI2 := Aside0.mk (show Frm wk (wr.drew.drewN mq) (fun q => (Value.slice A5 n5 c5).ownBlock = some q) from (HFI.out.drew).drewN mq)
              obtain ⟨w5, hw5⟩ : ∃ w5, w5 = wr.drew.drewN mq := ⟨_, rfl⟩
              rw [← hw5] at HXE2 HXG2 HFI2 ⊢
              clear hw5 c0 ck
              go_wp2_with (with_reducible refine stop_append rfl ?_)
              refine own_append (W := w5) base rfl (.tmp 97) (.tmp 100) 25 33 (.agg #[(.int .i64 0), (.int .i64 0), (.int .i64 0), (.int .i64 0), (.int .i64 0), (.slice none 0 0)]) 6 64 rfl Try.underlying25 info33 rfl (by decide) (by decide) gv (n5 + j) (rep mk6 n5 ((k + 1 : Nat) : Int) ++ rep mk6 j NK) (mk6 NK) rfl rfl rfl (by simp [mk6, Value.oneCell']) HXG2.out (by have := HLB.out.1; have := HFW.out.size; have := HFR.out.size; have := HFI2.out.size; omega) (by omega) ?_
              intro g1 w6 ho6 hg6 hat6
              have hE6 := keep_elder (Y := rep mk6 j NK) (Z := rep mk6 (j + 1) NK) (m1 := n5 + j + 1) (by decide) HXE2.out HXG2.out (by rw [rep_succ, ← List.append_assoc]; exact ho6) (by omega) hg6 (hat6.imp (fun h => h) (fun h => h.2))
              have HXE3 := Aside0.mk hE6
              have HXG3 := Aside0.mk (show w6.ownsRow base 33 6 g1 (n5 + (j + 1)) (rep mk6 n5 ((k + 1 : Nat) : Int) ++ rep mk6 (j + 1) NK) by rw [rep_succ, ← List.append_assoc]; exact ho6)
              have HFI3 := Aside0.mk (HFI2.out.then_ (Frm.of_grown hg6 (S := fun q => gv.ownBlock = some q) (fun q hq => hq)) (fun q hq hlt => (HGB.out q hq).elim (fun h => h) (fun h => by omega)))
              have HGB3 := Aside0.mk (show ∀ q, g1.ownBlock = some q → (Value.slice A5 n5 c5).ownBlock = some q ∨ wk.heap.size ≤ q from fun q hq => by
                rcases hat6 with ⟨b, cap, rfl, rfl⟩ | ⟨⟨b, hb, hlb⟩, _⟩
                · exact HGB.out q hq
                · rw [hb] at hq
                  cases hq
                  exact .inr (Nat.le_trans HFI2.out.size hlb))
              obtain ⟨I1, hI1'⟩ : ∃ I1, I1 = I + 1 := ⟨_, rfl⟩
              have HI1 := Aside0.mk hI1'
              have hII : (I : Int) + 1 = (I1 : Int) := by omega
              clear ho6 hg6 hat6 hE6 HXE HXG HXE2 HXG2 HFI HFI2 HGB hI1'
              go_wp2
              go_roundw
              case rel => exact ⟨j + 1, I1, g1, by omega, rfl, by go_num, ⟨by have := HI.out; have := HI1.out; omega⟩, HFI3, HXE3, HXG3, HGB3⟩
              case measure => have := HI.out; have := HI1.out; simp [intOf]; omega
            · have hjj : j = M := by omega
              have hd3 : decide (I < NM) = false := decide_eq_false (by have := HI.out; have := HNM.out; omega)
              have hd4 : decide ((I : Int) < (NM : Int)) = false := decide_eq_false (by have := HI.out; have := HNM.out; omega)
              obtain ⟨A7, c7, rfl, hc7⟩ := own_form HXG.out
              obtain ⟨L7, hL7⟩ : ∃ L7, L7 = n5 + j := ⟨_, rfl⟩
              have HL7 := Aside0.mk hL7
              rw [← hL7] at HXG HGB ⊢
              clear hc7 hL7
              obtain ⟨hsum, hwsum, hwNM⟩ := HSUM.out
              go_wp2
              refine start_ (n := 13) (S := fun w' => w'.cell? ⟨gb, 2, none⟩ = some (.slice (some ⟨gr, 0, none⟩) N2 ec) ∧ w'.cell? ⟨gr, k, none⟩ = some (.slice A5 n5 c5)) (ds := []) #[false, false, false, false, false, false, false, false, false, false, false, false, false] (by kernel_rfl) rfl rfl ⟨c0, ck⟩ (fun hHeld => ?_)
              refine with_tabW rg52.tab16 rg52.bits16 (fun HT_ HW_ => ?_)
              refine pure_ (i := 0) (N := some 82) (v := ?_) (a' := ?_) #[true, false, false, false, false, false, false, false, false, false, false, false, false] rfl rfl (any_of HT_.out (by kernel_rfl)) (fun _ _ _ h => h) (Or.inl ⟨by rfl, ?_⟩) ?_ ?_
              rotate_left
              · intro w'
                go_simp
                with_reducible rfl
              rotate_left
              · simp only [Act.put, List.setIfInBounds_toArray, List.set_cons_zero, List.set_cons_succ, i64_w, i32_w]
                rfl
              refine pure_ (i := 1) (N := some 83) (v := ?_) (a' := ?_) #[true, true, false, false, false, false, false, false, false, false, false, false, false] rfl rfl (any_of HT_.out (by kernel_rfl)) (fun _ _ _ h => h) (Or.inl ⟨by rfl, ?_⟩) ?_ ?_
              rotate_left
              · intro w'
                go_simp
                with_reducible rfl
              rotate_left
              · simp only [Act.put, List.setIfInBounds_toArray, List.set_cons_zero, List.set_cons_succ, i64_w, i32_w]
                rfl
              refine pure_ (i := 2) (N := some 84) (v := ?_) (a' := ?_) #[true, true, true, false, false, false, false, false, false, false, false, false, false] rfl rfl (any_of HT_.out (by kernel_rfl)) (fun _ _ _ h => h) (Or.inl ⟨by rfl, ?_⟩) ?_ ?_
              rotate_left
              · intro w'
                go_simp
                with_reducible rfl
              rotate_left
              · simp only [Act.put, List.setIfInBounds_toArray, List.set_cons_zero, List.set_cons_succ, i64_w, i32_w]
                rfl
              refine pure_ (i := 3) (N := some 85) (v := ?_) (a' := ?_) #[true, true, true, true, false, false, false, false, false, false, false, false, false] rfl rfl (any_of HT_.out (by kernel_rfl)) (fun _ _ _ h => h) (Or.inl ⟨by rfl, ?_⟩) ?_ ?_
              rotate_left
              · intro w'
                go_simp
                with_reducible rfl
              rotate_left
              · simp only [Act.put, List.setIfInBounds_toArray, List.set_cons_zero, List.set_cons_succ, i64_w, i32_w]
                rfl
              refine pure_ (i := 5) (N := some 87) (v := ?_) (a' := ?_) #[true, true, true, true, false, true, false, false, false, false, false, false, false] rfl rfl (any_of HT_.out (by kernel_rfl)) (fun _ _ _ h => h) (Or.inl ⟨by rfl, ?_⟩) ?_ ?_
              rotate_left
              · intro w'
                go_simp
                with_reducible rfl
              rotate_left
              · simp only [Act.put, List.setIfInBounds_toArray, List.set_cons_zero, List.set_cons_succ, i64_w, i32_w]
                rfl
              refine pure_ (i := 9) (N := some 91) (v := ?_) (a' := ?_) #[true, true, true, true, false, true, false, false, false, true, false, false, false] rfl rfl (any_of HT_.out (by kernel_rfl)) (fun _ _ _ h => h) (Or.inl ⟨by rfl, ?_⟩) ?_ ?_
              rotate_left
              · intro w'
                go_simp
                with_reducible rfl
              rotate_left
              · simp only [Act.put, List.setIfInBounds_toArray, List.set_cons_zero, List.set_cons_succ, i64_w, i32_w]
                rfl
              refine take_ (i := 4) (N := some 86) (v := ?_) (a' := ?_) #[true, true, true, true, true, true, false, false, false, true, false, false, false] rfl rfl (take_ofW HT_.out HW_.out (by kernel_rfl)) (fun _ _ _ h => h) (Or.inl ⟨by rfl, ?_⟩) hHeld ?_ ?_
              rotate_left
              · rintro w' ⟨s0, s1⟩
                go_simp
                with_reducible rfl
              rotate_left
              · simp only [Act.put, List.setIfInBounds_toArray, List.set_cons_zero, List.set_cons_succ, i64_w, i32_w]
                rfl
              refine pure_ (i := 6) (N := some 88) (v := ?_) (a' := ?_) #[true, true, true, true, true, true, true, false, false, true, false, false, false] rfl rfl (any_of HT_.out (by kernel_rfl)) (fun _ _ _ h => h) (Or.inl ⟨by rfl, ?_⟩) ?_ ?_
              rotate_left
              · intro w'
                go_simp
                with_reducible rfl
              rotate_left
              · simp only [Act.put, List.setIfInBounds_toArray, List.set_cons_zero, List.set_cons_succ, i64_w, i32_w]
                rfl
              refine take_ (i := 7) (N := some 89) (v := ?_) (a' := ?_) #[true, true, true, true, true, true, true, true, false, true, false, false, false] rfl rfl (take_ofW HT_.out HW_.out (by kernel_rfl)) (fun _ _ _ h => h) (Or.inl ⟨by rfl, ?_⟩) hHeld ?_ ?_
              rotate_left
              · rintro w' ⟨s0, s1⟩
                go_simp
                with_reducible rfl
              rotate_left
              · simp only [Act.put, List.setIfInBounds_toArray, List.set_cons_zero, List.set_cons_succ, i64_w, i32_w]
                rfl
              refine pure_ (i := 8) (N := some 90) (v := ?_) (a' := ?_) #[true, true, true, true, true, true, true, true, true, true, false, false, false] rfl rfl (any_of HT_.out (by kernel_rfl)) (fun _ _ _ h => h) (Or.inl ⟨by rfl, ?_⟩) ?_ ?_
              rotate_left
              · intro w'
                go_simp
                with_reducible rfl
              rotate_left
              · simp only [Act.put, List.setIfInBounds_toArray, List.set_cons_zero, List.set_cons_succ, i64_w, i32_w]
                rfl
              refine one_ (i := 10) (N := some 92) #[true, true, true, true, true, true, true, true, true, true, true, false, false] rfl rfl (one_of HT_.out (by kernel_rfl)) (by decide) (fun K hK => ?_)
              refine goes_ Try.func57 (by kernel_rfl) rfl #[.int .i64 (k : Int)] (by rfl) rfl rfl (by simp only [List.map_toArray, List.map_cons, List.map_nil]; rfl) ?_
              with_reducible refine (HMC.out _).mono ?_
              rintro e w9 ⟨rfl, ⟨⟨mq, rfl⟩⟩⟩
              refine ⟨_, rfl, ?_⟩
              refine hK.out _ _ ⟨c0, ck⟩ (fun hHeld => ?_)
              clear hK K
              refine norm_ (a' := ?_) ?_ ?_
              rotate_left
              · show Act.put _ (some 92) _ = _
                simp only [Act.put, List.setIfInBounds_toArray, List.set_cons_zero, List.set_cons_succ, i64_w, i32_w]
                rfl
              refine pure_ (i := 11) (N := some 93) (v := ?_) (a' := ?_) #[true, true, true, true, true, true, true, true, true, true, true, true, false] rfl rfl (any_of HT_.out (by kernel_rfl)) (fun _ _ _ h => h) (Or.inl ⟨by rfl, ?_⟩) ?_ ?_
              rotate_left
              · intro w'
                go_simp
                with_reducible rfl
              rotate_left
              · simp only [Act.put, List.setIfInBounds_toArray, List.set_cons_zero, List.set_cons_succ, i64_w, i32_w]
                rfl
              refine pure_ (i := 12) (N := some 94) (v := ?_) (a' := ?_) #[true, true, true, true, true, true, true, true, true, true, true, true, true] rfl rfl (any_of HT_.out (by kernel_rfl)) (fun _ _ _ h => h) (Or.inl ⟨by rfl, ?_⟩) ?_ ?_
              rotate_left
              · intro w'
                go_simp
                with_reducible rfl
              rotate_left
              · simp only [Act.put, List.setIfInBounds_toArray, List.set_cons_zero, List.set_cons_succ, i64_w, i32_w]
                rfl
              refine done_ (done_of HT_.out (by kernel_rfl)) ?_
              clear hsum hwsum hwNM
              have HFI2 := Aside0.mk (show Frm wk (wr.drew.drewN mq) (fun q => (Value.slice A5 n5 c5).ownBlock = some q) from (HFI.out.drew).drewN mq)
              have hkeep5 : ∀ t', t' ≠ 33 → ∀ q, typed wk t' q → (wr.drew.drewN mq).heap[q]? = wk.heap[q]? := fun t' ht' q hq => keep_type HFI2.out HT5.out ht' hq
              have hBK5 := HBK.out.step (W' := wr.drew.drewN mq) (fun q hq => by
                rcases hq with hq | hq | hq
                · exact hkeep5 76 (by decide) q hq
                · exact hkeep5 31 (by decide) q hq
                · exact hkeep5 25 (by decide) q hq)
              have HXE2 := Aside0.mk (show (wr.drew.drewN mq).ownsRow base 33 6 (.slice A5 n5 c5) n5 (rep mk6 n5 ((k + 1 : Nat) : Int)) from HXE.out)
              have HXG2 := Aside0.mk (show (wr.drew.drewN mq).ownsRow base 33 6 (.slice A7 L7 c7) L7 (rep mk6 n5 ((k + 1 : Nat) : Int) ++ rep mk6 j NK) from HXG.out)
              obtain ⟨w5, hw5⟩ : ∃ w5, w5 = wr.drew.drewN mq := ⟨_, rfl⟩
              rw [← hw5] at HXE2 HXG2 HFI2 hBK5 ⊢
              have m1 : w5.cell? ⟨gb, 3, none⟩ = some rm := (blk_cell hBK5.blk 3).trans rfl
              have hfm : ∃ Am cm, rm = .slice Am mo.length cm := by obtain ⟨Am, cm, h, _⟩ := own_form hBK5.x; exact ⟨Am, cm, h⟩
              obtain ⟨Am, cm, hrm⟩ := hfm
              obtain ⟨LM, hLM⟩ : ∃ LM, LM = mo.length := ⟨_, rfl⟩
              rw [← hLM] at hrm
              subst hrm
              have HBK5 := Aside0.mk hBK5
              have HLM := Aside0.mk hLM
              clear hw5 c0 ck hkeep5 hBK5 hLM
              go_wp2_with (with_reducible refine stop_append rfl ?_)
              refine own_append (W := w5) base rfl (.tmp 106) (.tmp 108) 71 25 (.slice none 0 0) 1 24 rfl Try.underlying71 info25 rfl (by decide) (by decide) (.slice Am LM cm) mo.length mo [.slice A7 L7 c7] rfl rfl rfl (by simp [Value.oneCell']) HBK5.out.x (by have := HLB.out.1; have := HFW.out.size; have := HFR.out.size; have := HFI2.out.size; omega) (by have := HMO.out.1; omega) ?_
              intro rn w6 ho6 hg6 hat6
              have hne6 : ∀ q, (Value.slice (some (⟨gr, 0, none⟩ : Addr)) N2 ec).ownBlock = some q → (Value.slice Am LM cm).ownBlock ≠ some q := fun q hq hr => by
                have h1 := HMO.out.2 q hr
                have h2 := (HB2.out.e.lt q hq).2
                omega
              have hBK6 := Book.grow_x HBK5.out hne6 ho6 hg6
              have hb6 := blk_grown76 HBK5.out.blk hg6 (own_type HBK5.out.x) (by decide)
              have m2 : w6.cell? ⟨gb, 3, none⟩ = some (.slice Am LM cm) := (blk_cell hb6 3).trans rfl
              have z2 : w6.frozen? ⟨gb, 3, none⟩ = false := blk_frozen hb6 3
              have hkeep6 : ∀ q, typed w5 33 q → (w6.setCell ⟨gb, 3, none⟩ rn).heap[q]? = w5.heap[q]? := fun q hq => by
                have h1 : q ≠ gb := fun e => absurd (typed_ne hq (e ▸ ⟨_, HBK5.out.blk⟩ : typed w5 76 q)) (by decide)
                obtain ⟨cs, hcs⟩ := hq
                exact (Below.heap_setCell w6 _ _ q h1).trans (hg6.block q (blk_lt hcs) (fun e => absurd (typed_ne ⟨cs, hcs⟩ (own_type HBK5.out.x q e.symm)) (by decide)))
              have hF6 : Frm w5 (w6.setCell ⟨gb, 3, none⟩ rn) (fun q => q = gb ∨ (Value.slice Am LM cm).ownBlock = some q) := Frm.set_ (p := ⟨gb, 3, none⟩) (Frm.of_grown hg6 (S := fun q => q = gb ∨ (Value.slice Am LM cm).ownBlock = some q) (fun q hq => .inr hq)) (.inl (.inl rfl)) _
              have hRnE : ∃ An cn, rn = .slice An (LM + 1) cn := by obtain ⟨An, cn, h, _⟩ := own_form ho6; exact ⟨An, cn, by rw [h, HLM.out]⟩
              have hRnB : ∀ q, rn.ownBlock = some q → wm.heap.size ≤ q := fun q hq => by
                rcases hat6 with ⟨b, cap, h1, rfl⟩ | ⟨⟨b, hb, hlb⟩, _⟩
                · exact HMO.out.2 q (by rw [h1]; exact hq)
                · rw [hb] at hq
                  cases hq
                  exact Nat.le_trans (Nat.le_trans HFR.out.size HFI2.out.size) hlb
              have HRN := Aside0.mk hRnB
              have HBK6 := Aside0.mk hBK6
              have HK6 := Aside0.mk hkeep6
              have HF6 := Aside0.mk hF6
              obtain ⟨An, cn, rfl⟩ := hRnE
              clear ho6 hg6 hat6 hne6 hBK6 hb6 hkeep6 hF6 hRnB m1
              go_wp2
              obtain ⟨w7, hw7⟩ : ∃ w7, w7 = w6.setCell ⟨gb, 3, none⟩ (.slice An (LM + 1) cn) := ⟨_, rfl⟩
              rw [← hw7] at HBK6 HK6 HF6 ⊢
              clear hw7 m2 z2
              have HPAIR := Aside0.mk (show Pair w7 base 33 6 mk6 k (.slice A5 n5 c5) (.slice A7 L7 c7) from ⟨n5, j, hn64, by omega, own_tstep HXE2.out HK6.out, by rw [← HL7.out, ← HK1.out.2]; exact own_tstep HXG2.out HK6.out⟩)
              have hstep : ∀ (i : Nat) (u : Value), ve[i]? = some u → i ≠ k → ∀ q, (u.ownBlock = some q ∨ wm.heap.size ≤ q) → typed wk 33 q → w7.heap[q]? = wk.heap[q]? := fun i u hi hne q hq ht => by
                have h1 : w5.heap[q]? = wk.heap[q]? := by
                  obtain ⟨cs, hcs⟩ := ht
                  refine HFI2.out.block q (blk_lt hcs) (fun h => ?_)
                  rcases hq with hq | hq
                  · exact HD2.out k i _ u HV.out hi (fun e => hne e.symm) q h hq
                  · have h2 := ((HR2.out k _ HV.out).lt q h).2
                    omega
                obtain ⟨cs, hcs⟩ := ht
                exact (HK6.out q ⟨cs, h1.trans hcs⟩).trans h1
              have HPR2 := Aside0.mk (show ∀ (i : Nat) (u u' : Value), ve[i]? = some u → (mo ++ [.slice A7 L7 c7])[i]? = some u' → Pair w7 base 33 6 mk6 i u u' ∧ ∀ q, u'.ownBlock = some q → u.ownBlock = some q ∨ wm.heap.size ≤ q from fun i u u' hi hi' => by
                by_cases hik : i < k
                · rw [List.getElem?_append_left (by rw [HMO.out.1]; exact hik)] at hi'
                  obtain ⟨hp, hq⟩ := HPR.out i u u' hi hi'
                  refine ⟨?_, hq⟩
                  obtain ⟨n9, m9, p1, p2, p3, p4⟩ := hp
                  exact ⟨n9, m9, p1, p2, own_step p3 (fun q h => hstep i u hi (by omega) q (.inl h) (own_type p3 q h)), own_step p4 (fun q h => hstep i u hi (by omega) q (hq q h) (own_type p4 q h))⟩
                · have hlt3 := (List.getElem?_eq_some_iff.1 hi').1
                  rw [List.length_append, List.length_singleton, HMO.out.1] at hlt3
                  have hik2 : i = k := by omega
                  subst hik2
                  rw [List.getElem?_append_right (by rw [HMO.out.1]; exact Nat.le_refl _), HMO.out.1, Nat.sub_self] at hi'
                  cases hi'
                  rw [HV.out] at hi
                  cases hi
                  exact ⟨HPAIR.out, fun q hq => (HGB.out q hq).imp (fun h => h) (fun h => Nat.le_trans HFR.out.size h)⟩)
              have HMK2 := Aside0.mk (show ∀ (i : Nat) (u : Value), ve[i]? = some u → K1 ≤ i → Mkd w7 base 33 6 mk6 i u from fun i u hi hle => by
                have h1 := HMK.out i u hi (by have := HK1.out.1; omega)
                exact h1.step (fun q hq => hstep i u hi (by have := HK1.out.1; omega) q (.inl hq) (h1.type q hq)))
              have HMO2 := Aside0.mk (show (mo ++ [Value.slice A7 L7 c7]).length = K1 ∧ ∀ q, (Value.slice An (LM + 1) cn).ownBlock = some q → wm.heap.size ≤ q from ⟨by rw [List.length_append, List.length_singleton, HMO.out.1]; exact HK1.out.1.symm, HRN.out⟩)
              have HFR2 := Aside0.mk (HFR.out.then_ ((HFI2.out.mono (S1 := fun q => (Value.slice A5 n5 c5).ownBlock = some q ∨ q = gb ∨ (Value.slice Am LM cm).ownBlock = some q) (fun q hq _ => .inl hq)).then_ HF6.out (fun q hq _ => .inr hq)) (fun q hq hlt => by
                rcases hq with hq | hq | hq
                · exact .inr ⟨k, _, HV.out, hq⟩
                · exact .inl hq
                · have := HMO.out.2 q hq
                  omega))
              clear hstep HXE HXG HXE2 HXG2 HPAIR HPR HMK HMO HFR HBK5 HK6 HF6
              go_roundw
              case rel => exact ⟨K1, _, _, by have := HK1.out.1; omega, by go_num, HBK6, HMO2, HPR2, HMK2, HFR2⟩
              case measure => have := HK1.out.1; simp [intOf]; omega
        · have hd1 : decide (k < N2) = false := decide_eq_false hlt
          have hd2 : decide ((k : Int) < (N2 : Int)) = false := decide_eq_false (by omega)
          obtain rfl : N2 = k := by omega
          go_wp2
          go_end0
          have HT2 : ∀ q, blocks ve q → typed wm 33 q := fun q ⟨j, v, hj, hq⟩ => (HR2.out j v hj).type q hq
          have hf : Frm W wr (fun q => q = gb ∨ blocks vo q ∨ blocks ve q) := (HFW.out.mono (fun q hq _ => hq.imp (fun h => h) (fun h => .inl h))).then_ HFR.out (fun q hq _ => hq.imp (fun h => h) (fun h => .inr h))
          refine ⟨⟨_, rfl⟩, _, _, _, _, HBK.out, HMO1.out.trans HN1.out, HMO.out.1.trans HN2.out, fun j v v' hj hj' => ?_, fun j v v' hj hj' => (HPR.out j v v' hj hj').1, hf⟩
          have hst : ∀ q, typed wm 55 q → wr.heap[q]? = wm.heap[q]? := fun q ht => by
            obtain ⟨cs, hcs⟩ := ht
            refine HFR.out.block q (blk_lt hcs) ?_
            rintro (rfl | h2)
            · exact absurd (typed_ne ⟨cs, hcs⟩ (⟨_, HB2.out.blk⟩ : typed wm 76 q)) (by decide)
            · exact absurd (typed_ne ⟨cs, hcs⟩ (HT2 q h2)) (by decide)
          obtain ⟨n9, m9, p1, p2, p3, p4⟩ := (HPR1.out j v v' hj hj').1
          exact ⟨n9, m9, p1, p2, own_tstep p3 hst, own_tstep p4 hst⟩
end Go.Proofs.Ytcbejpmmlcdhnaa.PW
namespace Go.Proofs.Ytcbejpmmlcdhnaa.PW
open Go.RowKit Go.Proofs.YtcbejpmmlcdhnaaW.PrintWords Go.Proofs.YtcbejpmmlcdhnaaW.PrintLast Go.Proofs.YtcbejpmmlcdhnaaW.PrintMore
set_option linter.unusedVariables false
set_option linter.unusedSimpArgs false

abbrev zero5 : Array Value := #[.int .i64 0, .string ⟨#[]⟩, .string ⟨#[]⟩, .int .i64 0, .int .i64 0]
/-- The book behind grow. -/
structure Grown (W : World) (base gb : Nat) (ro rm re rx : Value) (vo mo ve me : List Value) : Prop where
  b : Book W base gb ro rm re rx vo mo ve me
  lm : mo.length = vo.length
  lx : me.length = ve.length
  lo : vo.length ≤ 12000
  le : ve.length ≤ 12000
  p1 : ∀ (j : Nat) (v v' : Value), vo[j]? = some v → mo[j]? = some v' → Pair W base 55 5 mk5 j v v'
  p2 : ∀ (j : Nat) (v v' : Value), ve[j]? = some v → me[j]? = some v' → Pair W base 33 6 mk6 j v v'
set_option maxHeartbeats 64000000 in
set_option maxRecDepth 100000 in
theorem marks_G {W : World} {base gb : Nat} {ro rm re rx : Value} {vo mo ve me : List Value} (h : Grown W base gb ro rm re rx vo mo ve me) :
    Calls Try.prog 32 #[.pointer (some ⟨gb, 0, none⟩)] W fun r w' => r = .returned (.bool true) ∧ Below W.heap.size W w' := by
  obtain ⟨oA, oc, hroE, _⟩ := own_form h.b.o
  obtain ⟨eA, ec, hreE, _⟩ := own_form h.b.e
  obtain ⟨mA, mc, hrmE, _⟩ := own_form h.b.m
  obtain ⟨xA, xc, hrxE, _⟩ := own_form h.b.x
  obtain ⟨N1, hN1⟩ : ∃ N1, N1 = vo.length := ⟨_, rfl⟩
  obtain ⟨N2, hN2⟩ : ∃ N2, N2 = ve.length := ⟨_, rfl⟩
  rw [← hN1] at hroE
  rw [← hN2] at hreE
  rw [h.lm, ← hN1] at hrmE
  rw [h.lx, ← hN2] at hrxE
  subst hroE
  subst hreE
  subst hrmE
  subst hrxE
  have HB := Aside0.mk h.b
  have HN1 := Aside0.mk hN1
  have HN2 := Aside0.mk hN2
  have HL1 := Aside0.mk h.lm
  have HL2 := Aside0.mk h.lx
  have HP1 := Aside0.mk h.p1
  have HP2 := Aside0.mk h.p2
  have HLEN1 := Aside0.mk (show N1 ≤ 12000 by rw [hN1]; exact h.lo)
  have HLEN2 := Aside0.mk (show N2 ≤ 12000 by rw [hN2]; exact h.le)
  have HS1 := Aside0.mk (Below.refl W.heap.size W)
  clear h hN1 hN2
  go_enter Try.func32, Try.ntmps32
  go_wp2
  go_loopw [3, 4, 5, 6, 7] (fun v3 v4 v5 v6 v7 wr => ∃ k : Nat, k ≤ N1 ∧ v3 = .bool true ∧ v4 = .int .i64 (k : Int) ∧ Aside0 (Below W.heap.size W wr)) (fun _ v4 _ _ _ _ => N1 + 1 - (intOf v4).toNat)
  case atStart => exact ⟨0, Nat.zero_le _, rfl, rfl, HS1⟩
  case round =>
    obtain ⟨k, hk, rfl, rfl, HW⟩ := hrel
    have c0 : wr.cell? ⟨gb, 0, none⟩ = some (.slice oA N1 oc) := pw_cell_below HW.out ((blk_cell HB.out.blk 0).trans rfl)
    by_cases hlt : k < N1
    · have hd1 : decide (k < N1) = true := decide_eq_true hlt
      have hd2 : decide ((k : Int) < (N1 : Int)) = true := decide_eq_true (by omega)
      have hown := HB.out.o
      rw [← HN1.out] at hown
      obtain ⟨gr, cr, cur, hrow, _, _, _, _⟩ := own_some hown (by omega)
      injection hrow with hA _ hc
      have hAe : oA = some ⟨gr, 0, none⟩ := hA
      have hownm := HB.out.m
      rw [HL1.out, ← HN1.out] at hownm
      obtain ⟨gm, cm, curm, hrowm, _, _, _, _⟩ := own_some hownm (by omega)
      injection hrowm with hAm _ hcm
      have hAme : mA = some ⟨gm, 0, none⟩ := hAm
      have hkv : k < vo.length := by rw [← HN1.out]; exact hlt
      have hkm : k < mo.length := by rw [HL1.out]; exact hkv
      obtain ⟨v, hv⟩ : ∃ v, vo[k]? = some v := ⟨_, List.getElem?_eq_getElem hkv⟩
      obtain ⟨v', hv'⟩ : ∃ v', mo[k]? = some v' := ⟨_, List.getElem?_eq_getElem hkm⟩
      rw [hAe] at hown
      rw [hAme] at hownm
      obtain ⟨n5, m5, hn64, hm96, hX, hX'⟩ := HP1.out k v v' hv hv'
      obtain ⟨A5, c5, rfl, hc5⟩ := own_form hX
      obtain ⟨A7, c7, rfl, hc7⟩ := own_form hX'
      obtain ⟨n7, hn7⟩ : ∃ n7, n7 = n5 + m5 := ⟨_, rfl⟩
      rw [← hn7] at hX' hv'
      have HCK := Aside0.mk (show W.cell? ⟨gr, k, none⟩ = some (.slice A5 n5 c5) from own_cell hown hv)
      have HCM := Aside0.mk (show W.cell? ⟨gm, k, none⟩ = some (.slice A7 n7 c7) from own_cell hownm hv')
      obtain ⟨K1, hK1⟩ : ∃ K1, K1 = k + 1 := ⟨_, rfl⟩
      obtain ⟨NK, hNK⟩ : ∃ NK : Int, NK = -((k + 1 : Nat) : Int) := ⟨_, rfl⟩
      have hkb : K1 ≤ 12001 := by have := HLEN1.out; omega
      have HM := Aside0.mk (show wrap64 (-(k : Int)) = -(k : Int) ∧ -(k : Int) - 1 = NK ∧ wrap64 NK = NK from ⟨by unfold wrap64; omega, by omega, by unfold wrap64; omega⟩)
      rw [← hNK] at hX'
      rw [← hK1] at hX hX'
      have HX := Aside0.mk hX
      have HX' := Aside0.mk hX'
      have HK1 := Aside0.mk hK1
      have HN7 := Aside0.mk hn7
      have hkk1 : (k : Int) + 1 = (K1 : Int) := by omega
      obtain rfl := hAe
      obtain rfl := hAme
      clear hown hownm hkv hkm hv hv' hX hX' hc5 hc7 hK1 hNK hn7
      go_wp2
      obtain ⟨wo, hwo⟩ : ∃ wo, wo = wr := ⟨_, rfl⟩
      clear c0
      have HW0 := HW
      go_loopw [3, 5, 6, 7] (fun v3 v5 v6 v7 wr => ∃ i : Nat, i ≤ n7 ∧ v3 = .bool true ∧ v5 = .int .i64 (i : Int) ∧ Aside0 (Below W.heap.size W wr)) (fun _ v5 _ _ _ => n7 + 1 - (intOf v5).toNat)
      case atStart => exact ⟨0, Nat.zero_le _, rfl, rfl, HW0⟩
      case round =>
        obtain ⟨i, hi, rfl, rfl, HW⟩ := hrel
        have c0 : wr.cell? ⟨gb, 0, none⟩ = some (.slice (some ⟨gr, 0, none⟩) N1 oc) := pw_cell_below HW.out ((blk_cell HB.out.blk 0).trans rfl)
        have c1 : wr.cell? ⟨gb, 1, none⟩ = some (.slice (some ⟨gm, 0, none⟩) N1 mc) := pw_cell_below HW.out ((blk_cell HB.out.blk 1).trans rfl)
        have ck : wr.cell? ⟨gr, k, none⟩ = some (.slice A5 n5 c5) := pw_cell_below HW.out HCK.out
        have cm : wr.cell? ⟨gm, k, none⟩ = some (.slice A7 n7 c7) := pw_cell_below HW.out HCM.out
        by_cases hin : i < n7
        · have hd3 : decide (i < n7) = true := decide_eq_true hin
          have hd4 : decide ((i : Int) < (n7 : Int)) = true := decide_eq_true (by omega)
          obtain ⟨g7, c8, cur7, hrow7, _, _, _, _⟩ := own_some HX'.out (by omega)
          injection hrow7 with hA7 _ hc8
          obtain rfl := hA7
          by_cases hi5 : i < n5
          · have hd5 : decide (n5 ≤ i) = false := decide_eq_false (by omega)
            have hd6 : decide ((n5 : Int) ≤ (i : Int)) = false := decide_eq_false (by omega)
            have hd7 : decide (i < n5) = true := decide_eq_true hi5
            have hd8 : decide ((i : Int) < (n5 : Int)) = true := decide_eq_true (by omega)
            obtain ⟨g5, c6, cur5, hrow5, _, _, _, _⟩ := own_some HX.out (by omega)
            injection hrow5 with hA5 _ hc6
            obtain rfl := hA5
            have hE7 : ∀ j, j < 5 → ∀ u, (mk5 (K1 : Int))[j]? = some u → W.cell? ⟨g7, i * 5 + j, none⟩ = some u := fun j hj u hu => own_cell HX'.out (by
              have h1 := (rep_get (mk := mk5) (m := (K1 : Int)) (sz := 5) (fun m => rfl) hi5 hj).trans hu
              rw [List.getElem?_append_left (List.getElem?_eq_some_iff.1 h1).1]
              exact h1)
            have hE5 : ∀ j, j < 5 → ∀ u, (mk5 (K1 : Int))[j]? = some u → W.cell? ⟨g5, i * 5 + j, none⟩ = some u := fun j hj u hu => own_cell HX.out ((rep_get (mk := mk5) (m := (K1 : Int)) (sz := 5) (fun m => rfl) hi5 hj).trans hu)
            have HE5 := Aside0.mk hE5
            have e0 : wr.cell? ⟨g7, i * 5, none⟩ = some (.int .i64 (K1 : Int)) := pw_cell_below HW.out (hE7 0 (by omega) _ rfl)
            have e1 : wr.cell? ⟨g7, i * 5 + 1, none⟩ = some (.string ⟨#[]⟩) := pw_cell_below HW.out (hE7 1 (by omega) _ rfl)
            have e2 : wr.cell? ⟨g7, i * 5 + 2, none⟩ = some (.string ⟨#[]⟩) := pw_cell_below HW.out (hE7 2 (by omega) _ rfl)
            have e3 : wr.cell? ⟨g7, i * 5 + 3, none⟩ = some (.int .i64 0) := pw_cell_below HW.out (hE7 3 (by omega) _ rfl)
            have e4 : wr.cell? ⟨g7, i * 5 + 4, none⟩ = some (.int .i64 0) := pw_cell_below HW.out (hE7 4 (by omega) _ rfl)
            clear hE7 hE5
            have HNEW := Aside0.mk (heap_alloc_new wr (.cells zero5 55))
            go_wp2_with (with_reducible refine stop_store rfl ?_)
            refine wpList_store rfl rfl 55 (.tmp 7) (.tmp 57) rfl (.agg (mk5 (K1 : Int)).toArray) (mk5 (K1 : Int)) rfl rfl HNEW.out rfl size55 (by show 0 + 5 ≤ 5; omega) (by simp [mk5, Value.oneCell']) ?_
            rw [alloc_full (w := wr) (cur := zero5) (e := 55) (mk5 (K1 : Int)) rfl]
            have hbx : (wr.alloc (.cells (mk5 (K1 : Int)).toArray 55)).heap[wr.heap.size]? = some (.cells (mk5 (K1 : Int)).toArray 55) := heap_alloc_new wr _
            have HW3 := Aside0.mk (show Below W.heap.size W (wr.alloc (.cells (mk5 (K1 : Int)).toArray 55)) from below_alloc HW.out _)
            have HGX := Aside0.mk HW.out.size
            obtain ⟨gx, hgx⟩ : ∃ gx, gx = wr.heap.size := ⟨_, rfl⟩
            rw [← hgx] at hbx HGX ⊢
            clear HNEW hgx
            obtain ⟨w3, hw3⟩ : ∃ w3, w3 = wr.alloc (.cells (mk5 (K1 : Int)).toArray 55) := ⟨_, rfl⟩
            rw [← hw3] at hbx HW3 ⊢
            clear hw3
            have q0 : w3.cell? ⟨gx, 0, none⟩ = some (.int .i64 (K1 : Int)) := (blk_cell hbx 0).trans rfl
            have c0 : w3.cell? ⟨gb, 0, none⟩ = some (.slice (some ⟨gr, 0, none⟩) N1 oc) := pw_cell_below HW3.out ((blk_cell HB.out.blk 0).trans rfl)
            have ck : w3.cell? ⟨gr, k, none⟩ = some (.slice (some ⟨g5, 0, none⟩) n5 c5) := pw_cell_below HW3.out HCK.out
            have f0 : w3.cell? ⟨g5, i * 5, none⟩ = some (.int .i64 (K1 : Int)) := pw_cell_below HW3.out (HE5.out 0 (by omega) _ rfl)
            have f1 : w3.cell? ⟨g5, i * 5 + 1, none⟩ = some (.string ⟨#[]⟩) := pw_cell_below HW3.out (HE5.out 1 (by omega) _ rfl)
            have f2 : w3.cell? ⟨g5, i * 5 + 2, none⟩ = some (.string ⟨#[]⟩) := pw_cell_below HW3.out (HE5.out 2 (by omega) _ rfl)
            have f3 : w3.cell? ⟨g5, i * 5 + 3, none⟩ = some (.int .i64 0) := pw_cell_below HW3.out (HE5.out 3 (by omega) _ rfl)
            have f4 : w3.cell? ⟨g5, i * 5 + 4, none⟩ = some (.int .i64 0) := pw_cell_below HW3.out (HE5.out 4 (by omega) _ rfl)
            have HBX := Aside0.mk hbx
            have hkkk : ((K1 : Int) == (K1 : Int)) = true := by simp
            clear hbx
            go_wp2_with (with_reducible refine stop_store rfl ?_)
            refine wpList_store rfl rfl 55 (.tmp 7) (.tmp 84) rfl (g := gx) (.agg (mk5 (K1 : Int)).toArray) (mk5 (K1 : Int)) rfl rfl HBX.out rfl size55 (by show 0 + 5 ≤ 5; omega) (by simp [mk5, Value.oneCell']) ?_
            have hbx := blk_full (mk5 (K1 : Int)) HBX.out rfl
            have HW4 := Aside0.mk (show Below W.heap.size W (w3.setCells gx 0 (mk5 (K1 : Int))) from Frm.below (Frm.setCells (Frm.of_below HW3.out (fun k => W.heap.size ≤ k)) (g := gx) (.inl HGX.out) 0 (mk5 (K1 : Int))) (fun k hk _ => hk) (Nat.le_refl _))
            obtain ⟨w4, hw4⟩ : ∃ w4, w4 = w3.setCells gx 0 (mk5 (K1 : Int)) := ⟨_, rfl⟩
            rw [← hw4] at hbx HW4 ⊢
            clear hw4 f0 f1 f2 f3 f4 c0 ck q0
            have q0 : w4.cell? ⟨gx, 0, none⟩ = some (.int .i64 (K1 : Int)) := (blk_cell hbx 0).trans rfl
            clear hbx
            go_wp2
            go_roundw
            case rel => exact ⟨i + 1, by omega, rfl, by go_num, HW4⟩
            case measure => simp [intOf]; omega
          · have hib : i ≤ 300 := by have := HN7.out; omega
            have hd5 : decide (n5 ≤ i) = true := decide_eq_true (by omega)
            have hd6 : decide ((n5 : Int) ≤ (i : Int)) = true := decide_eq_true (by omega)
            have hd7 : decide (i < n5) = false := decide_eq_false hi5
            have hd8 : decide ((i : Int) < (n5 : Int)) = false := decide_eq_false (by omega)
            have hE7 : ∀ j, j < 5 → ∀ u, (mk5 NK)[j]? = some u → W.cell? ⟨g7, i * 5 + j, none⟩ = some u := fun j hj u hu => own_cell HX'.out (by
              have hl : (rep mk5 n5 (K1 : Int)).length = n5 * 5 := rep_len (fun m => rfl)
              have h1 := (rep_get (mk := mk5) (n := m5) (m := NK) (sz := 5) (i := i - n5) (fun m => rfl) (by have := HN7.out; omega) hj).trans hu
              have h2 : n5 * 5 ≤ i * 5 := Nat.mul_le_mul_right _ (by omega)
              rw [List.getElem?_append_right (by rw [hl]; omega), hl, show i * 5 + j - n5 * 5 = (i - n5) * 5 + j by rw [Nat.sub_mul]; omega]
              exact h1)
            have e0 : wr.cell? ⟨g7, i * 5, none⟩ = some (.int .i64 NK) := pw_cell_below HW.out (hE7 0 (by omega) _ rfl)
            have e1 : wr.cell? ⟨g7, i * 5 + 1, none⟩ = some (.string ⟨#[]⟩) := pw_cell_below HW.out (hE7 1 (by omega) _ rfl)
            have e2 : wr.cell? ⟨g7, i * 5 + 2, none⟩ = some (.string ⟨#[]⟩) := pw_cell_below HW.out (hE7 2 (by omega) _ rfl)
            have e3 : wr.cell? ⟨g7, i * 5 + 3, none⟩ = some (.int .i64 0) := pw_cell_below HW.out (hE7 3 (by omega) _ rfl)
            have e4 : wr.cell? ⟨g7, i * 5 + 4, none⟩ = some (.int .i64 0) := pw_cell_below HW.out (hE7 4 (by omega) _ rfl)
            clear hE7
            obtain ⟨hm1, hm2, hm3⟩ := HM.out
            have HNEW := Aside0.mk (heap_alloc_new wr (.cells zero5 55))
            go_wp2_with (with_reducible refine stop_store rfl ?_)
            refine wpList_store rfl rfl 55 (.tmp 7) (.tmp 57) rfl (.agg (mk5 NK).toArray) (mk5 NK) rfl rfl HNEW.out rfl size55 (by show 0 + 5 ≤ 5; omega) (by simp [mk5, Value.oneCell']) ?_
            rw [alloc_full (w := wr) (cur := zero5) (e := 55) (mk5 NK) rfl]
            have hbx : (wr.alloc (.cells (mk5 NK).toArray 55)).heap[wr.heap.size]? = some (.cells (mk5 NK).toArray 55) := heap_alloc_new wr _
            have HW3 := Aside0.mk (show Below W.heap.size W (wr.alloc (.cells (mk5 NK).toArray 55)) from below_alloc HW.out _)
            have HGX := Aside0.mk HW.out.size
            obtain ⟨gx, hgx⟩ : ∃ gx, gx = wr.heap.size := ⟨_, rfl⟩
            rw [← hgx] at hbx HGX ⊢
            clear HNEW hgx
            obtain ⟨w3, hw3⟩ : ∃ w3, w3 = wr.alloc (.cells (mk5 NK).toArray 55) := ⟨_, rfl⟩
            rw [← hw3] at hbx HW3 ⊢
            clear hw3
            have q0 : w3.cell? ⟨gx, 0, none⟩ = some (.int .i64 NK) := (blk_cell hbx 0).trans rfl
            have c0 : w3.cell? ⟨gb, 0, none⟩ = some (.slice (some ⟨gr, 0, none⟩) N1 oc) := pw_cell_below HW3.out ((blk_cell HB.out.blk 0).trans rfl)
            have ck : w3.cell? ⟨gr, k, none⟩ = some (.slice A5 n5 c5) := pw_cell_below HW3.out HCK.out
            have hkkk : (NK == NK) = true := by simp
            clear hbx hm1 hm2 hm3
            go_wp2
            go_roundw
            case rel => exact ⟨i + 1, by omega, rfl, by go_num, HW3⟩
            case measure => simp [intOf]; omega
        · have hd3 : decide (i < n7) = false := decide_eq_false hin
          have hd4 : decide ((i : Int) < (n7 : Int)) = false := decide_eq_false (by omega)
          go_wp2
          go_roundw
          case rel => exact ⟨K1, by have := HK1.out; omega, rfl, by go_num, HW⟩
          case measure => have := HK1.out; simp [intOf]; omega
    · have hd1 : decide (k < N1) = false := decide_eq_false hlt
      have hd2 : decide ((k : Int) < (N1 : Int)) = false := decide_eq_false (by omega)
      obtain rfl : N1 = k := by omega
      have HS2 := HW
      go_wp2
      go_loopw [3, 8, 9, 10, 11] (fun v3 v8 v9 v10 v11 wr => ∃ k : Nat, k ≤ N2 ∧ v3 = .bool true ∧ v8 = .int .i64 (k : Int) ∧ Aside0 (Below W.heap.size W wr)) (fun _ v8 _ _ _ _ => N2 + 1 - (intOf v8).toNat)
      case atStart => exact ⟨0, Nat.zero_le _, rfl, rfl, HS2⟩
      case round =>
        obtain ⟨k, hk, rfl, rfl, HW⟩ := hrel
        have c0 : wr.cell? ⟨gb, 2, none⟩ = some (.slice eA N2 ec) := pw_cell_below HW.out ((blk_cell HB.out.blk 2).trans rfl)
        by_cases hlt : k < N2
        · have hd1 : decide (k < N2) = true := decide_eq_true hlt
          have hd2 : decide ((k : Int) < (N2 : Int)) = true := decide_eq_true (by omega)
          have hown := HB.out.e
          rw [← HN2.out] at hown
          obtain ⟨gr, cr, cur, hrow, _, _, _, _⟩ := own_some hown (by omega)
          injection hrow with hA _ hc
          have hAe : eA = some ⟨gr, 0, none⟩ := hA
          have hownm := HB.out.x
          rw [HL2.out, ← HN2.out] at hownm
          obtain ⟨gm, cm, curm, hrowm, _, _, _, _⟩ := own_some hownm (by omega)
          injection hrowm with hAm _ hcm
          have hAme : xA = some ⟨gm, 0, none⟩ := hAm
          have hkv : k < ve.length := by rw [← HN2.out]; exact hlt
          have hkm : k < me.length := by rw [HL2.out]; exact hkv
          obtain ⟨v, hv⟩ : ∃ v, ve[k]? = some v := ⟨_, List.getElem?_eq_getElem hkv⟩
          obtain ⟨v', hv'⟩ : ∃ v', me[k]? = some v' := ⟨_, List.getElem?_eq_getElem hkm⟩
          rw [hAe] at hown
          rw [hAme] at hownm
          obtain ⟨n5, m5, hn64, hm96, hX, hX'⟩ := HP2.out k v v' hv hv'
          obtain ⟨A5, c5, rfl, hc5⟩ := own_form hX
          obtain ⟨A7, c7, rfl, hc7⟩ := own_form hX'
          obtain ⟨n7, hn7⟩ : ∃ n7, n7 = n5 + m5 := ⟨_, rfl⟩
          rw [← hn7] at hX' hv'
          have HCK := Aside0.mk (show W.cell? ⟨gr, k, none⟩ = some (.slice A5 n5 c5) from own_cell hown hv)
          have HCM := Aside0.mk (show W.cell? ⟨gm, k, none⟩ = some (.slice A7 n7 c7) from own_cell hownm hv')
          obtain ⟨K1, hK1⟩ : ∃ K1, K1 = k + 1 := ⟨_, rfl⟩
          obtain ⟨NK, hNK⟩ : ∃ NK : Int, NK = -((k + 1 : Nat) : Int) := ⟨_, rfl⟩
          have hkb : K1 ≤ 12001 := by have := HLEN2.out; omega
          have HM := Aside0.mk (show wrap64 (-(k : Int)) = -(k : Int) ∧ -(k : Int) - 1 = NK ∧ wrap64 NK = NK from ⟨by unfold wrap64; omega, by omega, by unfold wrap64; omega⟩)
          rw [← hNK] at hX'
          rw [← hK1] at hX hX'
          have HX := Aside0.mk hX
          have HX' := Aside0.mk hX'
          have HK1 := Aside0.mk hK1
          have HN7 := Aside0.mk hn7
          have hkk1 : (k : Int) + 1 = (K1 : Int) := by omega
          obtain rfl := hAe
          obtain rfl := hAme
          clear hown hownm hkv hkm hv hv' hX hX' hc5 hc7 hK1 hNK hn7
          go_wp2
          obtain ⟨wo, hwo⟩ : ∃ wo, wo = wr := ⟨_, rfl⟩
          clear c0
          have HW0 := HW
          go_loopw [3, 9, 10, 11] (fun v3 v9 v10 v11 wr => ∃ i : Nat, i ≤ n7 ∧ v3 = .bool true ∧ v9 = .int .i64 (i : Int) ∧ Aside0 (Below W.heap.size W wr)) (fun _ v9 _ _ _ => n7 + 1 - (intOf v9).toNat)
          case atStart => exact ⟨0, Nat.zero_le _, rfl, rfl, HW0⟩
          case round =>
            obtain ⟨i, hi, rfl, rfl, HW⟩ := hrel
            have c0 : wr.cell? ⟨gb, 2, none⟩ = some (.slice (some ⟨gr, 0, none⟩) N2 ec) := pw_cell_below HW.out ((blk_cell HB.out.blk 2).trans rfl)
            have c1 : wr.cell? ⟨gb, 3, none⟩ = some (.slice (some ⟨gm, 0, none⟩) N2 xc) := pw_cell_below HW.out ((blk_cell HB.out.blk 3).trans rfl)
            have ck : wr.cell? ⟨gr, k, none⟩ = some (.slice A5 n5 c5) := pw_cell_below HW.out HCK.out
            have cm : wr.cell? ⟨gm, k, none⟩ = some (.slice A7 n7 c7) := pw_cell_below HW.out HCM.out
            by_cases hin : i < n7
            · have hd3 : decide (i < n7) = true := decide_eq_true hin
              have hd4 : decide ((i : Int) < (n7 : Int)) = true := decide_eq_true (by omega)
              obtain ⟨g7, c8, cur7, hrow7, _, _, _, _⟩ := own_some HX'.out (by omega)
              injection hrow7 with hA7 _ hc8
              obtain rfl := hA7
              by_cases hi5 : i < n5
              · have hd5 : decide (n5 ≤ i) = false := decide_eq_false (by omega)
                have hd6 : decide ((n5 : Int) ≤ (i : Int)) = false := decide_eq_false (by omega)
                have hd7 : decide (i < n5) = true := decide_eq_true hi5
                have hd8 : decide ((i : Int) < (n5 : Int)) = true := decide_eq_true (by omega)
                obtain ⟨g5, c6, cur5, hrow5, _, _, _, _⟩ := own_some HX.out (by omega)
                injection hrow5 with hA5 _ hc6
                obtain rfl := hA5
                have hE7 : ∀ j, j < 6 → ∀ u, (mk6 (K1 : Int))[j]? = some u → W.cell? ⟨g7, i * 6 + j, none⟩ = some u := fun j hj u hu => own_cell HX'.out (by
                  have h1 := (rep_get (mk := mk6) (m := (K1 : Int)) (sz := 6) (fun m => rfl) hi5 hj).trans hu
                  rw [List.getElem?_append_left (List.getElem?_eq_some_iff.1 h1).1]
                  exact h1)
                have hE5 : ∀ j, j < 6 → ∀ u, (mk6 (K1 : Int))[j]? = some u → W.cell? ⟨g5, i * 6 + j, none⟩ = some u := fun j hj u hu => own_cell HX.out ((rep_get (mk := mk6) (m := (K1 : Int)) (sz := 6) (fun m => rfl) hi5 hj).trans hu)
                have HE5 := Aside0.mk hE5
                have e0 : wr.cell? ⟨g7, i * 6, none⟩ = some (.int .i64 (K1 : Int)) := pw_cell_below HW.out (hE7 0 (by omega) _ rfl)
                have e1 : wr.cell? ⟨g7, i * 6 + 1, none⟩ = some (.int .i64 0) := pw_cell_below HW.out (hE7 1 (by omega) _ rfl)
                have e2 : wr.cell? ⟨g7, i * 6 + 2, none⟩ = some (.int .i64 0) := pw_cell_below HW.out (hE7 2 (by omega) _ rfl)
                have e3 : wr.cell? ⟨g7, i * 6 + 3, none⟩ = some (.int .i64 0) := pw_cell_below HW.out (hE7 3 (by omega) _ rfl)
                have e4 : wr.cell? ⟨g7, i * 6 + 4, none⟩ = some (.int .i64 0) := pw_cell_below HW.out (hE7 4 (by omega) _ rfl)
                have e5 : wr.cell? ⟨g7, i * 6 + 5, none⟩ = some (.slice none 0 0) := pw_cell_below HW.out (hE7 5 (by omega) _ rfl)
                clear hE7 hE5
                have HNEW := Aside0.mk (heap_alloc_new wr (.cells zeroCells 33))
                go_wp2_with (with_reducible refine stop_store rfl ?_)
                refine wpList_store rfl rfl 33 (.tmp 11) (.tmp 137) rfl (.agg (mk6 (K1 : Int)).toArray) (mk6 (K1 : Int)) rfl rfl HNEW.out rfl size33 (by show 0 + 6 ≤ 6; omega) (by simp [mk6, Value.oneCell']) ?_
                rw [alloc_full (w := wr) (cur := zeroCells) (e := 33) (mk6 (K1 : Int)) rfl]
                have hbx : (wr.alloc (.cells (mk6 (K1 : Int)).toArray 33)).heap[wr.heap.size]? = some (.cells (mk6 (K1 : Int)).toArray 33) := heap_alloc_new wr _
                have HW3 := Aside0.mk (show Below W.heap.size W (wr.alloc (.cells (mk6 (K1 : Int)).toArray 33)) from below_alloc HW.out _)
                have HGX := Aside0.mk HW.out.size
                obtain ⟨gx, hgx⟩ : ∃ gx, gx = wr.heap.size := ⟨_, rfl⟩
                rw [← hgx] at hbx HGX ⊢
                clear HNEW hgx
                obtain ⟨w3, hw3⟩ : ∃ w3, w3 = wr.alloc (.cells (mk6 (K1 : Int)).toArray 33) := ⟨_, rfl⟩
                rw [← hw3] at hbx HW3 ⊢
                clear hw3
                have q0 : w3.cell? ⟨gx, 0, none⟩ = some (.int .i64 (K1 : Int)) := (blk_cell hbx 0).trans rfl
                have q5 : w3.cell? ⟨gx, 5, none⟩ = some (.slice none 0 0) := (blk_cell hbx 5).trans rfl
                have c0 : w3.cell? ⟨gb, 2, none⟩ = some (.slice (some ⟨gr, 0, none⟩) N2 ec) := pw_cell_below HW3.out ((blk_cell HB.out.blk 2).trans rfl)
                have ck : w3.cell? ⟨gr, k, none⟩ = some (.slice (some ⟨g5, 0, none⟩) n5 c5) := pw_cell_below HW3.out HCK.out
                have f0 : w3.cell? ⟨g5, i * 6, none⟩ = some (.int .i64 (K1 : Int)) := pw_cell_below HW3.out (HE5.out 0 (by omega) _ rfl)
                have f1 : w3.cell? ⟨g5, i * 6 + 1, none⟩ = some (.int .i64 0) := pw_cell_below HW3.out (HE5.out 1 (by omega) _ rfl)
                have f2 : w3.cell? ⟨g5, i * 6 + 2, none⟩ = some (.int .i64 0) := pw_cell_below HW3.out (HE5.out 2 (by omega) _ rfl)
                have f3 : w3.cell? ⟨g5, i * 6 + 3, none⟩ = some (.int .i64 0) := pw_cell_below HW3.out (HE5.out 3 (by omega) _ rfl)
                have f4 : w3.cell? ⟨g5, i * 6 + 4, none⟩ = some (.int .i64 0) := pw_cell_below HW3.out (HE5.out 4 (by omega) _ rfl)
                have f5 : w3.cell? ⟨g5, i * 6 + 5, none⟩ = some (.slice none 0 0) := pw_cell_below HW3.out (HE5.out 5 (by omega) _ rfl)
                have HBX := Aside0.mk hbx
                have hkkk : ((K1 : Int) == (K1 : Int)) = true := by simp
                clear hbx
                go_wp2_with (with_reducible refine stop_store rfl ?_)
                refine wpList_store rfl rfl 33 (.tmp 11) (.tmp 170) rfl (g := gx) (.agg (mk6 (K1 : Int)).toArray) (mk6 (K1 : Int)) rfl rfl HBX.out rfl size33 (by show 0 + 6 ≤ 6; omega) (by simp [mk6, Value.oneCell']) ?_
                have hbx := blk_full (mk6 (K1 : Int)) HBX.out rfl
                have HW4 := Aside0.mk (show Below W.heap.size W (w3.setCells gx 0 (mk6 (K1 : Int))) from Frm.below (Frm.setCells (Frm.of_below HW3.out (fun k => W.heap.size ≤ k)) (g := gx) (.inl HGX.out) 0 (mk6 (K1 : Int))) (fun k hk _ => hk) (Nat.le_refl _))
                obtain ⟨w4, hw4⟩ : ∃ w4, w4 = w3.setCells gx 0 (mk6 (K1 : Int)) := ⟨_, rfl⟩
                rw [← hw4] at hbx HW4 ⊢
                clear hw4 f0 f1 f2 f3 f4 f5 c0 ck q0 q5
                have q0 : w4.cell? ⟨gx, 0, none⟩ = some (.int .i64 (K1 : Int)) := (blk_cell hbx 0).trans rfl
                have q5 : w4.cell? ⟨gx, 5, none⟩ = some (.slice none 0 0) := (blk_cell hbx 5).trans rfl
                clear hbx
                go_wp2
                go_roundw
                case rel => exact ⟨i + 1, by omega, rfl, by go_num, HW4⟩
                case measure => simp [intOf]; omega
              · have hib : i ≤ 300 := by have := HN7.out; omega
                have hd5 : decide (n5 ≤ i) = true := decide_eq_true (by omega)
                have hd6 : decide ((n5 : Int) ≤ (i : Int)) = true := decide_eq_true (by omega)
                have hd7 : decide (i < n5) = false := decide_eq_false hi5
                have hd8 : decide ((i : Int) < (n5 : Int)) = false := decide_eq_false (by omega)
                have hE7 : ∀ j, j < 6 → ∀ u, (mk6 NK)[j]? = some u → W.cell? ⟨g7, i * 6 + j, none⟩ = some u := fun j hj u hu => own_cell HX'.out (by
                  have hl : (rep mk6 n5 (K1 : Int)).length = n5 * 6 := rep_len (fun m => rfl)
                  have h1 := (rep_get (mk := mk6) (n := m5) (m := NK) (sz := 6) (i := i - n5) (fun m => rfl) (by have := HN7.out; omega) hj).trans hu
                  have h2 : n5 * 6 ≤ i * 6 := Nat.mul_le_mul_right _ (by omega)
                  rw [List.getElem?_append_right (by rw [hl]; omega), hl, show i * 6 + j - n5 * 6 = (i - n5) * 6 + j by rw [Nat.sub_mul]; omega]
                  exact h1)
                have e0 : wr.cell? ⟨g7, i * 6, none⟩ = some (.int .i64 NK) := pw_cell_below HW.out (hE7 0 (by omega) _ rfl)
                have e1 : wr.cell? ⟨g7, i * 6 + 1, none⟩ = some (.int .i64 0) := pw_cell_below HW.out (hE7 1 (by omega) _ rfl)
                have e2 : wr.cell? ⟨g7, i * 6 + 2, none⟩ = some (.int .i64 0) := pw_cell_below HW.out (hE7 2 (by omega) _ rfl)
                have e3 : wr.cell? ⟨g7, i * 6 + 3, none⟩ = some (.int .i64 0) := pw_cell_below HW.out (hE7 3 (by omega) _ rfl)
                have e4 : wr.cell? ⟨g7, i * 6 + 4, none⟩ = some (.int .i64 0) := pw_cell_below HW.out (hE7 4 (by omega) _ rfl)
                have e5 : wr.cell? ⟨g7, i * 6 + 5, none⟩ = some (.slice none 0 0) := pw_cell_below HW.out (hE7 5 (by omega) _ rfl)
                clear hE7
                obtain ⟨hm1, hm2, hm3⟩ := HM.out
                have HNEW := Aside0.mk (heap_alloc_new wr (.cells zeroCells 33))
                go_wp2_with (with_reducible refine stop_store rfl ?_)
                refine wpList_store rfl rfl 33 (.tmp 11) (.tmp 137) rfl (.agg (mk6 NK).toArray) (mk6 NK) rfl rfl HNEW.out rfl size33 (by show 0 + 6 ≤ 6; omega) (by simp [mk6, Value.oneCell']) ?_
                rw [alloc_full (w := wr) (cur := zeroCells) (e := 33) (mk6 NK) rfl]
                have hbx : (wr.alloc (.cells (mk6 NK).toArray 33)).heap[wr.heap.size]? = some (.cells (mk6 NK).toArray 33) := heap_alloc_new wr _
                have HW3 := Aside0.mk (show Below W.heap.size W (wr.alloc (.cells (mk6 NK).toArray 33)) from below_alloc HW.out _)
                have HGX := Aside0.mk HW.out.size
                obtain ⟨gx, hgx⟩ : ∃ gx, gx = wr.heap.size := ⟨_, rfl⟩
                rw [← hgx] at hbx HGX ⊢
                clear HNEW hgx
                obtain ⟨w3, hw3⟩ : ∃ w3, w3 = wr.alloc (.cells (mk6 NK).toArray 33) := ⟨_, rfl⟩
                rw [← hw3] at hbx HW3 ⊢
                clear hw3
                have q0 : w3.cell? ⟨gx, 0, none⟩ = some (.int .i64 NK) := (blk_cell hbx 0).trans rfl
                have q5 : w3.cell? ⟨gx, 5, none⟩ = some (.slice none 0 0) := (blk_cell hbx 5).trans rfl
                have c0 : w3.cell? ⟨gb, 2, none⟩ = some (.slice (some ⟨gr, 0, none⟩) N2 ec) := pw_cell_below HW3.out ((blk_cell HB.out.blk 2).trans rfl)
                have ck : w3.cell? ⟨gr, k, none⟩ = some (.slice A5 n5 c5) := pw_cell_below HW3.out HCK.out
                have hkkk : (NK == NK) = true := by simp
                clear hbx hm1 hm2 hm3
                go_wp2
                go_roundw
                case rel => exact ⟨i + 1, by omega, rfl, by go_num, HW3⟩
                case measure => simp [intOf]; omega
            · have hd3 : decide (i < n7) = false := decide_eq_false hin
              have hd4 : decide ((i : Int) < (n7 : Int)) = false := decide_eq_false (by omega)
              go_wp2
              go_roundw
              case rel => exact ⟨K1, by have := HK1.out; omega, rfl, by go_num, HW⟩
              case measure => have := HK1.out; simp [intOf]; omega
        · have hd1 : decide (k < N2) = false := decide_eq_false hlt
          have hd2 : decide ((k : Int) < (N2 : Int)) = false := decide_eq_false (by omega)
          obtain rfl : N2 = k := by omega
          go_wp2
          go_ret
          exact ⟨rfl, HW.out⟩
end Go.Proofs.Ytcbejpmmlcdhnaa.PW
namespace Go.Proofs.Ytcbejpmmlcdhnaa.PW
open Go.RowKit Go.Proofs.YtcbejpmmlcdhnaaW.PrintWords Go.Proofs.YtcbejpmmlcdhnaaW.PrintLast Go.Proofs.YtcbejpmmlcdhnaaW.PrintMore
set_option linter.unusedVariables false
set_option linter.unusedSimpArgs false
def rg29.T4 : Bool × List (List Nat × List Nat) := (true, [([], []), ([], []), ([1], [1]), ([2], [2]), ([3], [3]), ([], []), ([], []), ([5, 6], [5, 6]), ([7], [7]), ([8], [8]), ([9], [9]), ([4, 10], [4, 10]), ([0, 0, 1, 2, 3, 4, 5, 6, 7, 8, 9, 10, 11], [0]), ([12, 0, 1, 2, 3, 4, 5, 6, 7, 8, 9, 10, 11], [12]), ([13, 11, 11, 0, 1, 2, 3, 4, 5, 6, 7, 8, 9, 10, 11], [11, 13])])
def rg29.B4 : List Nat := [0, 0, 2, 6, 14, 0, 0, 96, 224, 480, 992, 2046, 4095, 8191, 16383]
theorem rg29.tab4 : rtab .any (opsOf Try.f29 4) = rg29.T4 := by kernel_rfl
theorem rg29.bits4 : waitsOk rg29.T4.2 rg29.B4 = true := by kernel_rfl

theorem size74 : (Try.prog.info? 74).map (·.size) = some 1 := by kernel_rfl
set_option maxHeartbeats 8000000 in
set_option maxRecDepth 100000 in
theorem apart_B {W : World} {base gb : Nat} {ro re : Value} {vo ve : List Value} (h : Book W base gb ro (.slice none 0 0) re (.slice none 0 0) vo [] ve []) (hro : ∀ (j : Nat) (v : Value), vo[j]? = some v → Raw W base 55 5 v) (hre : ∀ (j : Nat) (v : Value), ve[j]? = some v → Raw W base 33 6 v) (hdo : Dist vo) (hde : Dist ve) (hlo : vo.length ≤ 12000) (hle : ve.length ≤ 12000) (hbase : base ≤ W.heap.size) :
    Calls Try.prog 30 #[.pointer (some ⟨gb, 0, none⟩)] W fun r w' => r = .returned (.bool true) ∧ (∃ rm rx mo me, Grown w' base gb ro rm re rx vo mo ve me) ∧ Frm W w' (fun q => q = gb ∨ blocks vo q ∨ blocks ve q) := by
  have H := Aside0.mk h
  have HH := Aside0.mk (And.intro hro (And.intro hre (And.intro hdo (And.intro hde (And.intro hlo (And.intro hle hbase))))))
  clear h hro hre hdo hde hlo hle hbase
  go_enter Try.func30, Try.ntmps30
  go_wp2_with fail
  refine (full_B H.out HH.out.1 HH.out.2.1 HH.out.2.2.1 HH.out.2.2.2.1 HH.out.2.2.2.2.1 HH.out.2.2.2.2.2.1).mono ?_
  rintro r w1 ⟨⟨r1, rfl⟩, hb1, hm1, hm2, hf1⟩
  have H1 := Aside0.mk (And.intro hb1 (And.intro hm1 (And.intro hm2 hf1)))
  clear hb1 hm1 hm2 hf1
  go_wp2_with fail
  refine (grow_B H1.out.1 H1.out.2.1 H1.out.2.2.1 HH.out.2.2.1 HH.out.2.2.2.1 HH.out.2.2.2.2.1 HH.out.2.2.2.2.2.1 (Nat.le_trans HH.out.2.2.2.2.2.2 H1.out.2.2.2.size)).mono ?_
  rintro r w2 ⟨⟨r2, rfl⟩, rm, rx, mo, me, hb2, hl1, hl2, hp1, hp2, hf2⟩
  have hG : Grown w2 base gb ro rm re rx vo mo ve me := ⟨hb2, hl1, hl2, HH.out.2.2.2.2.1, HH.out.2.2.2.2.2.1, hp1, hp2⟩
  have HG := Aside0.mk hG
  have HF := Aside0.mk ((H1.out.2.2.2.mono (S1 := fun q => q = gb ∨ blocks vo q ∨ blocks ve q) (fun q hq _ => .inr hq)).then_ hf2 (fun q hq _ => hq))
  clear hb2 hl1 hl2 hp1 hp2 hf2 hG
  go_wp2_with fail
  refine (marks_G HG.out).mono ?_
  rintro r w3 ⟨rfl, hb3⟩
  have HB3 := Aside0.mk hb3
  clear hb3
  go_wp2
  go_ret
  refine ⟨rfl, ⟨rm, rx, mo, me, ?_⟩, HF.out.step HB3.out⟩
  obtain ⟨g1, g2, g3, g4, g5, g6, g7⟩ := HG.out
  have hst : ∀ {t q : Nat}, typed w2 t q → w3.heap[q]? = w2.heap[q]? := fun ⟨cs, hcs⟩ => HB3.out.block _ (blk_lt hcs)
  refine ⟨g1.step (fun q hq => by rcases hq with hq | hq | hq <;> exact hst hq), g2, g3, g4, g5, fun j v v' hj hj' => ?_, fun j v v' hj hj' => ?_⟩
  · obtain ⟨n9, m9, p1, p2, p3, p4⟩ := g6 j v v' hj hj'
    exact ⟨n9, m9, p1, p2, own_tstep p3 (fun q hq => hst hq), own_tstep p4 (fun q hq => hst hq)⟩
  · obtain ⟨n9, m9, p1, p2, p3, p4⟩ := g7 j v v' hj hj'
    exact ⟨n9, m9, p1, p2, own_tstep p3 (fun q hq => hst hq), own_tstep p4 (fun q hq => hst hq)⟩
theorem Grown.step {W W' : World} {base gb : Nat} {ro rm re rx : Value} {vo mo ve me : List Value} (h : Grown W base gb ro rm re rx vo mo ve me) (hm : ∀ t q, t ≠ 66 → typed W t q → W'.heap[q]? = W.heap[q]?) : Grown W' base gb ro rm re rx vo mo ve me := by
  obtain ⟨g1, g2, g3, g4, g5, g6, g7⟩ := h
  refine ⟨g1.step (fun q hq => by rcases hq with hq | hq | hq <;> exact hm _ q (by decide) hq), g2, g3, g4, g5, fun j v v' hj hj' => ?_, fun j v v' hj hj' => ?_⟩
  · obtain ⟨n9, m9, p1, p2, p3, p4⟩ := g6 j v v' hj hj'
    exact ⟨n9, m9, p1, p2, own_tstep p3 (fun q hq => hm _ q (by decide) hq), own_tstep p4 (fun q hq => hm _ q (by decide) hq)⟩
  · obtain ⟨n9, m9, p1, p2, p3, p4⟩ := g7 j v v' hj hj'
    exact ⟨n9, m9, p1, p2, own_tstep p3 (fun q hq => hm _ q (by decide) hq), own_tstep p4 (fun q hq => hm _ q (by decide) hq)⟩
set_option maxHeartbeats 32000000 in
set_option maxRecDepth 100000 in
theorem takes_B {W : World} {base base' gb : Nat} {ro re : Value} {vo ve os raw : List Value} {A : Option Addr} {n c : Nat} (h : Book W base gb ro (.slice none 0 0) re (.slice none 0 0) vo [] ve []) (hl : W.ownsRow base' 33 6 (.slice A n c) n raw) (hos : os.length = n) (hraw : ∀ j, j < n → raw[j * 6 + 5]? = os[j]?) (hsl : ∀ u ∈ os, ∃ Au nu cu, u = .slice Au nu cu) (hbase : base ≤ W.heap.size) (hn : n ≤ 64) (hlo : vo.length ≤ 12000) (hle : ve.length ≤ 12000) :
    Calls Try.prog 29 #[.pointer (some ⟨gb, 0, none⟩), .slice A n c] W fun r w' => (∃ v, r = .returned v) ∧ ∃ ro' re', Book w' base gb ro' (.slice none 0 0) re' (.slice none 0 0) (vo ++ os) [] (ve ++ [.slice A n c]) [] ∧ Frm W w' (fun q => q = gb ∨ ro.ownBlock = some q ∨ re.ownBlock = some q) ∧
      (∀ q, ro'.ownBlock = some q → ro.ownBlock = some q ∨ W.heap.size ≤ q) ∧ (∀ q, re'.ownBlock = some q → re.ownBlock = some q ∨ W.heap.size ≤ q) := by
  have H := Aside0.mk h
  have HL := Aside0.mk hl
  have HOS := Aside0.mk (And.intro hos (And.intro hraw hsl))
  have HBASE := Aside0.mk hbase
  have HLO := Aside0.mk hlo
  have HLE := Aside0.mk hle
  obtain ⟨eA, ec, hreE, _⟩ := own_form h.e
  obtain ⟨NE, hNE⟩ : ∃ NE, NE = ve.length := ⟨_, rfl⟩
  rw [← hNE] at hreE
  subst hreE
  have HNE := Aside0.mk hNE
  have e0 : W.cell? ⟨gb, 2, none⟩ = some (.slice eA NE ec) := (blk_cell h.blk 2).trans rfl
  clear h hl hos hraw hsl hbase hlo hle hNE
  go_enter Try.func29, Try.ntmps29
  go_wp2_with (with_reducible refine stop_append rfl ?_)
  refine own_append (W := W) base rfl (.tmp 9) (.tmp 11) 71 25 (.slice none 0 0) 1 24 rfl Try.underlying71 info25 rfl (by decide) (by decide) (.slice eA NE ec) ve.length ve [.slice A n c] rfl rfl rfl (by simp [Value.oneCell']) H.out.e HBASE.out (by have := HLE.out; omega) ?_
  intro rn w1 ho1 hg1 hat1
  have hBK1 := Book.grow_e H.out (fun q hq => by simp [Value.ownBlock] at hq) ho1 hg1
  have hb1 := blk_grown76 H.out.blk hg1 (own_type H.out.e) (by decide)
  have m2 : w1.cell? ⟨gb, 2, none⟩ = some (.slice eA NE ec) := (blk_cell hb1 2).trans rfl
  have z2 : w1.frozen? ⟨gb, 2, none⟩ = false := blk_frozen hb1 2
  have hRE : ∀ q, rn.ownBlock = some q → (Value.slice eA NE ec).ownBlock = some q ∨ W.heap.size ≤ q := fun q hq => by
    rcases hat1 with ⟨b, cap, h1, rfl⟩ | ⟨⟨b, hb, hlb⟩, _⟩
    · left
      rw [h1]
      exact hq
    · rw [hb] at hq
      cases hq
      exact .inr hlb
  have hF1 : Frm W (w1.setCell ⟨gb, 2, none⟩ rn) (fun q => q = gb ∨ ro.ownBlock = some q ∨ (Value.slice eA NE ec).ownBlock = some q) := Frm.set_ (p := ⟨gb, 2, none⟩) (Frm.of_grown hg1 (S := fun q => q = gb ∨ ro.ownBlock = some q ∨ (Value.slice eA NE ec).ownBlock = some q) (fun q hq => .inr (.inr hq))) (.inl (.inl rfl)) _
  have hL1 : (w1.setCell ⟨gb, 2, none⟩ rn).ownsRow base' 33 6 (.slice A n c) n raw := row_keep HL.out hg1 (fun q hq hr => absurd (typed_ne (own_type HL.out q hq) (own_type H.out.e q hr)) (by decide)) ⟨_, H.out.blk⟩ (by decide) _ _
  obtain ⟨An, cn, hrn, _⟩ := own_form ho1
  obtain ⟨NE1, hNE1⟩ : ∃ NE1, NE1 = ve.length + 1 := ⟨_, rfl⟩
  rw [← hNE1] at hrn
  subst hrn
  have HBK := Aside0.mk hBK1
  have HRE := Aside0.mk hRE
  have HF1 := Aside0.mk hF1
  have HL1 := Aside0.mk hL1
  clear ho1 hg1 hat1 hBK1 hb1 hRE hF1 hL1 e0 hNE1
  go_wp2
  obtain ⟨w2, hw2⟩ : ∃ w2, w2 = w1.setCell ⟨gb, 2, none⟩ (.slice An NE1 cn) := ⟨_, rfl⟩
  rw [← hw2] at HBK HF1 HL1 ⊢
  clear hw2 m2 z2
  go_loopw [4] (fun v4 wr => ∃ (i : Nat) (ro' : Value), i ≤ n ∧ v4 = .int .i64 (i : Int) ∧ Aside0 (Book wr base gb ro' (.slice none 0 0) (.slice An NE1 cn) (.slice none 0 0) (vo ++ os.take i) [] (ve ++ [.slice A n c]) []) ∧ Aside0 (wr.ownsRow base' 33 6 (.slice A n c) n raw) ∧ Aside0 (Frm W wr (fun q => q = gb ∨ ro.ownBlock = some q ∨ (Value.slice eA NE ec).ownBlock = some q)) ∧ Aside0 (∀ q, ro'.ownBlock = some q → ro.ownBlock = some q ∨ W.heap.size ≤ q)) (fun v4 _ => n + 1 - (intOf v4).toNat)
  case atStart => exact ⟨0, ro, Nat.zero_le _, rfl, by rw [List.take_zero, List.append_nil]; exact HBK, HL1, HF1, ⟨fun q hq => .inl hq⟩⟩
  case round =>
    obtain ⟨i, ro', hi, rfl, HB, HLR, HFR, HRO⟩ := hrel
    by_cases hlt : i < n
    · have hd1 : decide (i < n) = true := decide_eq_true hlt
      have hd2 : decide ((i : Int) < (n : Int)) = true := decide_eq_true (by omega)
      obtain ⟨gl, cl, curl, hrowl, _, _, _, _⟩ := own_some HLR.out (by omega)
      injection hrowl with hA _ hcl
      obtain rfl := hA
      obtain rfl := hcl
      have hio : i < os.length := by rw [HOS.out.1]; exact hlt
      obtain ⟨u, hu⟩ : ∃ u, os[i]? = some u := ⟨_, List.getElem?_eq_getElem hio⟩
      obtain ⟨Au, nu, cu, rfl⟩ := HOS.out.2.2 u (List.mem_of_getElem? hu)
      have hcu : wr.cell? ⟨gl, i * 6 + 5, none⟩ = some (.slice Au nu cu) := own_cell HLR.out ((HOS.out.2.1 i hlt).trans hu)
      obtain ⟨Ao, co, hro', _⟩ := own_form HB.out.o
      obtain ⟨NO, hNO⟩ : ∃ NO, NO = (vo ++ os.take i).length := ⟨_, rfl⟩
      rw [← hNO] at hro'
      subst hro'
      have c0 : wr.drew.cell? ⟨gb, 0, none⟩ = some (.slice Ao NO co) := (blk_cell HB.out.blk 0).trans rfl
      have cu5 : wr.drew.cell? ⟨gl, i * 6 + 5, none⟩ = some (.slice Au nu cu) := hcu
      have hNOl : NO ≤ 12064 := by rw [hNO, List.length_append, List.length_take]; have := HLO.out; omega
      have HNO := Aside0.mk hNO
      have HU := Aside0.mk hu
      clear hio hu hcu hNO
      go_wp2
      refine start_ (n := 15) (S := fun w' => w'.cell? ⟨gb, 0, none⟩ = some (.slice Ao NO co) ∧ w'.cell? ⟨gl, i * 6 + 5, none⟩ = some (.slice Au nu cu)) (ds := [14]) #[false, false, false, false, false, false, false, false, false, false, false, false, false, false, false] (by kernel_rfl) rfl rfl ⟨c0, cu5⟩ (fun hHeld => ?_)
      refine with_tabW rg29.tab4 rg29.bits4 (fun HT_ HW_ => ?_)
      refine pure_ (i := 0) (N := some 21) (v := ?_) (a' := ?_) #[true, false, false, false, false, false, false, false, false, false, false, false, false, false, false] rfl rfl (any_of HT_.out (by kernel_rfl)) (fun _ _ _ h => h) (Or.inl ⟨by rfl, ?_⟩) ?_ ?_
      rotate_left
      · intro w'
        go_simp
        with_reducible rfl
      rotate_left
      · simp only [Act.put, List.setIfInBounds_toArray, List.set_cons_zero, List.set_cons_succ, i64_w, i32_w]
        rfl
      refine pure_ (i := 1) (N := some 22) (v := ?_) (a' := ?_) #[true, true, false, false, false, false, false, false, false, false, false, false, false, false, false] rfl rfl (any_of HT_.out (by kernel_rfl)) (fun _ _ _ h => h) (Or.inl ⟨by rfl, ?_⟩) ?_ ?_
      rotate_left
      · intro w'
        go_simp
        with_reducible rfl
      rotate_left
      · simp only [Act.put, List.setIfInBounds_toArray, List.set_cons_zero, List.set_cons_succ, i64_w, i32_w]
        rfl
      refine pure_ (i := 2) (N := some 23) (v := ?_) (a' := ?_) #[true, true, true, false, false, false, false, false, false, false, false, false, false, false, false] rfl rfl (any_of HT_.out (by kernel_rfl)) (fun _ _ _ h => h) (Or.inl ⟨by rfl, ?_⟩) ?_ ?_
      rotate_left
      · intro w'
        go_simp
        with_reducible rfl
      rotate_left
      · simp only [Act.put, List.setIfInBounds_toArray, List.set_cons_zero, List.set_cons_succ, i64_w, i32_w]
        rfl
      refine pure_ (i := 3) (N := some 24) (v := ?_) (a' := ?_) #[true, true, true, true, false, false, false, false, false, false, false, false, false, false, false] rfl rfl (any_of HT_.out (by kernel_rfl)) (fun _ _ _ h => h) (Or.inl ⟨by rfl, ?_⟩) ?_ ?_
      rotate_left
      · intro w'
        go_simp
        with_reducible rfl
      rotate_left
      · simp only [Act.put, List.setIfInBounds_toArray, List.set_cons_zero, List.set_cons_succ, i64_w, i32_w]
        rfl
      refine pure_ (i := 5) (N := some 26) (v := ?_) (a' := ?_) #[true, true, true, true, false, true, false, false, false, false, false, false, false, false, false] rfl rfl (any_of HT_.out (by kernel_rfl)) (fun _ _ _ h => h) (Or.inl ⟨by rfl, ?_⟩) ?_ ?_
      rotate_left
      · intro w'
        go_simp
        with_reducible rfl
      rotate_left
      · simp only [Act.put, List.setIfInBounds_toArray, List.set_cons_zero, List.set_cons_succ, i64_w, i32_w]
        rfl
      refine pure_ (i := 6) (N := some 27) (v := ?_) (a' := ?_) #[true, true, true, true, false, true, true, false, false, false, false, false, false, false, false] rfl rfl (any_of HT_.out (by kernel_rfl)) (fun _ _ _ h => h) (Or.inl ⟨by rfl, ?_⟩) ?_ ?_
      rotate_left
      · intro w'
        go_simp
        with_reducible rfl
      rotate_left
      · simp only [Act.put, List.setIfInBounds_toArray, List.set_cons_zero, List.set_cons_succ, i64_w, i32_w]
        rfl
      refine pure_ (i := 7) (N := some 28) (v := ?_) (a' := ?_) #[true, true, true, true, false, true, true, true, false, false, false, false, false, false, false] rfl rfl (any_of HT_.out (by kernel_rfl)) (fun _ _ _ h => h) (Or.inl ⟨by rfl, ?_⟩) ?_ ?_
      rotate_left
      · intro w'
        go_simp
        with_reducible rfl
      rotate_left
      · simp only [Act.put, List.setIfInBounds_toArray, List.set_cons_zero, List.set_cons_succ, i64_w, i32_w]
        rfl
      refine pure_ (i := 8) (N := some 29) (v := ?_) (a' := ?_) #[true, true, true, true, false, true, true, true, true, false, false, false, false, false, false] rfl rfl (any_of HT_.out (by kernel_rfl)) (fun _ _ _ h => h) (Or.inl ⟨by rfl, ?_⟩) ?_ ?_
      rotate_left
      · intro w'
        go_simp
        with_reducible rfl
      rotate_left
      · simp only [Act.put, List.setIfInBounds_toArray, List.set_cons_zero, List.set_cons_succ, i64_w, i32_w]
        rfl
      refine take_ (i := 4) (N := some 25) (v := ?_) (a' := ?_) #[true, true, true, true, true, true, true, true, true, false, false, false, false, false, false] rfl rfl (take_ofW HT_.out HW_.out (by kernel_rfl)) (fun _ _ _ h => h) (Or.inl ⟨by rfl, ?_⟩) hHeld ?_ ?_
      rotate_left
      · rintro w' ⟨s0, s1⟩
        go_simp
        with_reducible rfl
      rotate_left
      · simp only [Act.put, List.setIfInBounds_toArray, List.set_cons_zero, List.set_cons_succ, i64_w, i32_w]
        rfl
      refine take_ (i := 9) (N := some 30) (v := ?_) (a' := ?_) #[true, true, true, true, true, true, true, true, true, true, false, false, false, false, false] rfl rfl (take_ofW HT_.out HW_.out (by kernel_rfl)) (fun _ _ _ h => h) (Or.inl ⟨by rfl, ?_⟩) hHeld ?_ ?_
      rotate_left
      · rintro w' ⟨s0, s1⟩
        go_simp
        with_reducible rfl
      rotate_left
      · simp only [Act.put, List.setIfInBounds_toArray, List.set_cons_zero, List.set_cons_succ, i64_w, i32_w]
        rfl
      refine one_ (i := 10) (N := some 31) #[true, true, true, true, true, true, true, true, true, true, true, false, false, false, false] rfl rfl (one_of HT_.out (by kernel_rfl)) (by decide) (fun K hK => ?_)
      refine value_ (w1 := ?_) (v := ?_) (by rfl) rfl ?_ ?_
      rotate_left 2
      · go_simp
        constructor
        · rfl
        · rfl
      refine hK.out _ _ ⟨pw_cell_below (below_alloc (Below.refl _ _) _) c0, pw_cell_below (below_alloc (Below.refl _ _) _) cu5⟩ (fun hHeld => ?_)
      clear hK K
      refine norm_ (a' := ?_) ?_ ?_
      rotate_left
      · show Act.put _ (some 31) _ = _
        simp only [Act.put, List.setIfInBounds_toArray, List.set_cons_zero, List.set_cons_succ, i64_w, i32_w]
        rfl
      refine one_ (i := 11) (N := some 32) #[true, true, true, true, true, true, true, true, true, true, true, true, false, false, false] rfl rfl (one_of HT_.out (by kernel_rfl)) (by decide) (fun K hK => ?_)
      refine step_append_cells (w0 := wr.drew) (W := wr.drew) base (by rfl) (.tmp 25) (.tmp 31) 74 31 (.slice none 0 0) 1 24 rfl Try.underlying74 info31 rfl (by decide) (by decide) (.slice Ao NO co) (vo ++ os.take i).length (vo ++ os.take i) [.slice Au nu cu] rfl rfl rfl (by simp [Value.oneCell']) (own_step HB.out.o (fun _ _ => rfl)) (Below.refl _ _) (by have := HBASE.out; have := HFR.out.size; exact Nat.le_trans HBASE.out HFR.out.size) (by rw [← HNO.out]; omega) ?_
      intro rn w6 ho6 hb6' hg6 hat6
      have hg6 : wr.grownBy w6 (Value.slice Ao NO co).ownBlock := ⟨hg6.os, hg6.tape, hg6.output, hg6.size, hg6.block⟩
      have hBK6 := Book.grow_o HB.out (fun q hq => by simp [Value.ownBlock] at hq) ho6 hg6
      have hb6 := blk_grown76 HB.out.blk hg6 (own_type HB.out.o) (by decide)
      have n0 : w6.cell? ⟨gb, 0, none⟩ = some (.slice Ao NO co) := (blk_cell hb6 0).trans rfl
      have hLl : w6.ownsRow base' 33 6 (.slice (some ⟨gl, 0, none⟩) n c) n raw := own_step (show wr.ownsRow base' 33 6 (.slice (some ⟨gl, 0, none⟩) n c) n raw by exact HLR.out) (fun q hq => hg6.block q ((HLR.out.lt q hq).2) (fun e => absurd (typed_ne (own_type HLR.out q hq) (own_type HB.out.o q e.symm)) (by decide)))
      have n5 : w6.cell? ⟨gl, i * 6 + 5, none⟩ = some (.slice Au nu cu) := own_cell hLl ((HOS.out.2.1 i hlt).trans HU.out)
      have hRO6 : ∀ q, rn.ownBlock = some q → ro.ownBlock = some q ∨ W.heap.size ≤ q := fun q hq => by
        rcases hat6 with h1 | ⟨b, hb, hlb⟩
        · exact HRO.out q (by rw [← h1]; exact hq)
        · rw [hb] at hq
          cases hq
          exact .inr (Nat.le_trans HFR.out.size hlb)
      have hF6 : Frm W (w6.setCell ⟨gb, 0, none⟩ rn) (fun q => q = gb ∨ ro.ownBlock = some q ∨ (Value.slice eA NE ec).ownBlock = some q) := Frm.set_ (p := ⟨gb, 0, none⟩) (HFR.out.then_ (Frm.of_grown hg6 (S := fun q => (Value.slice Ao NO co).ownBlock = some q) (fun q hq => hq)) (fun q hq hlt => (HRO.out q hq).elim (fun h => .inr (.inl h)) (fun h => absurd hlt (Nat.not_lt_of_le h)))) (.inl (.inl rfl)) _
      have hL7 := row_grown hLl ⟨_, hb6⟩ (by decide) 0 rn
      obtain ⟨An6, cn6, hrn6, _⟩ := own_form ho6
      obtain ⟨NO1, hNO1⟩ : ∃ NO1, NO1 = (vo ++ os.take i).length + 1 := ⟨_, rfl⟩
      rw [← hNO1] at hrn6
      subst hrn6
      have HBK6 := Aside0.mk hBK6
      have HB6 := Aside0.mk hb6
      have HRO6 := Aside0.mk hRO6
      have HF6 := Aside0.mk hF6
      have HL7 := Aside0.mk hL7
      clear ho6 hb6' hg6 hat6 hBK6 hb6 hLl hRO6 hF6 hL7 hNO1
      refine hK.out _ _ ⟨n0, n5⟩ (fun hHeld => ?_)
      clear hK K
      refine norm_ (a' := ?_) ?_ ?_
      rotate_left
      · show Act.put _ (some 32) _ = _
        simp only [Act.put, List.setIfInBounds_toArray, List.set_cons_zero, List.set_cons_succ, i64_w, i32_w]
        rfl
      refine pure_ (i := 12) (N := some 33) (v := ?_) (a' := ?_) #[true, true, true, true, true, true, true, true, true, true, true, true, true, false, false] rfl rfl (any_of HT_.out (by kernel_rfl)) (fun _ _ _ h => h) (Or.inl ⟨by rfl, ?_⟩) ?_ ?_
      rotate_left
      · intro w'
        go_simp
        with_reducible rfl
      rotate_left
      · simp only [Act.put, List.setIfInBounds_toArray, List.set_cons_zero, List.set_cons_succ, i64_w, i32_w]
        rfl
      refine pure_ (i := 13) (N := some 34) (v := ?_) (a' := ?_) #[true, true, true, true, true, true, true, true, true, true, true, true, true, true, false] rfl rfl (any_of HT_.out (by kernel_rfl)) (fun _ _ _ h => h) (Or.inl ⟨by rfl, ?_⟩) ?_ ?_
      rotate_left
      · intro w'
        go_simp
        with_reducible rfl
      rotate_left
      · simp only [Act.put, List.setIfInBounds_toArray, List.set_cons_zero, List.set_cons_succ, i64_w, i32_w]
        rfl
      refine last_ (i := 14) (N := none) #[true, true, true, true, true, true, true, true, true, true, true, true, true, true, true] rfl rfl (one_of HT_.out (by kernel_rfl)) (by decide) (fun K hK => ?_)
      refine skip_store (by rfl) rfl 74 (.tmp 34) (.tmp 32) rfl (.slice An6 NO1 cn6) [.slice An6 NO1 cn6] rfl rfl HB6.out rfl size74 (by show 0 + 1 ≤ 4; omega) (by simp [Value.oneCell']) ?_
      refine hK.out _ _ ?_
      clear hK K
      refine done_ (done_of HT_.out (by kernel_rfl)) ?_
      rw [show w6.setCells gb 0 [.slice An6 NO1 cn6] = w6.setCell ⟨gb, 0, none⟩ (.slice An6 NO1 cn6) from rfl]
      obtain ⟨w7, hw7⟩ : ∃ w7, w7 = w6.setCell ⟨gb, 0, none⟩ (.slice An6 NO1 cn6) := ⟨_, rfl⟩
      rw [← hw7] at HBK6 HF6 HL7 ⊢
      have htk : os.take (i + 1) = os.take i ++ [.slice Au nu cu] := by rw [List.take_add_one, HU.out]; rfl
      have HBK7 := Aside0.mk (show Book w7 base gb (.slice An6 NO1 cn6) (.slice none 0 0) (.slice An NE1 cn) (.slice none 0 0) (vo ++ os.take (i + 1)) [] (ve ++ [.slice (some ⟨gl, 0, none⟩) n c]) [] by rw [htk, ← List.append_assoc]; exact HBK6.out)
      clear hw7 htk c0 cu5 HBK6
      go_wp2
      go_roundw
      case rel => exact ⟨i + 1, _, by omega, by go_num, HBK7, HL7, HF6, HRO6⟩
      case measure => simp [intOf]; omega
    · have hd1 : decide (i < n) = false := decide_eq_false hlt
      have hd2 : decide ((i : Int) < (n : Int)) = false := decide_eq_false (by omega)
      have hin : i = n := by omega
      have HBF := Aside0.mk (show Book wr base gb ro' (.slice none 0 0) (.slice An NE1 cn) (.slice none 0 0) (vo ++ os) [] (ve ++ [.slice A n c]) [] by
        have h1 := HB.out
        rw [List.take_of_length_le (by rw [HOS.out.1]; omega)] at h1
        exact h1)
      clear hin
      go_wp2
      go_end0
      exact ⟨⟨_, rfl⟩, _, _, HBF.out, HFR.out, HRO.out, HRE.out⟩
end Go.Proofs.Ytcbejpmmlcdhnaa.PW
namespace Go.Proofs.Ytcbejpmmlcdhnaa.PW
open Go.RowKit Go.Proofs.YtcbejpmmlcdhnaaW.PrintWords Go.Proofs.YtcbejpmmlcdhnaaW.PrintLast Go.Proofs.YtcbejpmmlcdhnaaW.PrintMore
set_option linter.unusedVariables false
set_option linter.unusedSimpArgs false

/-- Lists of entries, each with blocks of its own, its entries too. -/
def kT : Kd (List S33) where
  sz := 1
  E := [33, 55]
  K := fun w L cs => ∃ A c, cs = [.slice A L.length c] ∧ L.length ≤ c ∧ Kd.C k33 w A L.length L
  M := fun w base ok L cs => ∃ v, cs = [v] ∧ Kd.S k33 33 w base ok v L
  K_len := by rintro w L cs ⟨A, c, rfl, _⟩; rfl
  K_one := by rintro w L cs ⟨A, c, rfl, _⟩ u hu; rw [List.mem_singleton] at hu; subst hu; rfl
  K_below := by rintro w w1 L cs hb ⟨A, c, h1, h2, h3⟩; exact ⟨A, c, h1, h2, Kd.C_below h3 hb⟩
  K_of_M := by rintro w base ok L cs ⟨v, rfl, h⟩; obtain ⟨A, c, rfl, h2, h3⟩ := Kd.S_reads h; exact ⟨A, c, rfl, h2, h3⟩
  M_mono := by rintro w base ok ok' L cs hk ⟨v, h1, h2⟩; exact ⟨v, h1, Kd.S_mono h2 hk⟩
  M_bound := by
    rintro w base ok L cs ⟨v, h1, h2⟩
    exact ⟨v, h1, Kd.S_mono (Kd.S_bound h2) (fun k hk => ⟨hk.1, hk.2.1, hk.2.2.1, by obtain ⟨q, hq, h⟩ := hk.2.2.2; exact ⟨q, by rcases k33E hq with rfl | rfl <;> simp, h⟩⟩)⟩
  M_move := by rintro w w1 base ok L cs hm ⟨v, h1, h2⟩; exact ⟨v, h1, Kd.S_move h2 hm⟩
  M_lower := by rintro w base base' ok L cs hb ⟨v, h1, h2⟩; exact ⟨v, h1, Kd.S_lower h2 hb⟩
section
variable {W W' : World} {base : Nat} {ok ok' OT OW OR : Nat → Prop} {v vT vW v5 : Value} {L : List S33} {P PT PW : List (List S33)} {s : RS} {b : Nat}
/-- One entry in a new block. -/
theorem S_one {B : Nat} (y : S33) (hb : W.heap[B]? = some (.cells (cells6 y v5).toArray 33 (0, 0))) (hB : base ≤ B) (hv : Kd.R k55 55 W base ok' v5 y.f5) (hok : ok B) (hok' : ∀ k, ok' k → ok k ∧ k ≠ B) : Kd.S k33 33 W base ok (.slice (some ⟨B, 0, none⟩) 1 1) [y] := by
  refine ⟨fun _ => 0, fun k hk => by cases hk; exact hok, cells6 y v5, ⟨rfl, .inr ⟨B, 1, _, rfl, hB, hb, Nat.le_refl _, by simp only [maxLen]; omega, rfl, rfl⟩⟩, rfl, fun j p hj => ?_⟩
  match j, hj with
  | 0, hj =>
    obtain rfl := Option.some.inj hj
    refine k33_mkM _ _ _ _ (Kd.R_mono hv (fun k hk => ⟨⟨(hok' k hk).1, fun e => (hok' k hk).2 (Option.some.inj e)⟩, rfl⟩))
  | (j + 1), hj => simp at hj
/-- The outer row opened: the slices, and what each is. -/
theorem open_told (h : Kd.S kT 25 W base ok vT P) : ∃ (vs : List Value) (f : Nat → Nat), W.ownsRow base 25 1 vT P.length vs ∧ vs.length = P.length ∧ (∀ q, vT.ownBlock = some q → ok q) ∧ ∀ (i : Nat) (L : List S33), P[i]? = some L → ∃ v, vs[i]? = some v ∧ Kd.S k33 33 W base (fun k => (ok k ∧ some k ≠ vT.ownBlock) ∧ f k = i) v L := by
  obtain ⟨f, h0, inner, ho, hr⟩ := h
  rw [List.length_zipIdx] at ho
  refine ⟨inner, f, ho, by have h2 : inner.length = P.length * 1 := ho.1; rw [h2, Nat.mul_one], h0, fun i L hi => ?_⟩
  obtain ⟨v, hv, hS⟩ := hr.2 i (L, i) (by rw [List.getElem?_zipIdx, hi]; simp)
  refine ⟨v, ?_, hS⟩
  have hsz : kT.sz = 1 := rfl
  have hv : (inner.drop (i * 1)).take 1 = [v] := hv
  rw [Nat.mul_one] at hv
  have h1 : ((inner.drop i).take 1)[0]? = some v := by rw [hv]; rfl
  rw [List.getElem?_take_of_lt (by omega), List.getElem?_drop, Nat.add_zero] at h1
  exact h1
/-- A list of entries opened: its cells, and what each list of ops is. -/
theorem open_list (h : Kd.S k33 33 W base ok v L) : ∃ (raw : List Value) (f : Nat → Nat), W.ownsRow base 33 6 v L.length raw ∧ (∀ q, v.ownBlock = some q → ok q) ∧ ∀ (j : Nat) (y : S33), L[j]? = some y → ∃ u, raw[j * 6 + 5]? = some u ∧ Kd.R k55 55 W base (fun k => (ok k ∧ some k ≠ v.ownBlock) ∧ f k = j) u y.f5 := by
  obtain ⟨f, h0, inner, ho, hr⟩ := h
  rw [List.length_zipIdx] at ho
  refine ⟨inner, f, ho, h0, fun j y hj => ?_⟩
  have hM := hr.2 j (y, j) (by rw [List.getElem?_zipIdx, hj]; simp)
  obtain ⟨u, hu, hR⟩ := k33_openM hM
  have hu : (inner.drop (j * 6)).take 6 = _ := hu
  refine ⟨u, ?_, hR⟩
  have h1 : ((inner.drop (j * 6)).take 6)[5]? = some u := by rw [hu]; rfl
  rw [List.getElem?_take_of_lt (by omega), List.getElem?_drop] at h1
  exact h1
/-- Told and was, beside the ring. -/
structure Tri (W : World) (base : Nat) (OT OW OR : Nat → Prop) (b : Nat) (s : RS) (vT vW : Value) (PT PW : List (List S33)) : Prop where
  t : Kd.S kT 25 W base OT vT PT
  w : Kd.S kT 25 W base OW vW PW
  r : RingIs W base OR (some b) s
  tw : ∀ k, OT k → ¬ OW k
  tr : ∀ k, OT k → ¬ OR k
  wr : ∀ k, OW k → ¬ OR k
  bt : ∀ k, OT k → k < W.heap.size
  bw : ∀ k, OW k → k < W.heap.size
  br : ∀ k, OR k → k < W.heap.size
theorem Tri.below (h : Tri W base OT OW OR b s vT vW PT PW) (hb : Below W.heap.size W W') : Tri W' base OT OW OR b s vT vW PT PW :=
  ⟨Kd.S_below h.t hb, Kd.S_below h.w hb, RingIs_below h.r hb, h.tw, h.tr, h.wr, fun k hk => Nat.lt_of_lt_of_le (h.bt k hk) hb.size, fun k hk => Nat.lt_of_lt_of_le (h.bw k hk) hb.size, fun k hk => Nat.lt_of_lt_of_le (h.br k hk) hb.size⟩
/-- Told has been appended to, in its own blocks and new ones. -/
theorem Tri.told {vT1 : Value} {PT1 : List (List S33)} (h : Tri W base OT OW OR b s vT vW PT PW) (ht : Kd.S kT 25 W' base (fun k => OT k ∨ W.heap.size ≤ k) vT1 PT1) (hg : W.grownBy W' vT.ownBlock) :
    Tri W' base (fun k => (OT k ∨ W.heap.size ≤ k) ∧ k < W'.heap.size) OW OR b s vT1 vW PT1 PW := by
  have hv : ∀ q, vT.ownBlock = some q → OT q := (Kd.S_R h.t).1
  refine ⟨Kd.S_mono (Kd.S_bound ht) (fun k hk => ⟨hk.1, hk.2.2.1⟩), Kd.S_step h.w (fun k hk hlt => hg.block k hlt (fun e => h.tw k (hv k e.symm) hk)), RingIs_step h.r (fun k hk hlt => hg.block k hlt (fun e => h.tr k (hv k e.symm) hk)), ?_, ?_, h.wr, fun k hk => hk.2, fun k hk => Nat.lt_of_lt_of_le (h.bw k hk) hg.size, fun k hk => Nat.lt_of_lt_of_le (h.br k hk) hg.size⟩
  · rintro k ⟨h1 | h1, _⟩ h2
    · exact h.tw k h1 h2
    · have := h.bw k h2
      omega
  · rintro k ⟨h1 | h1, _⟩ h2
    · exact h.tr k h1 h2
    · have := h.br k h2
      omega
theorem Tri.was {vW1 : Value} {PW1 : List (List S33)} (h : Tri W base OT OW OR b s vT vW PT PW) (ht : Kd.S kT 25 W' base (fun k => OW k ∨ W.heap.size ≤ k) vW1 PW1) (hg : W.grownBy W' vW.ownBlock) :
    Tri W' base OT (fun k => (OW k ∨ W.heap.size ≤ k) ∧ k < W'.heap.size) OR b s vT vW1 PT PW1 := by
  have hv : ∀ q, vW.ownBlock = some q → OW q := (Kd.S_R h.w).1
  refine ⟨Kd.S_step h.t (fun k hk hlt => hg.block k hlt (fun e => h.tw k hk (hv k e.symm))), Kd.S_mono (Kd.S_bound ht) (fun k hk => ⟨hk.1, hk.2.2.1⟩), RingIs_step h.r (fun k hk hlt => hg.block k hlt (fun e => h.wr k (hv k e.symm) hk)), ?_, h.tr, ?_, fun k hk => Nat.lt_of_lt_of_le (h.bt k hk) hg.size, fun k hk => hk.2, fun k hk => Nat.lt_of_lt_of_le (h.br k hk) hg.size⟩
  · rintro k h2 ⟨h1 | h1, _⟩
    · exact h.tw k h2 h1
    · have := h.bt k h2
      omega
  · rintro k ⟨h1 | h1, _⟩ h2
    · exact h.wr k h1 h2
    · have := h.br k h2
      omega
end
/-- What one pass asks. -/
def aftL (s : RS) (ms : List Int) (i : Nat) : List S33 := s.after (((s.fl + i % 3 : Nat)) : Int) (ms.getD i 0)
def atL (s : RS) (i : Nat) : List S33 := [s.at ((s.fl + 1 + i : Nat) : Int)]
def pass (s : RS) (ms : List Int) : List (List S33) := [s.l] ++ (List.range ms.length).map (aftL s ms) ++ (List.range s.l.length).map (atL s)
theorem range_snoc {α : Type} (f : Nat → α) (i : Nat) : (List.range (i + 1)).map f = (List.range i).map f ++ [f i] := by rw [List.range_succ, List.map_append]; rfl
/-- All ops of the lists of a pass are few. -/
def few (L : List S33) : Prop := L.length ≤ 64 ∧ ∀ y ∈ L, y.f5.length ≤ 64
theorem few_after {s : RS} (h : few s.l) (a m : Int) : few (s.after a m) := by
  unfold RS.after
  split
  · exact ⟨by rw [List.length_take, List.length_drop]; have := h.1; omega, fun y hy => h.2 y (List.mem_of_mem_drop (List.mem_of_mem_take hy))⟩
  · exact ⟨Nat.zero_le _, fun y hy => by cases hy⟩
theorem few_at {s : RS} (h : few s.l) (n : Int) : few [s.at n] := by
  refine ⟨by simp, fun y hy => ?_⟩
  rw [List.mem_singleton] at hy
  subst hy
  unfold RS.at
  split
  · rw [List.getD_eq_getElem?_getD]
    cases hh : s.l[(n - s.fl - 1).toNat]? with
    | none => show (0 : Nat) ≤ 64; omega
    | some y => exact h.2 y (List.mem_of_getElem? hh)
  · show (0 : Nat) ≤ 64
    omega
theorem few_pass {s : RS} (h : few s.l) (ms : List Int) : ∀ L ∈ pass s ms, few L := by
  intro L hL
  unfold pass at hL
  rw [List.mem_append, List.mem_append, List.mem_singleton] at hL
  rcases hL with (rfl | hL) | hL
  · exact h
  · obtain ⟨i, _, rfl⟩ := List.mem_map.1 hL
    exact few_after h _ _
  · obtain ⟨i, _, rfl⟩ := List.mem_map.1 hL
    exact few_at h _
theorem pass_len (s : RS) (ms : List Int) : (pass s ms).length = 1 + ms.length + s.l.length := by simp [pass]; omega
theorem pass_pos (s : RS) (ms : List Int) : 0 < (pass s ms).length := by rw [pass_len]; omega
/-- Two passes: what stands at i stands at i % half. -/
theorem twice_get (P : List (List S33)) (h : 0 < P.length) (i : Nat) (hi : i < (P ++ P).length) : (P ++ P)[i]? = (P ++ P)[i % P.length]? := by
  rw [List.length_append] at hi
  have hm := Nat.mod_lt i h
  rw [List.getElem?_append_left (l₂ := P) hm]
  by_cases hl : i < P.length
  · rw [List.getElem?_append_left hl, Nat.mod_eq_of_lt hl]
  · rw [List.getElem?_append_right (by omega), Nat.mod_eq_sub_mod (by omega), Nat.mod_eq_of_lt (by omega)]
theorem few_fill (room n : Nat) (h : room ≤ 64) : few (fillS room n).l := by
  refine ⟨by rw [fillS_len]; omega, fun y hy => ?_⟩
  obtain ⟨t, _, rfl⟩ := List.mem_map.1 hy
  show 2 ≤ 64
  omega
end Go.Proofs.Ytcbejpmmlcdhnaa.PW
namespace Go.Proofs.Ytcbejpmmlcdhnaa.PW
open Go.RowKit Go.Proofs.YtcbejpmmlcdhnaaW.PrintWords Go.Proofs.YtcbejpmmlcdhnaaW.PrintLast Go.Proofs.YtcbejpmmlcdhnaaW.PrintMore
set_option linter.unusedVariables false
set_option linter.unusedSimpArgs false

theorem ops_fk (l : List S55) (k : Nat) (hl : l.length ≤ 2513169434843) (hk : l.length < k) : heraldref6_Ops.f k l = some l := by
  unfold heraldref6_Ops.f
  exact ops_l0 l hl l.length 0 k (by omega) (by omega) (by omega)
theorem take_rd33 (l : List S33) (i : Nat) (h : i < l.length) : l.take (i + 1) = l.take i ++ [rd_T33 l (i : Int)] := by
  unfold rd_T33
  rw [Int.toNat_natCast, List.getD_eq_getElem?_getD, List.getElem?_eq_getElem h, List.take_add_one, List.getElem?_eq_getElem h]
  rfl
theorem rd_T33_mem {xs : List S33} {i : Nat} (h : i < xs.length) : rd_T33 xs (i : Int) ∈ xs := by
  unfold rd_T33
  rw [Int.toNat_natCast, List.getD_eq_getElem?_getD, List.getElem?_eq_getElem h]
  exact List.getElem_mem h
theorem twins_l0 (L : List S33) (hL : few L) : ∀ (d i k : Nat), L.length - i = d → i ≤ L.length → d + 65 < k → heraldlaw6_twins.l0 k L (L.take i) (i : Int) = some L
  | 0, i, k + 1, h, hi, _ => by
    unfold heraldlaw6_twins.l0
    rw [if_neg (by omega), List.take_of_length_le (by omega)]
  | d + 1, i, k + 1, h, hi, hk => by
    have h64 := hL.1
    have hops := hL.2 _ (rd_T33_mem (xs := L) (i := i) (by omega))
    unfold heraldlaw6_twins.l0
    rw [if_pos (by omega), if_pos (by omega)]
    unfold heraldlaw6_twin.f
    rw [ops_fk _ k (by omega) (by omega)]
    simp only [Option.bind_some]
    rw [if_pos (by rw [List.length_take]; omega), wrap_succ i (by omega)]
    rw [show L.take i ++ [(⟨(rd_T33 L i).f0, (rd_T33 L i).f1, (rd_T33 L i).f2, (rd_T33 L i).f3, (rd_T33 L i).f4, (rd_T33 L i).f5⟩ : S33)] = L.take (i + 1) from (take_rd33 L i (by omega)).symm]
    exact twins_l0 L hL d (i + 1) k (by omega) (by omega) (by omega)
theorem twins_T (L : List S33) (hL : few L) (A : Option Addr) (n c : Nat) (w : World) (hn : L.length = n) (h1 : Kd.C k33 w A n L) (h2 : n ≤ c) :
    Calls Try.prog 28 #[.slice A n c] w fun e w' => ∃ A2 c2, e = .returned (.slice A2 n c2) ∧ Kd.S k33 33 w' w.heap.size (fun _ => True) (.slice A2 n c2) L ∧ Below w.heap.size w w' := by
  subst hn
  refine (heraldlaw6_twins.calls (L.length + 67) A c L L w h1 h2 (by unfold heraldlaw6_twins.f; exact twins_l0 L hL L.length 0 _ (by omega) (by omega) (by omega))).mono ?_
  rintro e w' ⟨v, rfl, hv, hb⟩
  obtain ⟨A2, c2, rfl⟩ := Kd.S_slice hv
  exact ⟨A2, c2, rfl, hv, hb⟩
section
variable {W W' : World} {base : Nat} {OT OW OR : Nat → Prop} {b : Nat} {s : RS} {vT vW : Value} {PT PW : List (List S33)}
variable {P : Program} {ops : Array Oper} {rest : List Oper} {o : Oper} {a : Act} {Q : Exit → Act → World → Prop}
/-- append(told, l) of a list made since Wp. -/
theorem told_append {Wp Wc w0 : World} (hgd : o.guard = none) (sx x : Operand) (ho : o.op = .call { callee := .builtin .append, args := #[sx, x], argTypes := #[71, 71] })
    (h : Tri Wp base OT OW OR b s vT vW PT PW) (hb : Below Wp.heap.size Wp Wc) {L : List S33} {A : Option Addr} {n c : Nat} (hL : Kd.S k33 33 Wc Wp.heap.size (fun _ => True) (.slice A n c) L) (hs : a.eval sx = vT) (hx : a.eval x = .slice (some ⟨Wc.heap.size, 0, none⟩) 1 1) (hB : Below base w0 Wc) (hbase : base ≤ Wp.heap.size) (hl : PT.length ≤ 4000)
    (hk : ∀ v1 w1, (∃ OT1, Tri w1 base OT1 OW OR b s v1 vW (PT ++ [L]) PW) → Wc.grownBy w1 vT.ownBlock → (∀ q, vT.ownBlock = some q → q < Wp.heap.size) → Below base w0 w1 → wpList Try.prog ops Q rest (a.put o.dst v1) w1) : wpList Try.prog ops Q (o :: rest) a (Wc.alloc (.cells [Value.slice A n c].toArray 25)) := by
  have hlt : ∀ q, vT.ownBlock = some q → q < Wp.heap.size := fun q hq => h.bt q ((Kd.S_R h.t).1 q hq)
  refine Kd.S_append kT (w0 := w0) base hgd sx x 71 25 (.slice none 0 0) 24 ho Try.underlying71 info25 rfl (by decide) (by decide) vT PT L [.slice A n c] (fun k => OT k ∨ Wp.heap.size ≤ k) (fun k => Wp.heap.size ≤ k) hs hx ⟨_, rfl, Kd.S_lower (Kd.S_mono (Kd.S_bound hL) (fun k hk => hk.2.1)) hbase⟩ (fun k hk => ⟨.inr hk, fun e => by have := hlt k e.symm; omega⟩) (fun k hk => .inr (Nat.le_trans hb.size hk)) (Kd.S_mono (Kd.S_below h.t hb) (fun k hk => ⟨.inl hk, fun h2 => by have := h.bt k hk; omega⟩)) hB (Nat.le_trans hbase hb.size) (by omega) ?_
  intro v1 w1 ht hB1 hg hat
  exact hk v1 w1 ⟨_, h.told ht ((grown_of_below hb _).trans hg)⟩ hg hlt hB1
theorem was_append {Wp Wc w0 : World} (hgd : o.guard = none) (sx x : Operand) (ho : o.op = .call { callee := .builtin .append, args := #[sx, x], argTypes := #[71, 71] })
    (h : Tri Wp base OT OW OR b s vT vW PT PW) (hb : Below Wp.heap.size Wp Wc) {L : List S33} {A : Option Addr} {n c : Nat} (hL : Kd.S k33 33 Wc Wp.heap.size (fun _ => True) (.slice A n c) L) (hs : a.eval sx = vW) (hx : a.eval x = .slice (some ⟨Wc.heap.size, 0, none⟩) 1 1) (hB : Below base w0 Wc) (hbase : base ≤ Wp.heap.size) (hl : PW.length ≤ 4000)
    (hk : ∀ v1 w1, (∃ OW1, Tri w1 base OT OW1 OR b s vT v1 PT (PW ++ [L])) → Below base w0 w1 → wpList Try.prog ops Q rest (a.put o.dst v1) w1) : wpList Try.prog ops Q (o :: rest) a (Wc.alloc (.cells [Value.slice A n c].toArray 25)) := by
  have hlt : ∀ q, vW.ownBlock = some q → q < Wp.heap.size := fun q hq => h.bw q ((Kd.S_R h.w).1 q hq)
  refine Kd.S_append kT (w0 := w0) base hgd sx x 71 25 (.slice none 0 0) 24 ho Try.underlying71 info25 rfl (by decide) (by decide) vW PW L [.slice A n c] (fun k => OW k ∨ Wp.heap.size ≤ k) (fun k => Wp.heap.size ≤ k) hs hx ⟨_, rfl, Kd.S_lower (Kd.S_mono (Kd.S_bound hL) (fun k hk => hk.2.1)) hbase⟩ (fun k hk => ⟨.inr hk, fun e => by have := hlt k e.symm; omega⟩) (fun k hk => .inr (Nat.le_trans hb.size hk)) (Kd.S_mono (Kd.S_below h.w hb) (fun k hk => ⟨.inl hk, fun h2 => by have := h.bw k hk; omega⟩)) hB (Nat.le_trans hbase hb.size) (by omega) ?_
  intro v1 w1 ht hB1 hg hat
  exact hk v1 w1 ⟨_, h.was ht ((grown_of_below hb _).trans hg)⟩ hB1
end
end Go.Proofs.Ytcbejpmmlcdhnaa.PW
namespace Go.Proofs.Ytcbejpmmlcdhnaa.PW
open Go.RowKit Go.Proofs.YtcbejpmmlcdhnaaW.PrintWords Go.Proofs.YtcbejpmmlcdhnaaW.PrintLast Go.Proofs.YtcbejpmmlcdhnaaW.PrintMore
set_option linter.unusedVariables false
set_option linter.unusedSimpArgs false

section
variable {W : World} {base i : Nat} {OT : Nat → Prop} {vT v : Value} {L : List S33} {f : Nat → Nat} {vo vs : List Value}
/-- What a told list brings: its cells, its lists of ops. -/
theorem list_brings (h : Kd.S k33 33 W base (fun k => (OT k ∧ some k ≠ vT.ownBlock) ∧ f k = i) v L) (hL : few L) :
    ∃ (raw os : List Value), W.ownsRow base 33 6 v L.length raw ∧ os.length = L.length ∧ (∀ j, j < L.length → raw[j * 6 + 5]? = os[j]?) ∧ (∀ u ∈ os, ∃ Au nu cu, u = .slice Au nu cu) ∧ (∀ u ∈ os, Raw W base 55 5 u ∧ ∀ q, u.ownBlock = some q → OT q ∧ f q = i) ∧ Dist os := by
  obtain ⟨raw, f2, ho, hok, hy⟩ := open_list h
  have hget : ∀ j, j < L.length → ∃ u, raw[j * 6 + 5]? = some u ∧ ∃ y, L[j]? = some y ∧ Kd.R k55 55 W base (fun k => (((OT k ∧ some k ≠ vT.ownBlock) ∧ f k = i) ∧ some k ≠ v.ownBlock) ∧ f2 k = j) u y.f5 := by
    intro j hj
    obtain ⟨u, h1, h2⟩ := hy j _ (List.getElem?_eq_getElem hj)
    exact ⟨u, h1, _, List.getElem?_eq_getElem hj, h2⟩
  have hos : ∀ j, j < L.length → ((List.range L.length).map fun j => raw.getD (j * 6 + 5) undef)[j]? = raw[j * 6 + 5]? := by
    intro j hj
    obtain ⟨u, h1, _⟩ := hget j hj
    rw [List.getElem?_map, List.getElem?_range hj, h1]
    show some (raw.getD (j * 6 + 5) undef) = _
    rw [List.getD_eq_getElem?_getD, h1]
    rfl
  have hmem : ∀ u ∈ ((List.range L.length).map fun j => raw.getD (j * 6 + 5) undef), ∃ j, j < L.length ∧ raw[j * 6 + 5]? = some u := by
    intro u hu
    obtain ⟨j, hj, rfl⟩ := List.mem_map.1 hu
    have hj := List.mem_range.1 hj
    obtain ⟨u, h1, _⟩ := hget j hj
    exact ⟨j, hj, by rw [List.getD_eq_getElem?_getD, h1]; rfl⟩
  have hat : ∀ j u, raw[j * 6 + 5]? = some u → j < L.length → Raw W base 55 5 u ∧ (∃ Au nu cu, u = .slice Au nu cu) ∧ ∀ q, u.ownBlock = some q → OT q ∧ f q = i ∧ f2 q = j := by
    intro j u hu hj
    obtain ⟨u', h1, y, h2, h3⟩ := hget j hj
    rw [hu] at h1
    cases h1
    obtain ⟨hq, inner, hown, hr⟩ := h3
    refine ⟨⟨_, inner, hL.2 y (List.mem_of_getElem? h2), hown⟩, ?_, fun q h => ?_⟩
    · obtain ⟨Au, cu, h9, _⟩ := own_form hown
      exact ⟨_, _, _, h9⟩
    · have := hq q h
      exact ⟨this.1.1.1.1, this.1.1.2, this.2⟩
  refine ⟨raw, _, ho, by simp, fun j hj => (hos j hj).symm, fun u hu => ?_, fun u hu => ?_, fun j1 j2 u1 u2 h1 h2 hne b hb hb2 => ?_⟩
  · obtain ⟨j, hj, hu⟩ := hmem u hu
    exact (hat j u hu hj).2.1
  · obtain ⟨j, hj, hu⟩ := hmem u hu
    obtain ⟨g1, g2, g3⟩ := hat j u hu hj
    exact ⟨g1, fun q hq => ⟨(g3 q hq).1, (g3 q hq).2.1⟩⟩
  · have l1 := (List.getElem?_eq_some_iff.1 h1).1
    have l2 := (List.getElem?_eq_some_iff.1 h2).1
    rw [List.length_map, List.length_range] at l1 l2
    rw [hos j1 l1] at h1
    rw [hos j2 l2] at h2
    have e1 := ((hat j1 u1 h1 l1).2.2 b hb).2.2
    have e2 := ((hat j2 u2 h2 l2).2.2 b hb2).2.2
    exact hne (e1.symm.trans e2)
/-- The lists of ops of the first i told lists. -/
structure VOk (W : World) (base : Nat) (OT : Nat → Prop) (f : Nat → Nat) (i : Nat) (vo : List Value) : Prop where
  raw : ∀ u ∈ vo, Raw W base 55 5 u ∧ ∀ q, u.ownBlock = some q → OT q ∧ f q < i
  dist : Dist vo
  len : vo.length ≤ i * 64
theorem Dist.append {us ws : List Value} (h1 : Dist us) (h2 : Dist ws) (h : ∀ u ∈ us, ∀ w ∈ ws, ∀ b, u.ownBlock = some b → w.ownBlock ≠ some b) : Dist (us ++ ws) := by
  intro i j u v hi hj hne b hb hb2
  by_cases hli : i < us.length
  · rw [List.getElem?_append_left hli] at hi
    by_cases hlj : j < us.length
    · rw [List.getElem?_append_left hlj] at hj
      exact h1 i j u v hi hj hne b hb hb2
    · rw [List.getElem?_append_right (by omega)] at hj
      exact h u (List.mem_of_getElem? hi) v (List.mem_of_getElem? hj) b hb hb2
  · rw [List.getElem?_append_right (by omega)] at hi
    by_cases hlj : j < us.length
    · rw [List.getElem?_append_left hlj] at hj
      exact h v (List.mem_of_getElem? hj) u (List.mem_of_getElem? hi) b hb2 hb
    · rw [List.getElem?_append_right (by omega)] at hj
      exact h2 _ _ u v hi hj (by omega) b hb hb2
theorem VOk.zero : VOk W base OT f 0 [] := ⟨fun u hu => (by cases hu), fun i j u v hi => (by simp at hi), by simp⟩
theorem VOk.step {os : List Value} (h : VOk W base OT f i vo) (h1 : ∀ u ∈ os, Raw W base 55 5 u ∧ ∀ q, u.ownBlock = some q → OT q ∧ f q = i) (h2 : Dist os) (h3 : os.length ≤ 64) : VOk W base OT f (i + 1) (vo ++ os) := by
  refine ⟨fun u hu => ?_, h.dist.append h2 (fun u hu w hw b hb hb2 => ?_), by rw [List.length_append]; have := h.len; omega⟩
  · rcases List.mem_append.1 hu with hu | hu
    · obtain ⟨g1, g2⟩ := h.raw u hu
      exact ⟨g1, fun q hq => ⟨(g2 q hq).1, by have := (g2 q hq).2; omega⟩⟩
    · obtain ⟨g1, g2⟩ := h1 u hu
      exact ⟨g1, fun q hq => ⟨(g2 q hq).1, by have := (g2 q hq).2; omega⟩⟩
  · have e1 := ((h.raw u hu).2 b hb).2
    have e2 := ((h1 w hw).2 b hb2).2
    omega
theorem told_dist {P : List (List S33)} (hl : vs.length = P.length) (hvs : ∀ (i : Nat) (L : List S33), P[i]? = some L → ∃ v, vs[i]? = some v ∧ Kd.S k33 33 W base (fun k => (OT k ∧ some k ≠ vT.ownBlock) ∧ f k = i) v L) (hfew : ∀ L ∈ P, few L) :
    Dist vs ∧ (∀ (j : Nat) (v : Value), vs[j]? = some v → Raw W base 33 6 v ∧ ∀ q, v.ownBlock = some q → OT q ∧ f q = j) := by
  have hat : ∀ (j : Nat) (v : Value), vs[j]? = some v → Raw W base 33 6 v ∧ ∀ q, v.ownBlock = some q → OT q ∧ f q = j := by
    intro j v hj
    have hlt := (List.getElem?_eq_some_iff.1 hj).1
    rw [hl] at hlt
    obtain ⟨v', h1, h2⟩ := hvs j _ (List.getElem?_eq_getElem hlt)
    rw [hj] at h1
    cases h1
    obtain ⟨raw, f2, ho, hok, _⟩ := open_list h2
    exact ⟨⟨_, raw, (hfew _ (List.getElem_mem hlt)).1, ho⟩, fun q hq => ⟨(hok q hq).1.1, (hok q hq).2⟩⟩
  refine ⟨fun i j u v hi hj hne b hb hb2 => hne ?_, hat⟩
  exact ((hat i u hi).2 b hb).2.symm.trans ((hat j v hj).2 b hb2).2
end
section
variable {W W' : World} {base base' gb b : Nat} {ok : Nat → Prop} {s : RS} {ro rm re rx : Value} {vo mo ve me : List Value}
theorem Grown.below (h : Grown W base gb ro rm re rx vo mo ve me) (hb : Below W.heap.size W W') : Grown W' base gb ro rm re rx vo mo ve me :=
  h.step (fun t q _ ⟨cs, hc⟩ => hb.block q (blk_lt hc))
theorem Grown.own1 (h : Grown W base gb ro rm re rx vo mo ve me) (hR : RingIs W base' ok (some b) s) (hf : Frm W W' (own1 (some b))) : Grown W' base gb ro rm re rx vo mo ve me :=
  h.step (fun t q ht ⟨cs, hc⟩ => hf.block q (blk_lt hc) (fun hq => by
    cases hq
    obtain ⟨_, E, hA, _⟩ := hR
    obtain ⟨C, hC, _⟩ := RingAt_blk hA
    rw [hc] at hC
    cases hC
    exact ht rfl))
end
def o4 : S55 := ⟨4, ⟨#[]⟩, ⟨#[]⟩, 0, 0⟩
theorem one_reads {W : World} {g : Nat} (hb : W.heap[g]? = some (.cells (cells5 o4).toArray 55 (0, 0))) : Kd.C k55 W (some ⟨g, 0, none⟩) 1 [o4] := by
  refine ⟨rfl, by omega, fun _ => ⟨_, rfl, fun j p hp => ?_⟩⟩
  match j, hp with
  | 0, hp =>
    obtain rfl := Option.some.inj hp
    refine ⟨_, rfl, k55_mk _ _, fun i u hu => ?_⟩
    rw [add0, blk_cell hb]
    match i, hu with
    | 0, hu => exact hu
    | 1, hu => exact hu
    | 2, hu => exact hu
    | 3, hu => exact hu
    | 4, hu => exact hu
    | (i + 5), hu => simp at hu
  | (j + 1), hp => simp at hp
end Go.Proofs.Ytcbejpmmlcdhnaa.PW
