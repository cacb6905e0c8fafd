/- Words, contracts and walks of the law RingTells, in one text. -/
import Derived.Test.YtcbejpmmlcdhnaaX0
import Derived.Outline
namespace Go.Proofs.Ytcbejpmmlcdhnaa.PW
open Go.RowKit Go.Proofs.YtcbejpmmlcdhnaaW.PrintWords Go.Proofs.YtcbejpmmlcdhnaaW.PrintLast Go.Proofs.YtcbejpmmlcdhnaaW.PrintMore
set_option linter.unusedVariables false
set_option linter.unusedSimpArgs false
attribute [local go_sem] Oper.semAt_some

/-- The elements of a row of entries, each with blocks of its own. -/
theorem S_entries {w : World} {base g n cap : Nat} {ok : Nat → Prop} {L : List S33} (h : Kd.S k33 33 w base ok (.slice (some ⟨g, 0, none⟩) n cap) L) :
    ∃ f : Nat → Nat, ∀ (k : Nat) (y : S33), L[k]? = some y → ∃ A c, (∀ (j : Nat) (v : Value), (cells6 y (.slice A y.f5.length c))[j]? = some v → w.cell? ⟨g, k * 6 + j, none⟩ = some v) ∧
      Kd.R k55 55 w base (fun j => j ≠ g ∧ f j = k ∧ base ≤ j ∧ j < w.heap.size ∧ ok j) (.slice A y.f5.length c) y.f5 := by
  obtain ⟨f, hS⟩ := h
  obtain ⟨h0, inner, ⟨hl, ho⟩, hrl, hr⟩ := Kd.R_bound hS
  refine ⟨f, fun k y hk => ?_⟩
  have hz : L.zipIdx[k]? = some (y, k) := Kd.zip_at hk
  have hM := hr k _ hz
  obtain ⟨v5, hcs, hv⟩ := k33_openM (show k33.M w base _ y _ from hM)
  obtain ⟨A, c, rfl⟩ := Kd.R_slice hv
  rcases ho with ⟨he, _⟩ | ⟨g', cap', cur, he, hb, hh, hnc, hcm, hcs2, hcur⟩
  · cases he
  · injection he with he1 he2 he3
    injection he1 with he1
    injection he1 with he1
    subst he1
    refine ⟨A, c, ?_, Kd.R_mono hv (fun j hj => ⟨fun e => hj.1.2 (by rw [e]; simp [Value.ownBlock]), hj.2, hj.1.1.2.1, hj.1.1.2.2.1, hj.1.1.1⟩)⟩
    intro j v hj
    have hj6 : j < 6 := (List.getElem?_eq_some_iff.1 hj).1
    have h5 : ((inner.drop (k * 6)).take 6)[j]? = some v := by
      rw [show (inner.drop (k * 6)).take 6 = cells6 y (.slice A y.f5.length c) from hcs]
      exact hj
    rw [List.getElem?_take_of_lt hj6, List.getElem?_drop] at h5
    rw [blk_cell hh, ← Array.getElem?_toList]
    rw [← hcur] at h5
    have h6 := (List.getElem?_eq_some_iff.1 h5).1
    rw [List.length_take] at h6
    rw [List.getElem?_take_of_lt (by omega)] at h5
    exact h5
theorem setCells_drawn (g : Nat) : ∀ (vs : List Value) (o : Nat) (w : World), (w.setCells g o vs).drawn = w.drawn
  | [], _, _ => rfl
  | v :: r, o, w => by rw [World.setCells, setCells_drawn g r]; rfl
theorem alloc_full {w : World} {cur : Array Value} {e : TypeId} (vs : List Value) (hs : cur.size = vs.length) : (w.alloc (.cells cur e)).setCells w.heap.size 0 vs = w.alloc (.cells vs.toArray e) := by
  obtain ⟨h1, h2, h3, h4⟩ := setCells_same w.heap.size vs 0 (w.alloc (.cells cur e))
  have hb := blk_full (w := w.alloc (.cells cur e)) (g := w.heap.size) vs (heap_alloc_new w _) hs
  have hh : ((w.alloc (.cells cur e)).setCells w.heap.size 0 vs).heap = (w.alloc (.cells vs.toArray e)).heap := by
    apply Array.ext_getElem?
    intro i
    by_cases hi : i = w.heap.size
    · subst hi
      rw [hb, heap_alloc_new]
    · rw [setCells_far vs 0 i hi]
      simp only [World.alloc]
      rw [Array.getElem?_push, Array.getElem?_push, if_neg hi, if_neg hi]
  have h5 := setCells_drawn w.heap.size vs 0 (w.alloc (.cells cur e))
  cases hA : (w.alloc (.cells cur e)).setCells w.heap.size 0 vs
  rw [hA] at h1 h2 h3 h5 hh
  simp only [World.alloc] at h1 h2 h3 h5 hh ⊢
  subst h1 h2 h3 h5 hh
  rfl
/-- What the iterator itself holds while element k and those behind it are to come. -/
def Mine (T0 : Nat → Prop) (N0 N1 g : Nat) (f : Nat → Nat) (k : Nat) : Nat → Prop := fun j => T0 j ∨ (N0 ≤ j ∧ j < N1 ∧ (j = g ∨ k ≤ f j))
theorem out_all {W : World} {base b nn : Nat} {ok : Nat → Prop} {s : RS} (h : RingIs W base ok (some b) s) (hn : nn = s.l.length) :
    Calls Try.prog 34 #[.pointer (some ⟨b, 0, none⟩), .int .i64 (s.fl : Int), .int .i64 (nn : Int)] W fun e w' => e = .returned (.slice (some ⟨W.heap.size, 0, none⟩) nn nn) ∧ Kd.S k33 33 w' W.heap.size (fun _ => True) (.slice (some ⟨W.heap.size, 0, none⟩) nn nn) s.l ∧ Below W.heap.size W w' := by
  have := out_R h (s.fl : Int) (nn : Int) (.inr ⟨Int.le_refl _, by simp only [RS.la]; omega⟩)
  rw [Int.toNat_natCast, Int.toNat_natCast, Nat.sub_self, List.drop_zero, hn, List.take_length] at this
  rw [hn]
  exact this
def rg33.T1 : Bool × List (List Nat × List Nat) := (true, [([], []), ([], []), ([1], [1]), ([2], [2]), ([3], [3]), ([], []), ([5], [5]), ([6], [6]), ([7], [7]), ([], []), ([9], [9]), ([10], [10]), ([11], [11]), ([8, 12], [8, 12]), ([0, 4, 13], [0, 4, 13]), ([14], [14]), ([], [])])
def rg33.B1 : List Nat := [0, 0, 2, 6, 14, 0, 32, 96, 224, 0, 512, 1536, 3584, 8160, 16383, 32767, 0]
theorem rg33.tab1 : rtab .any (opsOf Try.f33 1) = rg33.T1 := by kernel_rfl
theorem rg33.bits1 : waitsOk rg33.T1.2 rg33.B1 = true := by kernel_rfl
set_option maxHeartbeats 4000000 in
set_option maxRecDepth 100000 in
theorem it33_some (Bn b : Nat) (s : RS) (base : Nat) (ok : Nat → Prop) (W : World) (hbox : W.cell? ⟨Bn, 0, none⟩ = some (.pointer (some ⟨b, 0, none⟩))) (hring : RingIs W base ok (some b) s) : ItRing Try.prog 33 Bn s.l W := by
  intro l J Jx T0 hJ hJx hT0 hY h0
  have HJ := Aside0.mk hJ
  have HY := Aside0.mk hY
  have HT0 := Aside0.mk hT0
  have H0 := Aside0.mk h0
  have HR := Aside0.mk hring
  obtain ⟨⟨r1, r2, r3, r4, r5, r6⟩, E, hR, _⟩ := id hring
  obtain ⟨c1, c2, c3, c4, c5⟩ := RingAt_cells hR
  obtain ⟨nn, hnn⟩ : ∃ nn, nn = s.l.length := ⟨_, rfl⟩
  have hlen : (s.la : Int) - (s.fl : Int) = (nn : Int) := by simp only [RS.la]; omega
  have hn64 : nn ≤ 64 := by omega
  have HNN := Aside0.mk hnn
  have hwr2 : wrap64 (nn : Int) = (nn : Int) := by unfold wrap64; omega
  have hla : (s.la : Int) ≤ 2147483647 := by omega
  have hflla : (s.fl : Int) ≤ (s.la : Int) := by simp only [RS.la]; omega
  have HRR := Aside0.mk (And.intro r1 (And.intro r2 r6))
  have d0 : W.drew.cell? ⟨Bn, 0, none⟩ = some (.pointer (some ⟨b, 0, none⟩)) := hbox
  have d1 : W.drew.cell? ⟨b, 385, none⟩ = some (.int .i64 (s.fl : Int)) := c2
  have d2 : W.drew.cell? ⟨b, 386, none⟩ = some (.int .i64 (s.la : Int)) := c3
  clear hJ hJx hY h0 hT0 hring hR r1 r2 r3 r4 r5 r6 c1 c4 c5 hnn
  go_enter Try.func33, Try.ntmps33
  go_wp2
  refine start_ (n := 17) (S := fun w' => w'.cell? ⟨Bn, 0, none⟩ = some (.pointer (some ⟨b, 0, none⟩)) ∧ w'.cell? ⟨b, 385, none⟩ = some (.int .i64 (s.fl : Int)) ∧ w'.cell? ⟨b, 386, none⟩ = some (.int .i64 (s.la : Int))) (ds := []) #[false, false, false, false, false, false, false, false, false, false, false, false, false, false, false, false, false] (by kernel_rfl) rfl rfl ⟨d0, d1, d2⟩ (fun hHeld => ?_)
  refine with_tabW rg33.tab1 rg33.bits1 (fun HT_ HW_ => ?_)
  refine pure_ (i := 16) (N := some 23) (v := ?_) (a' := ?_) #[false, false, false, false, false, false, false, false, false, false, false, false, false, false, false, false, true] rfl rfl (any_of HT_.out (by kernel_rfl)) (fun _ _ _ h => h) (Or.inl ⟨by rfl, ?_⟩) ?_ ?_
  rotate_left
  · intro w'
    go_simp
    with_reducible rfl
  rotate_left
  · simp only [Act.put, List.setIfInBounds_toArray, List.set_cons_zero, List.set_cons_succ, i64_w, i32_w]
    rfl
  refine take_ (i := 0) (N := some 7) (v := ?_) (a' := ?_) #[true, false, false, false, false, false, false, false, false, false, false, false, false, false, false, false, true] rfl rfl (take_ofW HT_.out HW_.out (by kernel_rfl)) (fun _ _ _ h => h) (Or.inl ⟨by rfl, ?_⟩) hHeld ?_ ?_
  rotate_left
  · rintro w' ⟨s0, s1, s2⟩
    go_simp
    with_reducible rfl
  rotate_left
  · simp only [Act.put, List.setIfInBounds_toArray, List.set_cons_zero, List.set_cons_succ, i64_w, i32_w]
    rfl
  refine take_ (i := 1) (N := some 8) (v := ?_) (a' := ?_) #[true, true, false, false, false, false, false, false, false, false, false, false, false, false, false, false, true] rfl rfl (take_ofW HT_.out HW_.out (by kernel_rfl)) (fun _ _ _ h => h) (Or.inl ⟨by rfl, ?_⟩) hHeld ?_ ?_
  rotate_left
  · rintro w' ⟨s0, s1, s2⟩
    go_simp
    with_reducible rfl
  rotate_left
  · simp only [Act.put, List.setIfInBounds_toArray, List.set_cons_zero, List.set_cons_succ, i64_w, i32_w]
    rfl
  refine pure_ (i := 2) (N := some 9) (v := ?_) (a' := ?_) #[true, true, true, false, false, false, false, false, false, false, false, false, false, false, false, false, true] rfl rfl (any_of HT_.out (by kernel_rfl)) (fun _ _ _ h => h) (Or.inl ⟨by rfl, ?_⟩) ?_ ?_
  rotate_left
  · intro w'
    go_simp
    with_reducible rfl
  rotate_left
  · simp only [Act.put, List.setIfInBounds_toArray, List.set_cons_zero, List.set_cons_succ, i64_w, i32_w]
    rfl
  refine pure_ (i := 3) (N := some 10) (v := ?_) (a' := ?_) #[true, true, true, true, false, false, false, false, false, false, false, false, false, false, false, false, true] rfl rfl (any_of HT_.out (by kernel_rfl)) (fun _ _ _ h => h) (Or.inl ⟨by rfl, ?_⟩) ?_ ?_
  rotate_left
  · intro w'
    go_simp
    with_reducible rfl
  rotate_left
  · simp only [Act.put, List.setIfInBounds_toArray, List.set_cons_zero, List.set_cons_succ, i64_w, i32_w]
    rfl
  refine take_ (i := 4) (N := some 11) (v := ?_) (a' := ?_) #[true, true, true, true, true, false, false, false, false, false, false, false, false, false, false, false, true] rfl rfl (take_ofW HT_.out HW_.out (by kernel_rfl)) (fun _ _ _ h => h) (Or.inl ⟨by rfl, ?_⟩) hHeld ?_ ?_
  rotate_left
  · rintro w' ⟨s0, s1, s2⟩
    go_simp
    with_reducible rfl
  rotate_left
  · simp only [Act.put, List.setIfInBounds_toArray, List.set_cons_zero, List.set_cons_succ, i64_w, i32_w]
    rfl
  refine take_ (i := 5) (N := some 12) (v := ?_) (a' := ?_) #[true, true, true, true, true, true, false, false, false, false, false, false, false, false, false, false, true] rfl rfl (take_ofW HT_.out HW_.out (by kernel_rfl)) (fun _ _ _ h => h) (Or.inl ⟨by rfl, ?_⟩) hHeld ?_ ?_
  rotate_left
  · rintro w' ⟨s0, s1, s2⟩
    go_simp
    with_reducible rfl
  rotate_left
  · simp only [Act.put, List.setIfInBounds_toArray, List.set_cons_zero, List.set_cons_succ, i64_w, i32_w]
    rfl
  refine pure_ (i := 6) (N := some 13) (v := ?_) (a' := ?_) #[true, true, true, true, true, true, true, false, false, false, false, false, false, false, false, false, true] rfl rfl (any_of HT_.out (by kernel_rfl)) (fun _ _ _ h => h) (Or.inl ⟨by rfl, ?_⟩) ?_ ?_
  rotate_left
  · intro w'
    go_simp
    with_reducible rfl
  rotate_left
  · simp only [Act.put, List.setIfInBounds_toArray, List.set_cons_zero, List.set_cons_succ, i64_w, i32_w]
    rfl
  refine pure_ (i := 7) (N := some 14) (v := ?_) (a' := ?_) #[true, true, true, true, true, true, true, true, false, false, false, false, false, false, false, false, true] rfl rfl (any_of HT_.out (by kernel_rfl)) (fun _ _ _ h => h) (Or.inl ⟨by rfl, ?_⟩) ?_ ?_
  rotate_left
  · intro w'
    go_simp
    with_reducible rfl
  rotate_left
  · simp only [Act.put, List.setIfInBounds_toArray, List.set_cons_zero, List.set_cons_succ, i64_w, i32_w]
    rfl
  refine take_ (i := 8) (N := some 15) (v := ?_) (a' := ?_) #[true, true, true, true, true, true, true, true, true, false, false, false, false, false, false, false, true] rfl rfl (take_ofW HT_.out HW_.out (by kernel_rfl)) (fun _ _ _ h => h) (Or.inl ⟨by rfl, ?_⟩) hHeld ?_ ?_
  rotate_left
  · rintro w' ⟨s0, s1, s2⟩
    go_simp
    with_reducible rfl
  rotate_left
  · simp only [Act.put, List.setIfInBounds_toArray, List.set_cons_zero, List.set_cons_succ, i64_w, i32_w]
    rfl
  refine take_ (i := 9) (N := some 16) (v := ?_) (a' := ?_) #[true, true, true, true, true, true, true, true, true, true, false, false, false, false, false, false, true] rfl rfl (take_ofW HT_.out HW_.out (by kernel_rfl)) (fun _ _ _ h => h) (Or.inl ⟨by rfl, ?_⟩) hHeld ?_ ?_
  rotate_left
  · rintro w' ⟨s0, s1, s2⟩
    go_simp
    with_reducible rfl
  rotate_left
  · simp only [Act.put, List.setIfInBounds_toArray, List.set_cons_zero, List.set_cons_succ, i64_w, i32_w]
    rfl
  refine pure_ (i := 10) (N := some 17) (v := ?_) (a' := ?_) #[true, true, true, true, true, true, true, true, true, true, true, false, false, false, false, false, true] rfl rfl (any_of HT_.out (by kernel_rfl)) (fun _ _ _ h => h) (Or.inl ⟨by rfl, ?_⟩) ?_ ?_
  rotate_left
  · intro w'
    go_simp
    with_reducible rfl
  rotate_left
  · simp only [Act.put, List.setIfInBounds_toArray, List.set_cons_zero, List.set_cons_succ, i64_w, i32_w]
    rfl
  refine pure_ (i := 11) (N := some 18) (v := ?_) (a' := ?_) #[true, true, true, true, true, true, true, true, true, true, true, true, false, false, false, false, true] rfl rfl (any_of HT_.out (by kernel_rfl)) (fun _ _ _ h => h) (Or.inl ⟨by rfl, ?_⟩) ?_ ?_
  rotate_left
  · intro w'
    go_simp
    with_reducible rfl
  rotate_left
  · simp only [Act.put, List.setIfInBounds_toArray, List.set_cons_zero, List.set_cons_succ, i64_w, i32_w]
    rfl
  refine take_ (i := 12) (N := some 19) (v := ?_) (a' := ?_) #[true, true, true, true, true, true, true, true, true, true, true, true, true, false, false, false, true] rfl rfl (take_ofW HT_.out HW_.out (by kernel_rfl)) (fun _ _ _ h => h) (Or.inl ⟨by rfl, ?_⟩) hHeld ?_ ?_
  rotate_left
  · rintro w' ⟨s0, s1, s2⟩
    go_simp
    with_reducible rfl
  rotate_left
  · simp only [Act.put, List.setIfInBounds_toArray, List.set_cons_zero, List.set_cons_succ, i64_w, i32_w]
    rfl
  refine pure_ (i := 13) (N := some 20) (v := ?_) (a' := ?_) #[true, true, true, true, true, true, true, true, true, true, true, true, true, true, false, false, true] rfl rfl (any_of HT_.out (by kernel_rfl)) (fun _ _ _ h => h) (Or.inl ⟨by rfl, ?_⟩) ?_ ?_
  rotate_left
  · intro w'
    go_simp
    with_reducible rfl
  rotate_left
  · simp only [Act.put, List.setIfInBounds_toArray, List.set_cons_zero, List.set_cons_succ, i64_w, i32_w]
    rfl
  refine one_ (i := 14) (N := some 21) #[true, true, true, true, true, true, true, true, true, true, true, true, true, true, true, false, true] rfl rfl (one_of HT_.out (by kernel_rfl)) (by decide) (fun K hK => ?_)
  refine goes_ Try.func34 (by kernel_rfl) rfl #[.pointer (some ⟨b, 0, none⟩), .int .i64 (s.fl : Int), .int .i64 (wrap64 (nn : Int))] (by rfl) rfl rfl (by simp only [List.map_toArray, List.map_cons, List.map_nil]; rfl) ?_
  rw [hwr2]
  with_reducible refine (out_all (RingIs_below HR.out (below_drew (Below.refl W.heap.size W))) HNN.out).mono ?_
  rintro e w3 ⟨rfl, hs3, hb3⟩
  refine ⟨_, rfl, ?_⟩
  refine hK.out _ _ ⟨(pw_cell_below hb3 d0), (pw_cell_below hb3 d1), (pw_cell_below hb3 d2)⟩ (fun hHeld => ?_)
  clear hK K
  refine norm_ (a' := ?_) ?_ ?_
  rotate_left
  · show Act.put _ (some 21) _ = _
    simp only [Act.put, List.setIfInBounds_toArray, List.set_cons_zero, List.set_cons_succ, i64_w, i32_w]
    rfl
  refine pure_ (i := 15) (N := some 22) (v := ?_) (a' := ?_) #[true, true, true, true, true, true, true, true, true, true, true, true, true, true, true, true, true] rfl rfl (any_of HT_.out (by kernel_rfl)) (fun _ _ _ h => h) (Or.inl ⟨by rfl, ?_⟩) ?_ ?_
  rotate_left
  · intro w'
    go_simp
    with_reducible rfl
  rotate_left
  · simp only [Act.put, List.setIfInBounds_toArray, List.set_cons_zero, List.set_cons_succ, i64_w, i32_w]
    rfl
  refine done_ (done_of HT_.out (by kernel_rfl)) ?_
  obtain ⟨f, hf⟩ := S_entries hs3
  have HSE := Aside0.mk hf
  have HB3 := Aside0.mk (show Below W.heap.size W w3 from below_then (below_drew (Below.refl W.heap.size W)) (Nat.le_refl _) hb3)
  have hg3 : W.heap.size < w3.heap.size := by
    have := Kd.S_lt hs3 W.heap.size (by simp [Value.ownBlock])
    exact this
  have HG3 := Aside0.mk hg3
  have HJ3 := Aside0.mk (show J (Mine T0 W.heap.size w3.heap.size W.heap.size f 0) 0 w3 from HJ.out T0 0 W w3 none _ H0.out (grown_of_below HB3.out none) (fun r e => by cases e) (fun k hk => hk.imp_right (fun h => ⟨h.1, h.2.1⟩)))
  clear hs3 hb3 hf hg3 d0 d1 d2
  go_wp2
  go_loopg [4, 23] nn (fun kq v4 v23 wr => ∃ k : Nat, k ≤ nn ∧ Aside0 (nn - k = kq) ∧ v23 = .int .i64 (k : Int) ∧ Aside0 (J (Mine T0 W.heap.size w3.heap.size W.heap.size f k) k wr) ∧ Aside0 (∀ j, W.heap.size ≤ j → j < w3.heap.size → (j = W.heap.size ∨ k ≤ f j) → wr.heap[j]? = w3.heap[j]?))
  case atStart => exact ⟨0, Nat.zero_le _, ⟨rfl⟩, rfl, HJ3, ⟨fun _ _ _ _ => rfl⟩⟩
  case round =>
    obtain ⟨k, hk, HKQ, rfl, HJK, HKP⟩ := hrel
    by_cases hlt : k < nn
    · have hd : decide ((k : Int) < (nn : Int)) = true := decide_eq_true (by omega)
      have hx := List.getElem?_eq_getElem (show k < s.l.length by rw [← HNN.out]; exact hlt)
      obtain ⟨y, hy⟩ : ∃ y, y = s.l[k]'(by rw [← HNN.out]; exact hlt) := ⟨_, rfl⟩
      rw [← hy] at hx
      obtain ⟨A, c, hcell, hrow⟩ := HSE.out k y hx
      have hgb : wr.heap[W.heap.size]? = w3.heap[W.heap.size]? := HKP.out _ (Nat.le_refl _) HG3.out (.inl rfl)
      have hcell2 : ∀ (j : Nat) (v : Value), (cells6 y (.slice A y.f5.length c))[j]? = some v → wr.cell? ⟨W.heap.size, k * 6 + j, none⟩ = some v := fun j v hj => by
        rw [show wr.cell? ⟨W.heap.size, k * 6 + j, none⟩ = w3.cell? ⟨W.heap.size, k * 6 + j, none⟩ by simp only [World.cell?]; rw [hgb]]
        exact hcell j v hj
      obtain ⟨m5, hm5⟩ : ∃ m5, m5 = y.f5.length := ⟨_, rfl⟩
      rw [← hm5] at hcell2 hrow
      have v0 : wr.cell? ⟨W.heap.size, k * 6, none⟩ = some (.int .i64 y.f0) := hcell2 0 _ rfl
      have v1 : wr.cell? ⟨W.heap.size, k * 6 + 1, none⟩ = some (.int .i64 y.f1) := hcell2 1 _ rfl
      have v2 : wr.cell? ⟨W.heap.size, k * 6 + 2, none⟩ = some (.int .i64 y.f2) := hcell2 2 _ rfl
      have v3 : wr.cell? ⟨W.heap.size, k * 6 + 3, none⟩ = some (.int .i64 y.f3) := hcell2 3 _ rfl
      have v4 : wr.cell? ⟨W.heap.size, k * 6 + 4, none⟩ = some (.int .i64 y.f4) := hcell2 4 _ rfl
      have v5 : wr.cell? ⟨W.heap.size, k * 6 + 5, none⟩ = some (.slice A m5 c) := hcell2 5 _ rfl
      have hnew : (wr.alloc (.cells zeroCells 33)).heap[wr.heap.size]? = some (.cells zeroCells 33) := heap_alloc_new _ _
      have HX := Aside0.mk hx
      have HM := Aside0.mk hm5
      have HROW := Aside0.mk hrow
      have HNEW := Aside0.mk hnew
      clear hx hy hcell hcell2 hgb hrow hm5 hnew
      go_wp2_with (with_reducible refine stop_store rfl ?_)
      refine wpList_store rfl rfl 33 (.tmp 4) (.tmp 26) rfl (.agg #[.int .i64 y.f0, .int .i64 y.f1, .int .i64 y.f2, .int .i64 y.f3, .int .i64 y.f4, .slice A m5 c]) (cells6 y (.slice A m5 c)) rfl rfl HNEW.out rfl size33 (by show 0 + 6 ≤ 6; omega) (by simp [cells6, Value.oneCell']) ?_
      rw [alloc_full (w := wr) (cur := zeroCells) (e := 33) (cells6 y (.slice A m5 c)) rfl]
      have hb2 : (wr.alloc (.cells (cells6 y (.slice A m5 c)).toArray 33)).heap[wr.heap.size]? = some (.cells (cells6 y (.slice A m5 c)).toArray 33) := heap_alloc_new _ _
      have hJ2 : J (fun j => Mine T0 W.heap.size w3.heap.size W.heap.size f (k + 1) j ∨ (j ≠ W.heap.size ∧ f j = k ∧ W.heap.size ≤ j ∧ j < w3.heap.size)) k (wr.alloc (.cells (cells6 y (.slice A m5 c)).toArray 33)) := by
        refine TOwn.less HJ.out (HJ.out.alloc (T' := Mine T0 W.heap.size w3.heap.size W.heap.size f k) _ HJK.out (fun j hj => .inl hj)) (fun j hj => ?_)
        rcases hj with (h | ⟨h1, h2, h3⟩) | ⟨h1, h2, h3, h4⟩
        · exact .inl h
        · exact .inr ⟨h1, h2, h3.imp_right (fun h => by omega)⟩
        · exact .inr ⟨h3, h4, .inr (by omega)⟩
      have hbel : Below wr.heap.size wr (wr.alloc (.cells (cells6 y (.slice A m5 c)).toArray 33)) := below_alloc (Below.refl _ _) _
      obtain ⟨wx, hwx⟩ : ∃ wx, wx = wr.alloc (.cells (cells6 y (.slice A m5 c)).toArray 33) := ⟨_, rfl⟩
      rw [← hwx] at hb2 hJ2 hbel ⊢
      have hkeep : ∀ j, W.heap.size ≤ j → j < w3.heap.size → (j = W.heap.size ∨ k ≤ f j) → wx.heap[j]? = w3.heap[j]? := fun j h1 h2 h3 => by
        have h4 := HKP.out j h1 h2 h3
        have h5 : j < wr.heap.size := by
          rw [Array.getElem?_eq_getElem h2] at h4
          exact (Array.getElem?_eq_some_iff.1 h4).1
        exact (hbel.block j h5).trans h4
      have hhand : Handed W.heap.size (Mine T0 W.heap.size w3.heap.size W.heap.size f (k + 1)) y A c (fun j => j ≠ W.heap.size ∧ f j = k ∧ W.heap.size ≤ j ∧ j < w3.heap.size) wx := by
        refine ⟨?_, fun j hj => ⟨fun hm => ?_, hj.2.2.1, ?_⟩⟩
        · rw [← HM.out]
          exact Kd.R_step (Kd.R_mono HROW.out (fun j hj => ⟨hj.1, hj.2.1, hj.2.2.1, hj.2.2.2.1⟩)) (fun j hj _ => hkeep j hj.2.2.1 hj.2.2.2 (.inr (by omega)))
        · rcases hm with hm | ⟨_, _, hm⟩
          · have := HT0.out j hm
            omega
          · rcases hm with hm | hm
            · exact hj.1 hm
            · omega
        · have h4 := hkeep j hj.2.2.1 hj.2.2.2 (.inr (by omega))
          rw [Array.getElem?_eq_getElem hj.2.2.2] at h4
          exact (Array.getElem?_eq_some_iff.1 h4).1
      have u0 : wx.cell? ⟨wr.heap.size, 0, none⟩ = some (.int .i64 y.f0) := (blk_cell hb2 0).trans rfl
      have u1 : wx.cell? ⟨wr.heap.size, 1, none⟩ = some (.int .i64 y.f1) := (blk_cell hb2 1).trans rfl
      have u2 : wx.cell? ⟨wr.heap.size, 2, none⟩ = some (.int .i64 y.f2) := (blk_cell hb2 2).trans rfl
      have u3 : wx.cell? ⟨wr.heap.size, 3, none⟩ = some (.int .i64 y.f3) := (blk_cell hb2 3).trans rfl
      have u4 : wx.cell? ⟨wr.heap.size, 4, none⟩ = some (.int .i64 y.f4) := (blk_cell hb2 4).trans rfl
      have u5 : wx.cell? ⟨wr.heap.size, 5, none⟩ = some (.slice A m5 c) := (blk_cell hb2 5).trans rfl
      have hTlt : ∀ j, Mine T0 W.heap.size w3.heap.size W.heap.size f (k + 1) j → j < wx.heap.size := by
        have hg := hkeep W.heap.size (Nat.le_refl _) HG3.out (.inl rfl)
        rw [Array.getElem?_eq_getElem HG3.out] at hg
        have hglt : W.heap.size < wx.heap.size := (Array.getElem?_eq_some_iff.1 hg).1
        intro j hj
        rcases hj with hj | ⟨h1, h2, h3⟩
        · have := HT0.out j hj
          omega
        · have h4 := hkeep j h1 h2 (h3.imp_right (fun h => by omega))
          rw [Array.getElem?_eq_getElem h2] at h4
          exact (Array.getElem?_eq_some_iff.1 h4).1
      have hYA := HY.out _ k y A c _ wx (fun j hj => .inl hj) hTlt HX.out hJ2 hhand
      rw [← HM.out] at hYA
      have HYA := Aside0.mk hYA
      have HKE := Aside0.mk hkeep
      have HTL := Aside0.mk hTlt
      have HBX := Aside0.mk hb2
      clear hYA hkeep hTlt hJ2 hhand hbel hb2 hwx
      refine wpList_nil ?_
      refine ‹∀ (a : Act) (w : World), Code.wp Try.prog _ _ a w → _› _ _ ?_
      refine wp_seq ?_
      refine (wpIn_wide (n := 0)).1 ?_
      refine wpIn_region_lit ?_
      refine listIn_value (r := none) (W1 := wx) (v := .func (.yield l) #[] #[]) rfl (by simp) (by rfl) ?_
      refine listIn_value (r := none) (W1 := wx) (v := .agg #[.int .i64 y.f0, .int .i64 y.f1, .int .i64 y.f2, .int .i64 y.f3, .int .i64 y.f4, .slice A m5 c]) rfl (by simp) ?_ ?_
      · go_simp
      refine listIn_yield (r := none) (.tmp 27) (.tmp 28) _ rfl rfl (by rfl) (by rfl) HYA.out ?_ (by rintro c W' ⟨(⟨h, _⟩ | ⟨h, _⟩), _⟩ <;> cases h) (by rintro W' ⟨(⟨h, _⟩ | ⟨h, _⟩), _⟩ <;> cases h)
      rintro v W' ⟨(⟨h, hj'⟩ | ⟨h, hjx⟩), hTk⟩
      · cases h
        have HJ' := Aside0.mk hj'
        have HK' := Aside0.mk (show ∀ j, W.heap.size ≤ j → j < w3.heap.size → (j = W.heap.size ∨ k + 1 ≤ f j) → W'.heap[j]? = w3.heap[j]? from fun j h1 h2 h3 => (hTk j (.inr ⟨h1, h2, h3⟩) h1 (HTL.out j (.inr ⟨h1, h2, h3⟩))).trans (HKE.out j h1 h2 (h3.imp_right (fun h => by omega))))
        clear hj' hTk u0 u1 u2 u3 u4 u5 v0 v1 v2 v3 v4 v5
        refine listIn_value (r := none) rfl (by simp) (by rfl) ?_
        refine wpListIn_nil ?_
        go_wp2
        go_roundg (nn - (k + 1))
        case measure => have := HKQ.out; omega
        case rel => exact ⟨k + 1, by omega, ⟨rfl⟩, by go_num, HJ', HK'⟩
      · cases h
        have HJX := Aside0.mk hjx
        clear hjx hTk u0 u1 u2 u3 u4 u5 v0 v1 v2 v3 v4 v5
        refine listIn_value (r := none) rfl (by simp) (by rfl) ?_
        refine wpListIn_nil ?_
        go_wp2
        refine bodyPost_ret (results_none rfl _ _ _) rfl ?_
        exact ⟨⟨_, rfl⟩, .inr HJX.out⟩
    · have hd : decide ((k : Int) < (nn : Int)) = false := decide_eq_false (by omega)
      have hkn : k = nn := by omega
      have HJF := Aside0.mk (TOwn.less HJ.out (hkn ▸ HJK.out) (fun j hj => (.inl hj : Mine T0 W.heap.size w3.heap.size W.heap.size f nn j)))
      rw [HNN.out] at HJF
      clear hkn
      go_wp2
      go_end0
      exact ⟨⟨_, rfl⟩, .inl HJF.out⟩
set_option maxRecDepth 100000 in
theorem it33 (Bn : Nat) (p : Option Nat) (s : RS) (base : Nat) (ok : Nat → Prop) (W : World) (hbox : W.cell? ⟨Bn, 0, none⟩ = some (ptr p)) (hring : RingIs W base ok p s) : ItRing Try.prog 33 Bn s.l W := by
  cases p with
  | some b => exact it33_some Bn b s base ok W hbox hring
  | none =>
    intro l J Jx T0 hJ hJx hT0 hY h0
    obtain ⟨_, rfl⟩ := hring
    have HZ := Aside0.mk h0
    have hb : W.cell? ⟨Bn, 0, none⟩ = some (.pointer none) := hbox
    clear hJ hJx hT0 hY h0 hbox
    go_enter Try.func33, Try.ntmps33
    go_wp2
    refine bodyPost_ret (results_none rfl _ _ _) rfl ?_
    exact ⟨⟨_, rfl⟩, .inl HZ.out⟩
end Go.Proofs.Ytcbejpmmlcdhnaa.PW
namespace Go.Proofs.Ytcbejpmmlcdhnaa.PW
open Go.RowKit Go.Proofs.YtcbejpmmlcdhnaaW.PrintWords Go.Proofs.YtcbejpmmlcdhnaaW.PrintLast Go.Proofs.YtcbejpmmlcdhnaaW.PrintMore
set_option linter.unusedVariables false
set_option linter.unusedSimpArgs false
attribute [local go_sem] Oper.semAt_some

/-- A block of cells. -/
def Celly (W : World) (j : Nat) : Prop := ∃ cs q, W.heap[j]? = some (.cells cs q (0, 0))
theorem Celly.lt {W : World} {j : Nat} (h : Celly W j) : j < W.heap.size := by obtain ⟨cs, q, h⟩ := h; exact blk_lt h
theorem S_celly {α : Type} {d : Kd α} {e base : Nat} {ok : Nat → Prop} {w : World} {v : Value} {xs : List α} (h : Kd.S d e w base ok v xs) : Kd.S d e w base (fun k => ok k ∧ base ≤ k ∧ Celly w k) v xs :=
  Kd.S_mono (Kd.S_bound h) (fun k hk => ⟨hk.1, hk.2.1, by obtain ⟨q, _, cs, hc⟩ := hk.2.2.2; exact ⟨cs, q, hc⟩⟩)
theorem R_celly {α : Type} {d : Kd α} {e base : Nat} {ok : Nat → Prop} {w : World} {v : Value} {xs : List α} (h : d.R e w base ok v xs) : d.R e w base (fun k => ok k ∧ base ≤ k ∧ Celly w k) v xs :=
  Kd.R_mono (Kd.R_bound h) (fun k hk => ⟨hk.1, hk.2.1, by obtain ⟨q, _, cs, hc⟩ := hk.2.2.2; exact ⟨cs, q, hc⟩⟩)
/-- What a turn of a block that is no cells, or new blocks, leave alone. -/
theorem celly_grown {W W' : World} {row : Option Nat} {j B : Nat} (hc : Celly W j) (hg : W.grownBy W' row) (hr : ∀ r, row = some r → B ≤ r ∧ ∃ o : Obj, W.heap[r]? = some o ∧ o.isCells = false) : W'.heap[j]? = W.heap[j]? := by
  obtain ⟨cs, q, h⟩ := hc
  refine hg.block j (blk_lt h) (fun e => ?_)
  obtain ⟨_, o, ho, hc⟩ := hr j e.symm
  rw [h] at ho
  cases ho
  cases hc
theorem Celly.grown {W W' : World} {row : Option Nat} {j B : Nat} (hc : Celly W j) (hg : W.grownBy W' row) (hr : ∀ r, row = some r → B ≤ r ∧ ∃ o : Obj, W.heap[r]? = some o ∧ o.isCells = false) : Celly W' j := by
  have := celly_grown hc hg hr
  obtain ⟨cs, q, h⟩ := hc
  exact ⟨cs, q, this.trans h⟩
theorem blk_celly {W W' : World} {row : Option Nat} {j B : Nat} {cs : Array Value} {q : TypeId} (h : W.heap[j]? = some (.cells cs q (0, 0))) (hg : W.grownBy W' row) (hr : ∀ r, row = some r → B ≤ r ∧ ∃ o : Obj, W.heap[r]? = some o ∧ o.isCells = false) : W'.heap[j]? = some (.cells cs q (0, 0)) := (celly_grown ⟨cs, q, h⟩ hg hr).trans h
/-- All: a closure over the ring's pointer. -/
theorem All_C (p : Option Nat) (w : World) : Calls Try.prog 13 #[ptr p] w fun e w' => e = .returned (.func (.func 33) #[] #[.pointer (some ⟨w.heap.size, 0, none⟩)]) ∧ w' = w.alloc (.cells #[ptr p] 23) := by
  unfold ptr
  go_enter Try.func13, Try.ntmps13
  go_wp2
  go_ret
  exact ⟨rfl, rfl⟩
/-- While entries are collected: L.take k in the row at block n0 + 2. -/
def AllI (w0 : World) (p : Option Nat) (L : List S33) (T : Nat → Prop) (k : Nat) (W : World) : Prop :=
  ∃ v okr, Kd.S k33 33 W w0.heap.size okr v (L.take k) ∧ W.heap[w0.heap.size]? = some (.cells #[.slice none 0 0] 25 (0, 0)) ∧ W.heap[w0.heap.size + 1]? = some (.cells #[.bool false] 4 (0, 0)) ∧ W.heap[w0.heap.size + 2]? = some (.cells #[v] 25 (0, 0)) ∧ W.heap[w0.heap.size + 3]? = some (.cells #[ptr p] 23 (0, 0)) ∧
    (∀ j, okr j → w0.heap.size + 4 ≤ j ∧ ¬ T j ∧ Celly W j) ∧ Below w0.heap.size w0 W
theorem AllI_own (w0 : World) (p : Option Nat) (L : List S33) (hB : w0.heap.size ≤ w0.heap.size + 4) : TOwn (w0.heap.size + 4) (AllI w0 p L) := by
  rintro T k W W' row T' ⟨v, okr, h1, h2, h3, h4, h5, h6, h7⟩ hg hr hT
  refine ⟨v, okr, Kd.S_step h1 (fun j hj _ => celly_grown (h6 j hj).2.2 hg hr), blk_celly h2 hg hr, blk_celly h3 hg hr, blk_celly h4 hg hr, blk_celly h5 hg hr, fun j hj => ⟨(h6 j hj).1, fun hx => ?_, (h6 j hj).2.2.grown hg hr⟩, h7.grown hg h7.size (fun r e => by have := (hr r e).1; omega)⟩
  rcases hT j hx with h | h
  · exact (h6 j hj).2.1 h
  · have := (h6 j hj).2.2.lt
    omega
end Go.Proofs.Ytcbejpmmlcdhnaa.PW
namespace Go.Proofs.Ytcbejpmmlcdhnaa.PW
open Go.RowKit Go.Proofs.YtcbejpmmlcdhnaaW.PrintWords Go.Proofs.YtcbejpmmlcdhnaaW.PrintLast Go.Proofs.YtcbejpmmlcdhnaaW.PrintMore
set_option linter.unusedVariables false
set_option linter.unusedSimpArgs false
attribute [local go_sem] Oper.semAt_some

theorem results_25_4 {fn : Func} {p q : Tmp} (h : fn.results = #[.cell p 25, .cell q 4]) (tmps : Array Value) (w : World) (g1 g2 n c : Nat) (A : Option Addr) (b : Bool)
    (hp : tmps.getD p undef = .pointer (some ⟨g1, 0, none⟩)) (hq : tmps.getD q undef = .pointer (some ⟨g2, 0, none⟩)) (c1 : w.cell? ⟨g1, 0, none⟩ = some (.slice A n c)) (c2 : w.cell? ⟨g2, 0, none⟩ = some (.bool b)) :
    (results fn tmps).run Try.prog w = .ok (.tuple #[.slice A n c, .bool b]) w := by
  have hp' : tmps[p]?.getD undef = .pointer (some ⟨g1, 0, none⟩) := by simpa using hp
  have hq' : tmps[q]?.getD undef = .pointer (some ⟨g2, 0, none⟩) := by simpa using hq
  have l1 : (loadVar 25 ⟨g1, 0, none⟩).run Try.prog w = .ok (.slice A n c) w := by go_simp
  have l2 : (loadVar 4 ⟨g2, 0, none⟩).run Try.prog w = .ok (.bool b) w := by go_simp
  simp [results, h, hp', hq', asAddr, l1, l2]
theorem blk4 (w : World) (o0 o1 o2 o3 : Obj) {W : World} (hW : W = (((w.alloc o0).alloc o1).alloc o2).alloc o3) : W.heap[w.heap.size]? = some o0 ∧ W.heap[w.heap.size + 1]? = some o1 ∧ W.heap[w.heap.size + 2]? = some o2 ∧ W.heap[w.heap.size + 3]? = some o3 ∧ W.heap.size = w.heap.size + 4 ∧ Below w.heap.size w W := by
  subst hW
  have s1 := szA w o0
  have s2 := szA (w.alloc o0) o1
  have s3 := szA ((w.alloc o0).alloc o1) o2
  have s4 := szA (((w.alloc o0).alloc o1).alloc o2) o3
  have n0 := heap_alloc_new w o0
  have n1 := heap_alloc_new (w.alloc o0) o1
  have n2 := heap_alloc_new ((w.alloc o0).alloc o1) o2
  have n3 := heap_alloc_new (((w.alloc o0).alloc o1).alloc o2) o3
  have b2 : Below (w.alloc o0).heap.size (w.alloc o0) ((w.alloc o0).alloc o1) := below_alloc (Below.refl _ _) _
  have b3 : Below ((w.alloc o0).alloc o1).heap.size ((w.alloc o0).alloc o1) (((w.alloc o0).alloc o1).alloc o2) := below_alloc (Below.refl _ _) _
  have b4 : Below (((w.alloc o0).alloc o1).alloc o2).heap.size (((w.alloc o0).alloc o1).alloc o2) ((((w.alloc o0).alloc o1).alloc o2).alloc o3) := below_alloc (Below.refl _ _) _
  rw [s1] at n1
  rw [s2, s1] at n2
  rw [s3, s2, s1] at n3
  refine ⟨?_, ?_, ?_, ?_, by omega, below_alloc (below_alloc (below_alloc (below_alloc (Below.refl _ _) _) _) _) _⟩
  · exact (b4.block _ (by omega)).trans ((b3.block _ (by omega)).trans ((b2.block _ (by omega)).trans n0))
  · exact (b4.block _ (by omega)).trans ((b3.block _ (by omega)).trans n1)
  · exact (b4.block _ (by omega)).trans n2
  · exact n3
theorem eq29 (f : FuncId) (xs : Array Value) : ∀ W : World, (binOp .eql 29 (.func (.func f) #[] xs) .nilFunc).run Try.prog W = .ok (.bool false) W := fun W => by kernel_rfl
set_option maxHeartbeats 8000000 in
set_option maxRecDepth 100000 in
theorem all_R {w : World} {base : Nat} {ok : Nat → Prop} {p : Option Nat} {s : RS} (h : RingIs w base ok p s) :
    Calls Try.prog 12 #[ptr p] w fun e w' => ∃ A n c, e = .returned (.tuple #[.slice A n c, .bool true]) ∧ n = s.l.length ∧ n ≤ c ∧ Kd.S k33 33 w' w.heap.size (fun _ => True) (.slice A n c) s.l ∧ Below w.heap.size w w' := by
  have H := Aside0.mk h
  have hlen : s.l.length ≤ 64 := Nat.le_trans h.1.2.1 h.1.1
  have HLEN := Aside0.mk hlen
  clear h hlen
  refine (callsIn_wide (n := 0)).1 (callsIn_of_wp_marks Try.func12 rfl trivial ?_)
  refine (wpIn_wide (n := 0)).2 ?_
  simp only [Try.ntmps12, List.size_toArray, List.length_cons, List.length_nil, Nat.reduceAdd, Nat.reduceSub, Array.replicate_succ, Array.replicate_zero, List.push_toArray, List.append_toArray, List.nil_append, List.cons_append]
  go_wp2_with fail
  refine (All_C p _).mono ?_
  rintro e w1 ⟨rfl, rfl⟩
  obtain ⟨w1, hw1⟩ : ∃ w1, w1 = (((w.alloc (.cells #[.slice none 0 0] 25)).alloc (.cells #[.bool false] 4)).alloc (.cells #[.slice none 0 0] 25)).alloc (.cells #[ptr p] 23) := ⟨_, rfl⟩
  have hsz : (((w.alloc (.cells #[.slice none 0 0] 25)).alloc (.cells #[.bool false] 4)).alloc (.cells #[.slice none 0 0] 25)).heap.size = w.heap.size + 3 := by rw [szA, szA, szA]
  obtain ⟨b0, b1, b2, b3, b4, b5⟩ := blk4 w _ _ _ _ hw1
  rw [← hw1, hsz]
  have HB := Aside0.mk (And.intro b0 (And.intro b1 (And.intro b2 (And.intro b3 (And.intro b4 b5)))))
  have he := eq29 33 #[.pointer (some ⟨w.heap.size + 3, 0, none⟩)]
  have e2 : w.heap.size + 1 + 1 = w.heap.size + 2 := rfl
  rw [e2]
  clear hw1 hsz b0 b1 b2 b3 b4 b5 e2
  go_wp2
  have hI0 : AllI w p s.l (fun _ => False) 0 w1 := ⟨.slice none 0 0, fun _ => False, Kd.S_nil _ _ _ _ _, HB.out.1, HB.out.2.1, HB.out.2.2.1, HB.out.2.2.2.1, fun j hj => hj.elim, HB.out.2.2.2.2.2⟩
  refine rangeRing (gf := 33) (Bn := w.heap.size + 3) 6 s.l rfl (enters_ Try.func33 (by kernel_rfl) rfl) rfl (AllI w p s.l) (fun _ _ => False) (fun _ => False) ?hI ?hIx ?h0 ?hT0 ?hit ?assign ?body ?done ?stop
  case hI => exact TOwn.weak (AllI_own w p s.l (by omega)) (by have := HB.out.2.2.2.2.1; omega)
  case hIx => exact fun c s A B row hs hg hr => hs
  case h0 => exact hI0
  case hT0 => exact fun j hj => hj.elim
  case hit =>
    rintro T W ⟨v, okr, h1, h2, h3, h4, h5, h6, h7⟩
    exact it33 _ p s base ok W (blk_cell h5 0) (RingIs_below H.out h7)
  case assign =>
    intro l y A c W K hK
    simp only [List.zip_toArray, List.zip_cons_cons, List.zip_nil_left, List.zip_nil_right, List.foldl_toArray, List.foldl_toArray', List.foldl_cons, List.foldl_nil, List.setIfInBounds_toArray, List.set_cons_zero, List.set_cons_succ] at hK ⊢
    refine region_round l (by rintro ⟨a, w, h⟩; exact h) (by simp) ?_
    obtain ⟨m5, hm5⟩ : ∃ m5, m5 = y.f5.length := ⟨_, rfl⟩
    rw [← hm5] at hK ⊢
    have HK := Aside0.mk hK
    have HNEW := Aside0.mk (heap_alloc_new W (.cells zeroCells 33))
    clear hK hm5
    unfold entV at *
    go_wp2_with (with_reducible refine stop_store rfl ?_)
    refine wpList_store rfl rfl 33 (.tmp 6) (.tmp 12) rfl (.agg #[.int .i64 y.f0, .int .i64 y.f1, .int .i64 y.f2, .int .i64 y.f3, .int .i64 y.f4, .slice A m5 c]) (cells6 y (.slice A m5 c)) rfl rfl HNEW.out rfl size33 (by show 0 + 6 ≤ 6; omega) (by simp [cells6, Value.oneCell']) ?_
    rw [alloc_full (w := W) (cur := zeroCells) (e := 33) (cells6 y (.slice A m5 c)) rfl]
    exact wpList_nil HK.out
  case body =>
    rintro T l k y A c okx B W hT hTlt hTl hle hloop hy ⟨v, okr, h1, h2, h3, h4, h5, h6, h7⟩ ⟨hR, hokx⟩ hBle hbx
    have hs4 : w1.heap.size = w.heap.size + 4 := HB.out.2.2.2.2.1
    rw [hs4] at hle hR hokx hBle
    simp only [List.zip_toArray, List.zip_cons_cons, List.zip_nil_left, List.zip_nil_right, List.foldl_toArray, List.foldl_toArray', List.foldl_cons, List.foldl_nil, List.setIfInBounds_toArray, List.set_cons_zero, List.set_cons_succ]
    obtain ⟨m5, hm5⟩ : ∃ m5, m5 = y.f5.length := ⟨_, rfl⟩
    rw [← hm5] at hR hbx ⊢
    unfold entV
    have c4 : W.cell? ⟨w.heap.size + 2, 0, none⟩ = some v := (blk_cell h4 0).trans rfl
    have z4 : W.frozen? ⟨w.heap.size + 2, 0, none⟩ = false := blk_frozen h4 0
    have u0 : W.cell? ⟨B, 0, none⟩ = some (.int .i64 y.f0) := (blk_cell hbx 0).trans rfl
    have u1 : W.cell? ⟨B, 1, none⟩ = some (.int .i64 y.f1) := (blk_cell hbx 1).trans rfl
    have u2 : W.cell? ⟨B, 2, none⟩ = some (.int .i64 y.f2) := (blk_cell hbx 2).trans rfl
    have u3 : W.cell? ⟨B, 3, none⟩ = some (.int .i64 y.f3) := (blk_cell hbx 3).trans rfl
    have u4 : W.cell? ⟨B, 4, none⟩ = some (.int .i64 y.f4) := (blk_cell hbx 4).trans rfl
    have u5 : W.cell? ⟨B, 5, none⟩ = some (.slice A m5 c) := (blk_cell hbx 5).trans rfl
    have hkl : k < s.l.length := (List.getElem?_eq_some_iff.1 hy).1
    have htk : s.l.take (k + 1) = s.l.take k ++ [y] := by
      rw [List.take_add_one, hy]
      rfl
    have F1 := Aside0.mk h1
    have F2 := Aside0.mk h2
    have F3 := Aside0.mk h3
    have F4 := Aside0.mk h4
    have F5 := Aside0.mk h5
    have F6 := Aside0.mk h6
    have F7 := Aside0.mk h7
    have FR := Aside0.mk hR
    have FX := Aside0.mk hokx
    have FT := Aside0.mk hTlt
    have FM := Aside0.mk hm5
    have FK := Aside0.mk hkl
    have FTK := Aside0.mk htk
    clear h1 h2 h3 h4 h5 h6 h7 hR hokx hTlt hm5 hkl htk hbx hy hs4 hloop hI0
    refine wpIn_block ?_
    refine wpIn_seq ?_
    refine region_round l (by rintro ⟨a, w, h⟩; exact h) (by simp) ?_
    go_wp2_with (with_reducible refine stop_append rfl ?_)
    refine Kd.S_append k33 (w0 := w) w.heap.size rfl (.tmp 13) (.tmp 15) 25 33 (.agg #[(.int .i64 0), (.int .i64 0), (.int .i64 0), (.int .i64 0), (.int .i64 0), (.slice none 0 0)]) 64 rfl Try.underlying25 info33 rfl (by decide) (by omega) v (s.l.take k) y (cells6 y (.slice A m5 c)) (fun j => okr j ∨ okx j ∨ W.heap.size ≤ j) okx rfl rfl
      (k33_mkM _ _ _ _ (Kd.R_lower FR.out (by omega))) (fun j hj => ⟨.inr (.inl hj), fun e => (F6.out j ((Kd.S_R F1.out).1 j e.symm)).2.1 (.inr hj)⟩) (fun j hj => .inr (.inr hj)) (Kd.S_mono F1.out (fun j hj => ⟨.inl hj, fun hx => (F6.out j hj).2.1 (.inr hx)⟩)) F7.out F7.out.size (by rw [List.length_take]; have := HLEN.out; omega) ?_
    intro v1 w2 ho hb hg hat
    rw [← FTK.out] at ho
    obtain ⟨A1, c1, rfl⟩ := Kd.S_slice ho
    obtain ⟨nn, hnn⟩ : ∃ nn, nn = (s.l.take (k + 1)).length := ⟨_, rfl⟩
    have hnn64 : nn ≤ 64 := by rw [hnn, List.length_take]; have := HLEN.out; omega
    rw [← hnn] at ho ⊢
    have hne : ∀ i, i < 4 → some (w.heap.size + i) ≠ v.ownBlock := fun i hi e => by
      have := (F6.out _ ((Kd.S_R F1.out).1 _ e.symm)).1
      omega
    have hb4 := blk_grown F4.out hg (hne 2 (by omega))
    have c61 : w2.cell? ⟨w.heap.size + 2, 0, none⟩ = some v := (blk_cell hb4 0).trans rfl
    have z61 := blk_frozen hb4 0
    have G1 := Aside0.mk ho
    have G2 := Aside0.mk hg
    have G3 := Aside0.mk hb4
    have G4 := Aside0.mk (And.intro (blk_grown F2.out hg (hne 0 (by omega))) (And.intro (blk_grown F3.out hg (hne 1 (by omega))) (blk_grown F5.out hg (hne 3 (by omega)))))
    have G5 := Aside0.mk hb
    have GN := Aside0.mk hnn
    clear ho hb hg hat hb4 c4 z4 u0 u1 u2 u3 u4 u5 hnn hne
    go_wp2
    obtain ⟨W2, hW2⟩ : ∃ W2, W2 = w2.setCell ⟨w.heap.size + 2, 0, none⟩ (.slice A1 nn c1) := ⟨_, rfl⟩
    rw [← hW2]
    have hb5 : W2.heap[w.heap.size + 2]? = some (.cells #[.slice A1 nn c1] 25 (0, 0)) := by rw [hW2]; simpa using blk_set G3.out 0 (.slice A1 nn c1)
    have hfar : ∀ j, j ≠ w.heap.size + 2 → W2.heap[j]? = w2.heap[j]? := fun j hj => by rw [hW2]; exact Below.heap_setCell w2 _ _ j hj
    have hI : AllI w p s.l T (k + 1) W2 := by
      refine ⟨_, fun j => (okr j ∨ okx j ∨ W.heap.size ≤ j) ∧ Celly w2 j ∧ j ≠ w.heap.size + 2 ∧ w.heap.size + 4 ≤ j, ?_, (hfar _ (by omega)).trans G4.out.1, (hfar _ (by omega)).trans G4.out.2.1, hb5, (hfar _ (by omega)).trans G4.out.2.2, ?_, ?_⟩
      · refine Kd.S_step (Kd.S_mono (S_celly G1.out) (fun j hj => ⟨hj.1, hj.2.2, ?_, ?_⟩)) (fun j hj _ => hfar j hj.2.2.1)
        · rcases hj.1 with h | h | h
          · have := (F6.out j h).1
            omega
          · have := (FX.out j h).2.1
            omega
          · have := F5.out
            have := blk_lt F5.out
            omega
        · rcases hj.1 with h | h | h
          · exact (F6.out j h).1
          · exact (FX.out j h).2.1
          · have := blk_lt F5.out
            omega
      · intro j hj
        refine ⟨hj.2.2.2, fun hT => ?_, ?_⟩
        · rcases hj.1 with h | h | h
          · exact (F6.out j h).2.1 (.inl hT)
          · exact (FX.out j h).1 hT
          · have := FT.out j hT
            omega
        · obtain ⟨cs, q, hc⟩ := hj.2.1
          exact ⟨cs, q, (hfar j hj.2.2.1).trans hc⟩
      · rw [hW2]
        exact below_set G5.out (by show w.heap.size ≤ w.heap.size + 2; omega)
    have hTk : ∀ j, T j ∧ w1.heap.size ≤ j → W2.heap[j]? = W.heap[j]? := fun j hj => by
      have h4 := HB.out.2.2.2.2.1
      exact (hfar j (by omega)).trans (G2.out.block j (FT.out j hj.1) (fun e => (F6.out j ((Kd.S_R F1.out).1 j e.symm)).2.1 (.inl hj.1)))
    have c62 : W2.cell? ⟨w.heap.size + 2, 0, none⟩ = some (.slice A1 nn c1) := (blk_cell hb5 0).trans rfl
    have HI := Aside0.mk hI
    have HTK := Aside0.mk hTk
    clear hW2 hb5 hfar hI hTk c61 z61
    gi_wp2
    exact ⟨HTK.out, HI.out⟩
  case done =>
    rintro D W hD ⟨v, okr, h1, h2, h3, h4, h5, h6, h7⟩ hK
    rw [List.take_length] at h1
    obtain ⟨A1, c1, rfl⟩ := Kd.S_slice h1
    obtain ⟨nn, hnn⟩ : ∃ nn, nn = s.l.length := ⟨_, rfl⟩
    rw [← hnn] at h1 h4
    have c4 : W.cell? ⟨w.heap.size + 2, 0, none⟩ = some (.slice A1 nn c1) := (blk_cell h4 0).trans rfl
    have F1 := Aside0.mk h1
    have F2 := Aside0.mk h2
    have F3 := Aside0.mk h3
    have F6 := Aside0.mk h6
    have F7 := Aside0.mk h7
    have FN := Aside0.mk hnn
    have c2 : W.cell? ⟨w.heap.size, 0, none⟩ = some (.slice none 0 0) := (blk_cell h2 0).trans rfl
    have z2 : W.frozen? ⟨w.heap.size, 0, none⟩ = false := blk_frozen h2 0
    have c3 : W.cell? ⟨w.heap.size + 1, 0, none⟩ = some (.bool false) := (blk_cell h3 0).trans rfl
    have z3 : W.frozen? ⟨w.heap.size + 1, 0, none⟩ = false := blk_frozen h3 0
    clear h1 h2 h3 h4 h5 h6 h7 hnn hI0
    have hdf : ((W.setCell ⟨w.heap.size, 0, none⟩ (.slice A1 nn c1)).setCell ⟨w.heap.size + 1, 0, none⟩ (.bool true)).heap[D]? = some (.deferred (some [])) := by
      have h4 := HB.out.2.2.2.2.1
      exact (Below.heap_setCell _ _ _ D (by show D ≠ w.heap.size + 1; omega)).trans ((Below.heap_setCell _ _ _ D (by show D ≠ w.heap.size; omega)).trans hK)
    have HDF := Aside0.mk hdf
    have HDD := Aside0.mk hD
    clear hK hdf hD
    go_wp2
    obtain ⟨Wf, hWf⟩ : ∃ Wf, Wf = (W.setCell ⟨w.heap.size, 0, none⟩ (.slice A1 nn c1)).setCell ⟨w.heap.size + 1, 0, none⟩ (.bool true) := ⟨_, rfl⟩
    rw [← hWf] at HDF ⊢
    refine ⟨by simp, .inl ⟨_, _, rfl, run_takeDeferred HDF.out, ?_⟩⟩
    have hDne : w.heap.size + 4 ≤ D := by have h4 := HB.out.2.2.2.2.1; have := HDD.out; omega
    have b2 : (Wf.putObj D (.deferred none)).heap[w.heap.size]? = some (.cells #[.slice A1 nn c1] 25 (0, 0)) := by
      rw [World.putObj_heap_other (by omega), hWf]
      refine blk_far ?_ (by show w.heap.size ≠ w.heap.size + 1; omega) _
      simpa using blk_set F2.out 0 (.slice A1 nn c1)
    have b3 : (Wf.putObj D (.deferred none)).heap[w.heap.size + 1]? = some (.cells #[.bool true] 4 (0, 0)) := by
      rw [World.putObj_heap_other (by omega), hWf]
      have := blk_set (w := W.setCell ⟨w.heap.size, 0, none⟩ (.slice A1 nn c1)) (blk_far F3.out (by show w.heap.size + 1 ≠ w.heap.size; omega) _) 0 (.bool true)
      simpa using this
    refine ⟨_, results_25_4 (fn := Try.f12) rfl _ _ w.heap.size (w.heap.size + 1) nn c1 A1 true rfl rfl ((blk_cell b2 0).trans rfl) ((blk_cell b3 0).trans rfl), A1, nn, c1, rfl, FN.out, ?_, ?_, ?_⟩
    · rw [FN.out]
      rw [FN.out] at F1
      exact (Kd.S_reads' F1.out).2.1
    · refine Kd.S_mono (Kd.S_step F1.out (fun j hj _ => ?_)) (fun _ _ => trivial)
      have h6 := F6.out j hj
      rw [hWf]
      have hne : j ≠ D := fun e => by
        obtain ⟨cs, q, hc⟩ := h6.2.2
        have h7 := HDF.out
        rw [hWf, ← e] at h7
        rw [Below.heap_setCell _ ⟨w.heap.size + 1, 0, none⟩ _ j (by show j ≠ w.heap.size + 1; omega), Below.heap_setCell _ ⟨w.heap.size, 0, none⟩ _ j (by show j ≠ w.heap.size; omega), hc] at h7
        cases h7
      exact (World.putObj_heap_other (by omega)).trans ((Below.heap_setCell _ ⟨w.heap.size + 1, 0, none⟩ _ j (by show j ≠ w.heap.size + 1; omega)).trans (Below.heap_setCell _ ⟨w.heap.size, 0, none⟩ _ j (by show j ≠ w.heap.size; omega)))
    · rw [hWf]
      have := below_set (g := w.heap.size + 1) (j := 0) (v := .bool true) (below_set (g := w.heap.size) (j := 0) (v := .slice A1 nn c1) F7.out (Nat.le_refl _)) (by omega)
      exact this.grown (grownBy_putObj' _ D _) this.size (fun r e => by cases e; omega)
  case stop => exact fun D c W _ h _ => h.elim
end Go.Proofs.Ytcbejpmmlcdhnaa.PW
namespace Go.Proofs.Ytcbejpmmlcdhnaa.PW
open Go.RowKit Go.Proofs.YtcbejpmmlcdhnaaW.PrintWords Go.Proofs.YtcbejpmmlcdhnaaW.PrintLast Go.Proofs.YtcbejpmmlcdhnaaW.PrintMore
set_option linter.unusedVariables false
set_option linter.unusedSimpArgs false
def rg6.T17 : Bool × List (List Nat × List Nat) := (true, [([], []), ([0], [0]), ([1], [1]), ([2], [2]), ([2], [2]), ([2], [2]), ([4, 5, 2], [2, 4, 5]), ([6, 2], [2, 6]), ([3, 7, 2, 2], [2, 3, 7]), ([8, 2], [2, 8]), ([2, 9], [2, 9]), ([10, 8], [10]), ([11], [11]), ([12, 11], [11, 12]), ([13, 11], [11, 13]), ([14, 11], [11, 14]), ([11, 15], [11, 15]), ([16, 11], [16]), ([17], [17]), ([18, 17], [17, 18]), ([19, 17], [17, 19]), ([20, 17], [17, 20]), ([21, 17], [17, 21]), ([17], [17]), ([23, 17], [17, 23]), ([22, 24, 17], [17, 22, 24]), ([17, 25], [17, 25]), ([26, 17], [26]), ([27], [27]), ([28, 27], [27, 28]), ([27], [27]), ([30, 27], [27, 30]), ([29, 31, 27], [27, 29, 31]), ([27, 32], [27, 32])])
def rg6.B17 : List Nat := [0, 1, 3, 7, 7, 7, 55, 119, 255, 511, 1023, 2047, 4095, 8191, 16383, 32767, 65535, 131071, 262143, 524287, 1048575, 2097151, 4194303, 262143, 8650751, 33554431, 67108863, 134217727, 268435455, 536870911, 268435455, 1342177279, 4294967295, 8589934591]
theorem rg6.tab17 : rtab .any (opsOf Try.f6 17) = rg6.T17 := by kernel_rfl
theorem rg6.bits17 : waitsOk rg6.T17.2 rg6.B17 = true := by kernel_rfl

theorem fent_ok (i : Nat) : opsOk (fent i) := by show 2 ≤ _; omega
theorem fillS_mem (room n : Nat) : ∀ x ∈ (fillS room n).l, opsOk x := by
  intro x hx
  obtain ⟨t, _, rfl⟩ := List.mem_map.1 hx
  exact fent_ok _
theorem fillS_get (room n i : Nat) (hi : i < min n room) : (fillS room n).l[i]? = some (fent (n - room + 1 + i)) := by
  show ((List.range (min n room)).map fun t => fent (n - room + 1 + t))[i]? = _
  rw [List.getElem?_map, List.getElem?_range hi]
  rfl
theorem fillS_at (room n i : Nat) (hi : i < min n room) : (fillS room n).atc ((n - room : Nat) + 1 + (i : Int)) = 0 ∧ (fillS room n).at ((n - room : Nat) + 1 + (i : Int)) = fent (n - room + 1 + i) := by
  have hc : (fillS room n).atc ((n - room : Nat) + 1 + (i : Int)) = 0 := by
    unfold RS.atc
    rw [fillS_la]
    show (if ((n - room : Nat) : Int) + 1 + (i : Int) ≤ ((n - room : Nat) : Int) then (60 : Int) else _) = 0
    rw [if_neg (by omega), if_neg (by omega)]
  refine ⟨hc, ?_⟩
  unfold RS.at
  rw [if_pos hc]
  show (fillS room n).l.getD (((n - room : Nat) : Int) + 1 + (i : Int) - ((n - room : Nat) : Int) - 1).toNat z33 = _
  rw [show (((n - room : Nat) : Int) + 1 + (i : Int) - ((n - room : Nat) : Int) - 1).toNat = i by omega, List.getD_eq_getElem?_getD, fillS_get room n i hi]
  rfl
/-- The place where After's answer is cut out of all. -/
theorem want_eq (room n : Nat) (a m : Nat) (hfl : n - room ≤ a) (hla : a ≤ n) (hm : m ≤ 64) : (fillS room n).after a m = ((fillS room n).l.drop (a - (n - room))).take m := by
  have hc : (fillS room n).afc a m = 0 := by
    unfold RS.afc
    rw [fillS_la]
    show (if (m : Int) < 0 ∨ 64 < (m : Int) then (1 : Int) else if (a : Int) < ((n - room : Nat) : Int) then 60 else _) = 0
    rw [if_neg (by omega), if_neg (by omega), if_neg (by omega)]
  unfold RS.after
  rw [if_pos hc, Int.toNat_natCast, Int.toNat_natCast]
  rfl
set_option maxHeartbeats 16000000 in
set_option maxRecDepth 100000 in
theorem ringTells_out (a0 a1 a2 a3 : Int) (w : World) (hbad : a0 < 1 ∨ 64 < a0 ∨ a1 < 0 ∨ 200 < a1) :
    Calls Try.prog 6 #[.int .i64 a0, .int .i64 a1, .int .i64 a2, .int .i64 a3] w fun e w' => e = .returned (.bool true) ∧ Below w.heap.size w w' := by
  have hcase : a0 < 1 ∨ (1 ≤ a0 ∧ 64 < a0) ∨ (1 ≤ a0 ∧ a0 ≤ 64 ∧ a1 < 0) ∨ (1 ≤ a0 ∧ a0 ≤ 64 ∧ 0 ≤ a1 ∧ 200 < a1) := by omega
  clear hbad
  rcases hcase with h | ⟨h, h2⟩ | ⟨h, h2, h3⟩ | ⟨h, h2, h3, h4⟩
  all_goals
    go_enter Try.func6, Try.ntmps6
    go_wp2_with fail
    refine (begins_R w).mono ?_
    rintro e w1 ⟨rfl, hb⟩
    have HB := Aside0.mk hb
    clear hb
    go_wp2
    go_ret
    exact ⟨rfl, HB.out⟩
set_option maxHeartbeats 16000000 in
set_option maxRecDepth 100000 in
theorem ringTells_lt (room n : Nat) (a2 a3 : Int) (w : World) (h1 : 1 ≤ room) (h2 : room ≤ 64) (hn : n ≤ 200) (hnr : n < room) :
    Calls Try.prog 6 #[.int .i64 (room : Int), .int .i64 (n : Int), .int .i64 a2, .int .i64 a3] w fun e w' => e = .returned (.bool true) ∧ Below w.heap.size w w' := by
  obtain ⟨ln, hln⟩ : ∃ ln, ln = min n room := ⟨_, rfl⟩
  obtain ⟨fl, hfl⟩ : ∃ fl, fl = n - room := ⟨_, rfl⟩
  have hs : (n : Int) - (ln : Int) = (fl : Int) := by omega
  have hlnn : ln ≤ 64 := by omega
  have hfln : fl ≤ 200 := by omega
  have HLN := Aside0.mk hln
  have HFL := Aside0.mk hfl
  clear hln hfl
  go_enter Try.func6, Try.ntmps6
  go_wp2_with fail
  refine (begins_R w).mono ?_
  rintro e w1 ⟨rfl, hb⟩
  have HB := Aside0.mk hb
  clear hb
  go_wp2_with fail
  refine (filled_R w1 room n h1 h2 hn).mono ?_
  rintro e w2 ⟨rfl, hr, hb⟩
  have HR2 := Aside0.mk hr
  have HB2 := Aside0.mk (below_step HB.out hb)
  clear hr hb
  go_wp2_with fail
  refine (all_R (p := some w1.heap.size) HR2.out).mono ?_
  rintro e w3 ⟨A3, n3, c3, rfl, hn3, hc3, hs3, hb3⟩
  obtain rfl : n3 = ln := by rw [hn3, fillS_len, HLN.out]
  have HR3 := Aside0.mk (RingIs_below HR2.out hb3)
  have HB3 := Aside0.mk (below_step HB2.out hb3)
  have HS3 := Aside0.mk hs3
  have hc3' : n3 ≤ c3 := hc3
  obtain ⟨q1, q2, q3⟩ := Kd.S_reads' hs3
  rw [← q1] at q3
  have HREAD := Aside0.mk q3
  clear hs3 hb3 hn3 q1 q2 q3
  go_wp2_with fail
  refine (floor_R (p := some w1.heap.size) HR3.out).mono ?_
  rintro e w4 ⟨rfl, ⟨⟨m4, rfl⟩⟩⟩
  rw [show (fillS room n).fl = fl from HFL.out.symm]
  have HB4 := Aside0.mk (pw_below_drewN HB3.out m4)
  have hA1 : ((n3 : Int) != (n : Int)) = false := bne_eq_false_iff_eq.mpr (by have := HLN.out; omega)
  have hA2 : n < room := hnr
  go_wp2
  go_loopw [15, 16, 17] (fun v15 v16 v17 wr => ∃ k : Nat, k ≤ n3 ∧ v15 = .int .i64 (k : Int) ∧ Aside0 (Below w.heap.size w wr) ∧ Aside0 (Below w3.heap.size w3 wr)) (fun v15 _ _ _ => n3 - (intOf v15).toNat)
  case atStart => exact ⟨0, Nat.zero_le _, rfl, HB4, ⟨pw_below_drewN (Below.refl _ _) _⟩⟩
  case round =>
    obtain ⟨k, hk, rfl, HW, HW3⟩ := hrel
    by_cases hlt : k < n3
    · have hd : decide ((k : Int) < (n3 : Int)) = true := decide_eq_true (by omega)
      go_wp2_with fail
      refine (at_R (RingIs_below HR3.out HW3.out) ((fl : Int) + 1 + (k : Int))).mono ?_
      rintro e w5 ⟨A5, c5, rfl, hv5, hb5⟩
      have hat := fillS_at room n k (by have := HLN.out; omega)
      rw [← HFL.out] at hat
      obtain ⟨i, hi⟩ : ∃ i, i = fl + 1 + k := ⟨_, rfl⟩
      rw [hat.1]
      rw [hat.2, ← hi] at hv5 ⊢
      have HV5 := Aside0.mk hv5
      have HB5 := Aside0.mk hb5
      have HI := Aside0.mk hi
      have hrd : rd_T33 (fillS room n).l (k : Int) = fent i := by
        unfold rd_T33
        rw [Int.toNat_natCast, List.getD_eq_getElem?_getD, fillS_get room n k (by have := HLN.out; omega), HI.out, HFL.out]
        rfl
      obtain ⟨ad, A6, c6, hA, x0, x1, x2, x3, x4, x5, xl, xc⟩ := at_T33 HREAD.out (k : Int) (by omega) (by omega)
      subst hA
      rw [hrd] at x0 x1 x2 x3 x4 x5 xl xc
      rw [Int.toNat_natCast] at x0 x1 x2 x3 x4 x5
      have hb35 : Below w3.heap.size w3 w5 := below_step HW3.out hb5
      have XC := Aside0.mk (Kd.C_below xc hb35)
      have XL := Aside0.mk xl
      replace x0 := pw_cell_below hb35 x0
      replace x1 := pw_cell_below hb35 x1
      replace x2 := pw_cell_below hb35 x2
      replace x3 := pw_cell_below hb35 x3
      replace x4 := pw_cell_below hb35 x4
      replace x5 := pw_cell_below hb35 x5
      have X0 := Aside0.mk (And.intro x0 (And.intro x1 (And.intro x2 (And.intro x3 (And.intro x4 x5)))))
      have HB35 := Aside0.mk hb35
      have HBW := Aside0.mk (below_step HW.out hb5)
      have hnew : (w5.alloc (.cells zeroCells 33)).heap[w5.heap.size]? = some (.cells zeroCells 33) := heap_alloc_new _ _
      have HNEW := Aside0.mk hnew
      obtain ⟨F, hF⟩ : ∃ F, F = fent i := ⟨_, rfl⟩
      clear hv5 hb5 hat hi hrd x0 x1 x2 x3 x4 x5 xl xc hb35 hnew hF
      unfold entV
      go_wp2_with (with_reducible refine stop_store rfl ?_)
      obtain ⟨Fi, hFi⟩ : ∃ Fi : S33, Fi = ⟨(i : Int), ((i / 3 : Nat) : Int), 1, 5, (i : Int), (fent i).f5⟩ := ⟨_, rfl⟩
      refine wpList_store rfl rfl 33 (.tmp 16) (.tmp 98) rfl (.agg #[.int .i64 (i : Int), .int .i64 ((i / 3 : Nat) : Int), .int .i64 1, .int .i64 5, .int .i64 (i : Int), .slice A5 2 c5]) (cells6 (fent i) (.slice A5 2 c5)) rfl rfl HNEW.out rfl size33 (by show 0 + 6 ≤ 6; omega) (by simp [cells6, Value.oneCell']) ?_
      rw [alloc_full (w := w5) (cur := zeroCells) (e := 33) (cells6 (fent i) (.slice A5 2 c5)) rfl]
      have hbox : (w5.alloc (.cells (cells6 (fent i) (.slice A5 2 c5)).toArray 33)).heap[w5.heap.size]? = some (.cells (cells6 (fent i) (.slice A5 2 c5)).toArray 33) := heap_alloc_new _ _
      have hb56 : Below w5.heap.size w5 (w5.alloc (.cells (cells6 (fent i) (.slice A5 2 c5)).toArray 33)) := below_alloc (Below.refl _ _) _
      obtain ⟨w6, hw6⟩ : ∃ w6, w6 = w5.alloc (.cells (cells6 (fent i) (.slice A5 2 c5)).toArray 33) := ⟨_, rfl⟩
      rw [← hw6] at hbox hb56 ⊢
      obtain ⟨ad5, rfl⟩ : ∃ ad5, A5 = some ad5 := by
        obtain ⟨q, h, _⟩ := (Kd.R_reads' HV5.out).2.2.2.2 (by show 0 < 2; omega)
        exact ⟨q, h⟩
      obtain ⟨_, ho, o0, _⟩ := at_T55 (Kd.R_reads' HV5.out).2.2 0 (by omega) (by show (0 : Int) < ((2 : Nat) : Int); omega)
      cases ho
      have o1 : w6.drew.cell? ad5 = some (.int .i64 (i : Int)) := by
        have := pw_cell_below hb56 o0
        rw [show Int.toNat 0 * 5 = 0 from rfl, Addr.add_zero'] at this
        exact this
      have b0 : w6.drew.cell? ⟨w5.heap.size, 0, none⟩ = some (.int .i64 (i : Int)) := (blk_cell hbox 0).trans rfl
      have b1 : w6.drew.cell? ⟨w5.heap.size, 1, none⟩ = some (.int .i64 ((i / 3 : Nat) : Int)) := (blk_cell hbox 1).trans rfl
      have b2 : w6.drew.cell? ⟨w5.heap.size, 2, none⟩ = some (.int .i64 1) := (blk_cell hbox 2).trans rfl
      have b3 : w6.drew.cell? ⟨w5.heap.size, 3, none⟩ = some (.int .i64 5) := (blk_cell hbox 3).trans rfl
      have b4 : w6.drew.cell? ⟨w5.heap.size, 4, none⟩ = some (.int .i64 (i : Int)) := (blk_cell hbox 4).trans rfl
      have b5 : w6.drew.cell? ⟨w5.heap.size, 5, none⟩ = some (.slice (some ad5) 2 c5) := (blk_cell hbox 5).trans rfl
      obtain ⟨x0, x1, x2, x3, x4, x5⟩ := X0.out
      have y0 : w6.drew.cell? (ad.add (k * 6)) = some (.int .i64 (i : Int)) := pw_cell_below hb56 x0
      have y1 : w6.drew.cell? ⟨(ad.add (k * 6)).block, (ad.add (k * 6)).off + 1, none⟩ = some (.int .i64 ((i / 3 : Nat) : Int)) := pw_cell_below hb56 x1
      have y2 : w6.drew.cell? ⟨(ad.add (k * 6)).block, (ad.add (k * 6)).off + 2, none⟩ = some (.int .i64 1) := pw_cell_below hb56 x2
      have y3 : w6.drew.cell? ⟨(ad.add (k * 6)).block, (ad.add (k * 6)).off + 3, none⟩ = some (.int .i64 5) := pw_cell_below hb56 x3
      have y4 : w6.drew.cell? ⟨(ad.add (k * 6)).block, (ad.add (k * 6)).off + 4, none⟩ = some (.int .i64 (i : Int)) := pw_cell_below hb56 x4
      have y5 : w6.drew.cell? ⟨(ad.add (k * 6)).block, (ad.add (k * 6)).off + 5, none⟩ = some (.slice A6 2 c6) := pw_cell_below hb56 x5
      have HC5 := Aside0.mk (show Kd.C k55 w6 (some ad5) 2 (fent i).f5 from Kd.C_below (Kd.R_reads' HV5.out).2.2 hb56)
      have HL5 := Aside0.mk (show 2 ≤ c5 from (Kd.R_reads' HV5.out).2.1)
      have HXL := Aside0.mk (show 2 ≤ c6 from XL.out)
      have HC6 := Aside0.mk (show Kd.C k55 w6 A6 2 (fent i).f5 from Kd.C_below XC.out hb56)
      have HBW6 := Aside0.mk (below_step HBW.out hb56)
      have HB36 := Aside0.mk (below_step HB35.out hb56)
      clear o0 x0 x1 x2 x3 x4 x5 hbox hb56 hw6 hFi HV5 X0
      go_wp2
      refine start_ (n := 34) (S := fun w' => w'.cell? ad5 = some (.int .i64 (i : Int)) ∧ w'.cell? ⟨w5.heap.size, 0, none⟩ = some (.int .i64 (i : Int)) ∧ w'.cell? ⟨w5.heap.size, 1, none⟩ = some (.int .i64 ((i / 3 : Nat) : Int)) ∧ w'.cell? ⟨w5.heap.size, 2, none⟩ = some (.int .i64 1) ∧ w'.cell? ⟨w5.heap.size, 3, none⟩ = some (.int .i64 5) ∧ w'.cell? ⟨w5.heap.size, 4, none⟩ = some (.int .i64 (i : Int)) ∧ w'.cell? ⟨w5.heap.size, 5, none⟩ = some (.slice (some ad5) 2 c5) ∧ w'.cell? (ad.add (k * 6)) = some (.int .i64 (i : Int)) ∧ w'.cell? ⟨(ad.add (k * 6)).block, (ad.add (k * 6)).off + 1, none⟩ = some (.int .i64 ((i / 3 : Nat) : Int)) ∧ w'.cell? ⟨(ad.add (k * 6)).block, (ad.add (k * 6)).off + 2, none⟩ = some (.int .i64 1) ∧ w'.cell? ⟨(ad.add (k * 6)).block, (ad.add (k * 6)).off + 3, none⟩ = some (.int .i64 5) ∧ w'.cell? ⟨(ad.add (k * 6)).block, (ad.add (k * 6)).off + 4, none⟩ = some (.int .i64 (i : Int)) ∧ w'.cell? ⟨(ad.add (k * 6)).block, (ad.add (k * 6)).off + 5, none⟩ = some (.slice A6 2 c6)) (ds := []) #[false, false, false, false, false, false, false, false, false, false, false, false, false, false, false, false, false, false, false, false, false, false, false, false, false, false, false, false, false, false, false, false, false, false] (by kernel_rfl) rfl rfl ⟨o1, b0, b1, b2, b3, b4, b5, y0, y1, y2, y3, y4, y5⟩ (fun hHeld => ?_)
      refine with_tabW rg6.tab17 rg6.bits17 (fun HT_ HW_ => ?_)
      refine pure_ (i := 0) (N := some 100) (v := ?_) (a' := ?_) #[true, false, false, false, false, false, false, false, false, false, false, false, false, false, false, false, false, false, false, false, false, false, false, false, false, false, false, false, false, false, false, false, false, false] rfl rfl (any_of HT_.out (by kernel_rfl)) (fun _ _ _ h => h) (Or.inl ⟨by rfl, ?_⟩) ?_ ?_
      rotate_left
      · intro w'
        go_simp
        with_reducible rfl
      rotate_left
      · simp only [Act.put, List.setIfInBounds_toArray, List.set_cons_zero, List.set_cons_succ, i64_w, i32_w]
        rfl
      refine pure_ (i := 1) (N := some 101) (v := ?_) (a' := ?_) #[true, true, false, false, false, false, false, false, false, false, false, false, false, false, false, false, false, false, false, false, false, false, false, false, false, false, false, false, false, false, false, false, false, false] rfl rfl (any_of HT_.out (by kernel_rfl)) (fun _ _ _ h => h) (Or.inl ⟨by rfl, ?_⟩) ?_ ?_
      rotate_left
      · intro w'
        go_simp
        with_reducible rfl
      rotate_left
      · simp only [Act.put, List.setIfInBounds_toArray, List.set_cons_zero, List.set_cons_succ, i64_w, i32_w]
        rfl
      refine pure_ (i := 2) (N := some 102) (v := ?_) (a' := ?_) #[true, true, true, false, false, false, false, false, false, false, false, false, false, false, false, false, false, false, false, false, false, false, false, false, false, false, false, false, false, false, false, false, false, false] rfl rfl (any_of HT_.out (by kernel_rfl)) (fun _ _ _ h => h) (Or.inl ⟨by rfl, ?_⟩) ?_ ?_
      rotate_left
      · intro w'
        go_simp
        with_reducible rfl
      rotate_left
      · simp only [Act.put, List.setIfInBounds_toArray, List.set_cons_zero, List.set_cons_succ, i64_w, i32_w]
        rfl
      refine pure_ (i := 4) (N := some 104) (v := ?_) (a' := ?_) #[true, true, true, false, true, false, false, false, false, false, false, false, false, false, false, false, false, false, false, false, false, false, false, false, false, false, false, false, false, false, false, false, false, false] rfl rfl (any_of HT_.out (by kernel_rfl)) (fun _ _ _ h => h) (Or.inl ⟨by rfl, ?_⟩) ?_ ?_
      rotate_left
      · intro w'
        go_simp
        with_reducible rfl
      rotate_left
      · simp only [Act.put, List.setIfInBounds_toArray, List.set_cons_zero, List.set_cons_succ, i64_w, i32_w]
        rfl
      refine pure_ (i := 5) (N := some 105) (v := ?_) (a' := ?_) #[true, true, true, false, true, true, false, false, false, false, false, false, false, false, false, false, false, false, false, false, false, false, false, false, false, false, false, false, false, false, false, false, false, false] rfl rfl (any_of HT_.out (by kernel_rfl)) (fun _ _ _ h => h) (Or.inl ⟨by rfl, ?_⟩) ?_ ?_
      rotate_left
      · intro w'
        go_simp
        with_reducible rfl
      rotate_left
      · simp only [Act.put, List.setIfInBounds_toArray, List.set_cons_zero, List.set_cons_succ, i64_w, i32_w]
        rfl
      refine pure_ (i := 6) (N := some 106) (v := ?_) (a' := ?_) #[true, true, true, false, true, true, true, false, false, false, false, false, false, false, false, false, false, false, false, false, false, false, false, false, false, false, false, false, false, false, false, false, false, false] rfl rfl (any_of HT_.out (by kernel_rfl)) (fun _ _ _ h => h) (Or.inl ⟨by rfl, ?_⟩) ?_ ?_
      rotate_left
      · intro w'
        go_simp
        with_reducible rfl
      rotate_left
      · simp only [Act.put, List.setIfInBounds_toArray, List.set_cons_zero, List.set_cons_succ, i64_w, i32_w]
        rfl
      refine take_ (i := 3) (N := some 103) (v := ?_) (a' := ?_) #[true, true, true, true, true, true, true, false, false, false, false, false, false, false, false, false, false, false, false, false, false, false, false, false, false, false, false, false, false, false, false, false, false, false] rfl rfl (take_ofW HT_.out HW_.out (by kernel_rfl)) (fun _ _ _ h => h) (Or.inl ⟨by rfl, ?_⟩) hHeld ?_ ?_
      rotate_left
      · rintro w' ⟨s0, s1, s2, s3, s4, s5, s6, s7, s8, s9, s10, s11, s12⟩
        go_simp
        with_reducible rfl
      rotate_left
      · simp only [Act.put, List.setIfInBounds_toArray, List.set_cons_zero, List.set_cons_succ, i64_w, i32_w]
        rfl
      refine take_ (i := 7) (N := some 107) (v := ?_) (a' := ?_) #[true, true, true, true, true, true, true, true, false, false, false, false, false, false, false, false, false, false, false, false, false, false, false, false, false, false, false, false, false, false, false, false, false, false] rfl rfl (take_ofW HT_.out HW_.out (by kernel_rfl)) (fun _ _ _ h => h) (Or.inl ⟨by rfl, ?_⟩) hHeld ?_ ?_
      rotate_left
      · rintro w' ⟨s0, s1, s2, s3, s4, s5, s6, s7, s8, s9, s10, s11, s12⟩
        go_simp
        with_reducible rfl
      rotate_left
      · simp only [Act.put, List.setIfInBounds_toArray, List.set_cons_zero, List.set_cons_succ, i64_w, i32_w]
        rfl
      refine one_ (i := 8) (N := some 108) #[true, true, true, true, true, true, true, true, true, false, false, false, false, false, false, false, false, false, false, false, false, false, false, false, false, false, false, false, false, false, false, false, false, false] rfl rfl (one_of HT_.out (by kernel_rfl)) (by decide) (fun K hK => ?_)
      refine goes_ Try.func14 (by kernel_rfl) rfl #[entV (fent i) (.slice (some ad5) 2 c5), entV (fent i) (.slice A6 2 c6)] (by rfl) rfl rfl (by simp only [List.map_toArray, List.map_cons, List.map_nil]; rfl) ?_
      with_reducible refine (same_T (fent i) (some ad5) A6 2 c5 c6 _ rfl (fent_ok i) (Kd.C_drew HC5.out) HL5.out (Kd.C_drew HC6.out) HXL.out).mono ?_
      rintro e w7 ⟨rfl, hb7⟩
      have HB7 := Aside0.mk hb7
      refine ⟨_, rfl, ?_⟩
      refine hK.out _ _ ⟨(pw_cell_below hb7 o1), (pw_cell_below hb7 b0), (pw_cell_below hb7 b1), (pw_cell_below hb7 b2), (pw_cell_below hb7 b3), (pw_cell_below hb7 b4), (pw_cell_below hb7 b5), (pw_cell_below hb7 y0), (pw_cell_below hb7 y1), (pw_cell_below hb7 y2), (pw_cell_below hb7 y3), (pw_cell_below hb7 y4), (pw_cell_below hb7 y5)⟩ (fun hHeld => ?_)
      clear hK K
      refine norm_ (a' := ?_) ?_ ?_
      rotate_left
      · show Act.put _ (some 108) _ = _
        simp only [Act.put, List.setIfInBounds_toArray, List.set_cons_zero, List.set_cons_succ, i64_w, i32_w]
        rfl
      refine pure_ (i := 9) (N := some 109) (v := ?_) (a' := ?_) #[true, true, true, true, true, true, true, true, true, true, false, false, false, false, false, false, false, false, false, false, false, false, false, false, false, false, false, false, false, false, false, false, false, false] rfl rfl (any_of HT_.out (by kernel_rfl)) (fun _ _ _ h => h) (Or.inl ⟨by rfl, ?_⟩) ?_ ?_
      rotate_left
      · intro w'
        go_simp
        with_reducible rfl
      rotate_left
      · simp only [Act.put, List.setIfInBounds_toArray, List.set_cons_zero, List.set_cons_succ, i64_w, i32_w]
        rfl
      refine pure_ (i := 10) (N := some 110) (v := ?_) (a' := ?_) #[true, true, true, true, true, true, true, true, true, true, true, false, false, false, false, false, false, false, false, false, false, false, false, false, false, false, false, false, false, false, false, false, false, false] rfl rfl (any_of HT_.out (by kernel_rfl)) (fun _ _ _ h => h) (Or.inl ⟨by rfl, ?_⟩) ?_ ?_
      rotate_left
      · intro w'
        go_simp
        with_reducible rfl
      rotate_left
      · simp only [Act.put, List.setIfInBounds_toArray, List.set_cons_zero, List.set_cons_succ, i64_w, i32_w]
        rfl
      refine pure_ (i := 11) (N := some 111) (v := ?_) (a' := ?_) #[true, true, true, true, true, true, true, true, true, true, true, true, false, false, false, false, false, false, false, false, false, false, false, false, false, false, false, false, false, false, false, false, false, false] rfl rfl (any_of HT_.out (by kernel_rfl)) (fun _ _ _ h => h) (Or.inl ⟨by rfl, ?_⟩) ?_ ?_
      rotate_left
      · intro w'
        go_simp
        with_reducible rfl
      rotate_left
      · simp only [Act.put, List.setIfInBounds_toArray, List.set_cons_zero, List.set_cons_succ, i64_w, i32_w]
        rfl
      refine pure_ (i := 12) (N := some 112) (v := ?_) (a' := ?_) #[true, true, true, true, true, true, true, true, true, true, true, true, true, false, false, false, false, false, false, false, false, false, false, false, false, false, false, false, false, false, false, false, false, false] rfl rfl (any_of HT_.out (by kernel_rfl)) (fun _ _ _ h => h) (Or.inl ⟨by rfl, ?_⟩) ?_ ?_
      rotate_left
      · intro w'
        go_simp
        with_reducible rfl
      rotate_left
      · simp only [Act.put, List.setIfInBounds_toArray, List.set_cons_zero, List.set_cons_succ, i64_w, i32_w]
        rfl
      refine take_ (i := 13) (N := some 113) (v := ?_) (a' := ?_) #[true, true, true, true, true, true, true, true, true, true, true, true, true, true, false, false, false, false, false, false, false, false, false, false, false, false, false, false, false, false, false, false, false, false] rfl rfl (take_ofW HT_.out HW_.out (by kernel_rfl)) (fun _ _ _ h => h) (Or.inl ⟨by rfl, ?_⟩) hHeld ?_ ?_
      rotate_left
      · rintro w' ⟨s0, s1, s2, s3, s4, s5, s6, s7, s8, s9, s10, s11, s12⟩
        go_simp
        with_reducible rfl
      rotate_left
      · simp only [Act.put, List.setIfInBounds_toArray, List.set_cons_zero, List.set_cons_succ, i64_w, i32_w]
        rfl
      refine pure_ (i := 14) (N := some 114) (v := ?_) (a' := ?_) #[true, true, true, true, true, true, true, true, true, true, true, true, true, true, true, false, false, false, false, false, false, false, false, false, false, false, false, false, false, false, false, false, false, false] rfl rfl (any_of HT_.out (by kernel_rfl)) (fun _ _ _ h => h) (Or.inl ⟨by rfl, ?_⟩) ?_ ?_
      rotate_left
      · intro w'
        go_simp
        with_reducible rfl
      rotate_left
      · simp only [Act.put, List.setIfInBounds_toArray, List.set_cons_zero, List.set_cons_succ, i64_w, i32_w]
        rfl
      refine pure_ (i := 15) (N := some 115) (v := ?_) (a' := ?_) #[true, true, true, true, true, true, true, true, true, true, true, true, true, true, true, true, false, false, false, false, false, false, false, false, false, false, false, false, false, false, false, false, false, false] rfl rfl (any_of HT_.out (by kernel_rfl)) (fun _ _ _ h => h) (Or.inl ⟨by rfl, ?_⟩) ?_ ?_
      rotate_left
      · intro w'
        go_simp
        with_reducible rfl
      rotate_left
      · simp only [Act.put, List.setIfInBounds_toArray, List.set_cons_zero, List.set_cons_succ, i64_w, i32_w]
        rfl
      refine pure_ (i := 16) (N := some 116) (v := ?_) (a' := ?_) #[true, true, true, true, true, true, true, true, true, true, true, true, true, true, true, true, true, false, false, false, false, false, false, false, false, false, false, false, false, false, false, false, false, false] rfl rfl (any_of HT_.out (by kernel_rfl)) (fun _ _ _ h => h) (Or.inl ⟨by rfl, ?_⟩) ?_ ?_
      rotate_left
      · intro w'
        go_simp
        with_reducible rfl
      rotate_left
      · simp only [Act.put, List.setIfInBounds_toArray, List.set_cons_zero, List.set_cons_succ, i64_w, i32_w]
        rfl
      refine pure_ (i := 17) (N := some 117) (v := ?_) (a' := ?_) #[true, true, true, true, true, true, true, true, true, true, true, true, true, true, true, true, true, true, false, false, false, false, false, false, false, false, false, false, false, false, false, false, false, false] rfl rfl (any_of HT_.out (by kernel_rfl)) (fun _ _ _ h => h) (Or.inl ⟨by rfl, ?_⟩) ?_ ?_
      rotate_left
      · intro w'
        go_simp
        with_reducible rfl
      rotate_left
      · simp only [Act.put, List.setIfInBounds_toArray, List.set_cons_zero, List.set_cons_succ, i64_w, i32_w]
        rfl
      refine pure_ (i := 18) (N := some 118) (v := ?_) (a' := ?_) #[true, true, true, true, true, true, true, true, true, true, true, true, true, true, true, true, true, true, true, false, false, false, false, false, false, false, false, false, false, false, false, false, false, false] rfl rfl (any_of HT_.out (by kernel_rfl)) (fun _ _ _ h => h) (Or.inl ⟨by rfl, ?_⟩) ?_ ?_
      rotate_left
      · intro w'
        go_simp
        with_reducible rfl
      rotate_left
      · simp only [Act.put, List.setIfInBounds_toArray, List.set_cons_zero, List.set_cons_succ, i64_w, i32_w]
        rfl
      refine pure_ (i := 23) (N := some 123) (v := ?_) (a' := ?_) #[true, true, true, true, true, true, true, true, true, true, true, true, true, true, true, true, true, true, true, false, false, false, false, true, false, false, false, false, false, false, false, false, false, false] rfl rfl (any_of HT_.out (by kernel_rfl)) (fun _ _ _ h => h) (Or.inl ⟨by rfl, ?_⟩) ?_ ?_
      rotate_left
      · intro w'
        go_simp
        with_reducible rfl
      rotate_left
      · simp only [Act.put, List.setIfInBounds_toArray, List.set_cons_zero, List.set_cons_succ, i64_w, i32_w]
        rfl
      refine take_ (i := 19) (N := some 119) (v := ?_) (a' := ?_) #[true, true, true, true, true, true, true, true, true, true, true, true, true, true, true, true, true, true, true, true, false, false, false, true, false, false, false, false, false, false, false, false, false, false] rfl rfl (take_ofW HT_.out HW_.out (by kernel_rfl)) (fun _ _ _ h => h) (Or.inl ⟨by rfl, ?_⟩) hHeld ?_ ?_
      rotate_left
      · rintro w' ⟨s0, s1, s2, s3, s4, s5, s6, s7, s8, s9, s10, s11, s12⟩
        go_simp
        with_reducible rfl
      rotate_left
      · simp only [Act.put, List.setIfInBounds_toArray, List.set_cons_zero, List.set_cons_succ, i64_w, i32_w]
        rfl
      refine pure_ (i := 20) (N := some 120) (v := ?_) (a' := ?_) #[true, true, true, true, true, true, true, true, true, true, true, true, true, true, true, true, true, true, true, true, true, false, false, true, false, false, false, false, false, false, false, false, false, false] rfl rfl (any_of HT_.out (by kernel_rfl)) (fun _ _ _ h => h) (Or.inl ⟨by rfl, ?_⟩) ?_ ?_
      rotate_left
      · intro w'
        go_simp
        with_reducible rfl
      rotate_left
      · simp only [Act.put, List.setIfInBounds_toArray, List.set_cons_zero, List.set_cons_succ, i64_w, i32_w]
        rfl
      refine pure_ (i := 21) (N := some 121) (v := ?_) (a' := ?_) #[true, true, true, true, true, true, true, true, true, true, true, true, true, true, true, true, true, true, true, true, true, true, false, true, false, false, false, false, false, false, false, false, false, false] rfl rfl (any_of HT_.out (by kernel_rfl)) (fun _ _ _ h => h) (Or.inl ⟨by rfl, ?_⟩) ?_ ?_
      rotate_left
      · intro w'
        go_simp
        with_reducible rfl
      rotate_left
      · simp only [Act.put, List.setIfInBounds_toArray, List.set_cons_zero, List.set_cons_succ, i64_w, i32_w]
        rfl
      refine take_ (i := 22) (N := some 122) (v := ?_) (a' := ?_) #[true, true, true, true, true, true, true, true, true, true, true, true, true, true, true, true, true, true, true, true, true, true, true, true, false, false, false, false, false, false, false, false, false, false] rfl rfl (take_ofW HT_.out HW_.out (by kernel_rfl)) (fun _ _ _ h => h) (Or.inl ⟨by rfl, ?_⟩) hHeld ?_ ?_
      rotate_left
      · rintro w' ⟨s0, s1, s2, s3, s4, s5, s6, s7, s8, s9, s10, s11, s12⟩
        go_simp
        with_reducible rfl
      rotate_left
      · simp only [Act.put, List.setIfInBounds_toArray, List.set_cons_zero, List.set_cons_succ, i64_w, i32_w]
        rfl
      refine take_ (i := 24) (N := some 124) (v := ?_) (a' := ?_) #[true, true, true, true, true, true, true, true, true, true, true, true, true, true, true, true, true, true, true, true, true, true, true, true, true, false, false, false, false, false, false, false, false, false] rfl rfl (take_ofW HT_.out HW_.out (by kernel_rfl)) (fun _ _ _ h => h) (Or.inl ⟨by rfl, ?_⟩) hHeld ?_ ?_
      rotate_left
      · rintro w' ⟨s0, s1, s2, s3, s4, s5, s6, s7, s8, s9, s10, s11, s12⟩
        go_simp
        with_reducible rfl
      rotate_left
      · simp only [Act.put, List.setIfInBounds_toArray, List.set_cons_zero, List.set_cons_succ, i64_w, i32_w]
        rfl
      refine pure_ (i := 25) (N := some 125) (v := ?_) (a' := ?_) #[true, true, true, true, true, true, true, true, true, true, true, true, true, true, true, true, true, true, true, true, true, true, true, true, true, true, false, false, false, false, false, false, false, false] rfl rfl (any_of HT_.out (by kernel_rfl)) (fun _ _ _ h => h) (Or.inl ⟨by rfl, ?_⟩) ?_ ?_
      rotate_left
      · intro w'
        go_simp
        with_reducible rfl
      rotate_left
      · simp only [Act.put, List.setIfInBounds_toArray, List.set_cons_zero, List.set_cons_succ, i64_w, i32_w]
        rfl
      refine pure_ (i := 26) (N := some 126) (v := ?_) (a' := ?_) #[true, true, true, true, true, true, true, true, true, true, true, true, true, true, true, true, true, true, true, true, true, true, true, true, true, true, true, false, false, false, false, false, false, false] rfl rfl (any_of HT_.out (by kernel_rfl)) (fun _ _ _ h => h) (Or.inl ⟨by rfl, ?_⟩) ?_ ?_
      rotate_left
      · intro w'
        go_simp
        with_reducible rfl
      rotate_left
      · simp only [Act.put, List.setIfInBounds_toArray, List.set_cons_zero, List.set_cons_succ, i64_w, i32_w]
        rfl
      refine pure_ (i := 27) (N := some 127) (v := ?_) (a' := ?_) #[true, true, true, true, true, true, true, true, true, true, true, true, true, true, true, true, true, true, true, true, true, true, true, true, true, true, true, true, false, false, false, false, false, false] rfl rfl (any_of HT_.out (by kernel_rfl)) (fun _ _ _ h => h) (Or.inl ⟨by rfl, ?_⟩) ?_ ?_
      rotate_left
      · intro w'
        go_simp
        with_reducible rfl
      rotate_left
      · simp only [Act.put, List.setIfInBounds_toArray, List.set_cons_zero, List.set_cons_succ, i64_w, i32_w]
        rfl
      refine pure_ (i := 28) (N := some 128) (v := ?_) (a' := ?_) #[true, true, true, true, true, true, true, true, true, true, true, true, true, true, true, true, true, true, true, true, true, true, true, true, true, true, true, true, true, false, false, false, false, false] rfl rfl (any_of HT_.out (by kernel_rfl)) (fun _ _ _ h => h) (Or.inl ⟨by rfl, ?_⟩) ?_ ?_
      rotate_left
      · intro w'
        go_simp
        with_reducible rfl
      rotate_left
      · simp only [Act.put, List.setIfInBounds_toArray, List.set_cons_zero, List.set_cons_succ, i64_w, i32_w]
        rfl
      refine pure_ (i := 30) (N := some 130) (v := ?_) (a' := ?_) #[true, true, true, true, true, true, true, true, true, true, true, true, true, true, true, true, true, true, true, true, true, true, true, true, true, true, true, true, true, false, true, false, false, false] rfl rfl (any_of HT_.out (by kernel_rfl)) (fun _ _ _ h => h) (Or.inl ⟨by rfl, ?_⟩) ?_ ?_
      rotate_left
      · intro w'
        go_simp
        with_reducible rfl
      rotate_left
      · simp only [Act.put, List.setIfInBounds_toArray, List.set_cons_zero, List.set_cons_succ, i64_w, i32_w]
        rfl
      refine take_ (i := 29) (N := some 129) (v := ?_) (a' := ?_) #[true, true, true, true, true, true, true, true, true, true, true, true, true, true, true, true, true, true, true, true, true, true, true, true, true, true, true, true, true, true, true, false, false, false] rfl rfl (take_ofW HT_.out HW_.out (by kernel_rfl)) (fun _ _ _ h => h) (Or.inl ⟨by rfl, ?_⟩) hHeld ?_ ?_
      rotate_left
      · rintro w' ⟨s0, s1, s2, s3, s4, s5, s6, s7, s8, s9, s10, s11, s12⟩
        go_simp
        with_reducible rfl
      rotate_left
      · simp only [Act.put, List.setIfInBounds_toArray, List.set_cons_zero, List.set_cons_succ, i64_w, i32_w]
        rfl
      refine take_ (i := 31) (N := some 131) (v := ?_) (a' := ?_) #[true, true, true, true, true, true, true, true, true, true, true, true, true, true, true, true, true, true, true, true, true, true, true, true, true, true, true, true, true, true, true, true, false, false] rfl rfl (take_ofW HT_.out HW_.out (by kernel_rfl)) (fun _ _ _ h => h) (Or.inl ⟨by rfl, ?_⟩) hHeld ?_ ?_
      rotate_left
      · rintro w' ⟨s0, s1, s2, s3, s4, s5, s6, s7, s8, s9, s10, s11, s12⟩
        go_simp
        with_reducible rfl
      rotate_left
      · simp only [Act.put, List.setIfInBounds_toArray, List.set_cons_zero, List.set_cons_succ, i64_w, i32_w]
        rfl
      refine pure_ (i := 32) (N := some 132) (v := ?_) (a' := ?_) #[true, true, true, true, true, true, true, true, true, true, true, true, true, true, true, true, true, true, true, true, true, true, true, true, true, true, true, true, true, true, true, true, true, false] rfl rfl (any_of HT_.out (by kernel_rfl)) (fun _ _ _ h => h) (Or.inl ⟨by rfl, ?_⟩) ?_ ?_
      rotate_left
      · intro w'
        go_simp
        with_reducible rfl
      rotate_left
      · simp only [Act.put, List.setIfInBounds_toArray, List.set_cons_zero, List.set_cons_succ, i64_w, i32_w]
        rfl
      refine pure_ (i := 33) (N := some 133) (v := ?_) (a' := ?_) #[true, true, true, true, true, true, true, true, true, true, true, true, true, true, true, true, true, true, true, true, true, true, true, true, true, true, true, true, true, true, true, true, true, true] rfl rfl (any_of HT_.out (by kernel_rfl)) (fun _ _ _ h => h) (Or.inl ⟨by rfl, ?_⟩) ?_ ?_
      rotate_left
      · intro w'
        go_simp
        with_reducible rfl
      rotate_left
      · simp only [Act.put, List.setIfInBounds_toArray, List.set_cons_zero, List.set_cons_succ, i64_w, i32_w]
        rfl
      refine done_ (done_of HT_.out (by kernel_rfl)) ?_
      have HBW7 := Aside0.mk (show Below w.heap.size w w7 from below_then (below_drew HBW6.out) HBW6.out.size HB7.out)
      have HB37 := Aside0.mk (show Below w3.heap.size w3 w7 from below_then (below_drew HB36.out) HB36.out.size HB7.out)
      clear HB7
      go_wp2
      go_roundw
      case rel => exact ⟨k + 1, by omega, by go_num, HBW7, HB37⟩
      case measure => simp [intOf]; omega
    · have hd : decide ((k : Int) < (n3 : Int)) = false := decide_eq_false (by omega)
      have hkn : n3 ≤ k := by omega
      go_wp2_with fail
      refine (after_R (RingIs_below HR3.out HW3.out) a2 a3).mono ?_
      rintro e w5 ⟨A7, c7, rfl, hs7, hc7, hb7⟩
      have HBW5 := Aside0.mk (below_step HW.out hb7)
      have HB35 := Aside0.mk (below_step HW3.out hb7)
      have HS7 := Aside0.mk hs7
      have HC7 := Aside0.mk hc7
      clear hs7 hc7 hb7
      have hafl : ((fillS room n).fl : Int) = (fl : Int) := by rw [HFL.out]; rfl
      have hala : ((fillS room n).la : Int) = (n : Int) := by rw [fillS_la]
      by_cases hm : a3 < 0 ∨ 64 < a3
      · have hc : (fillS room n).afc a2 a3 = 1 := if_pos hm
        have ha : (fillS room n).after a2 a3 = [] := by unfold RS.after; rw [hc]; rfl
        rw [hc, ha]
        rcases hm with hm | hm
        · clear hafl hala hc ha
          go_wp2
          go_ret
          exact ⟨rfl, HBW5.out⟩
        · clear hafl hala hc ha
          go_wp2
          go_ret
          exact ⟨rfl, HBW5.out⟩
      · by_cases ha2 : a2 < (fl : Int)
        · have hc : (fillS room n).afc a2 a3 = 60 := by unfold RS.afc; rw [if_neg hm, hafl, if_pos ha2]
          have ha : (fillS room n).after a2 a3 = [] := by unfold RS.after; rw [hc]; rfl
          rw [hc, ha]
          have hm1 : 0 ≤ a3 := by omega
          have hm2 : a3 ≤ 64 := by omega
          clear hafl hala hc ha hm
          go_wp2
          go_ret
          exact ⟨rfl, HBW5.out⟩
        · by_cases ha3 : (n : Int) < a2
          · have hc : (fillS room n).afc a2 a3 = 61 := by unfold RS.afc; rw [if_neg hm, hafl, if_neg ha2, hala, if_pos ha3]
            have ha : (fillS room n).after a2 a3 = [] := by unfold RS.after; rw [hc]; rfl
            rw [hc, ha]
            have hm1 : 0 ≤ a3 := by omega
            have hm2 : a3 ≤ 64 := by omega
            clear hafl hala hc ha hm
            go_wp2
            go_ret
            exact ⟨rfl, HBW5.out⟩
          · have hc : (fillS room n).afc a2 a3 = 0 := by unfold RS.afc; rw [if_neg hm, hafl, if_neg ha2, hala, if_neg ha3]
            have hla2 := hala
            obtain ⟨a, rfl⟩ : ∃ k : Nat, a2 = k := ⟨a2.toNat, by omega⟩
            obtain ⟨m, rfl⟩ : ∃ k : Nat, a3 = k := ⟨a3.toNat, by omega⟩
            obtain ⟨d, hdd⟩ : ∃ d, d = a - fl := ⟨_, rfl⟩
            obtain ⟨r, hr⟩ : ∃ r, r = n3 - d := ⟨_, rfl⟩
            have hsd : (a : Int) - (fl : Int) = (d : Int) := by omega
            have hda : d ≤ n3 := by have := HLN.out; have := HFL.out; omega
            have hwant := want_eq room n a m (by have := HFL.out; omega) (by omega) (by omega)
            rw [← HFL.out, ← hdd] at hwant
            obtain ⟨q, hq⟩ : ∃ q, q = ((fillS room n).after a m).length := ⟨_, rfl⟩
            have hql : q = min m r := by rw [hq, hwant, List.length_take, List.length_drop, fillS_len, hr]; have := HLN.out; omega
            rw [hc, ← hq]
            have hlen3 : (fillS room n).l.length = n3 := by rw [fillS_len]; exact HLN.out.symm
            have hcd : Kd.C k33 w5 (if c3 = d then A3 else A3.map (·.add (d * 6))) ((fillS room n).l.drop d).length ((fillS room n).l.drop d) :=
              Kd.C_drop (Kd.C_below (by rw [hlen3]; exact HREAD.out) HB35.out) (by rw [hlen3]; exact hda) (by rw [hlen3]; exact hc3)
            obtain ⟨A8, hA8⟩ : ∃ A8, A8 = (if c3 = d then A3 else A3.map (·.add (d * 6))) := ⟨_, rfl⟩
            have hcut : ∀ W, (Instr.slice 25 (.slice A3 n3 c3) (some (.int .i64 (d : Int))) none none).run Try.prog W = .ok (.slice A8 r (c3 - d)) W := by
              intro W
              obtain ⟨i0, hi0, hz⟩ := Option.map_eq_some_iff.1 info33
              simp only [Prod.mk.injEq] at hz
              have := cut_from (P := Try.prog) 25 33 .i64 Try.underlying25 hi0 6 hz.2.1 A3 n3 c3 (d : Int) (by omega) (by omega) W
              rw [Int.toNat_natCast] at this
              rw [hA8, hr]
              exact this
            rw [← hA8, show ((fillS room n).l.drop d).length = r by rw [List.length_drop, hlen3, hr]] at hcd
            have hqc : q ≤ c7 := by rw [hq]; exact HC7.out
            have hrd8 : Kd.C k33 w5 A7 q ((fillS room n).after a m) := by rw [hq]; exact (Kd.S_reads' HS7.out).2.2
            have HRD8 := Aside0.mk hrd8
            have hrc : r ≤ c3 - d := by omega
            have hrle : r ≤ 64 := by omega
            have hmle : m ≤ 64 := by omega
            by_cases hrm : m < r
            · obtain rfl : q = m := by omega
              have hcd2 : Kd.C k33 w5 A8 q ((fillS room n).after a q) := by
                have := Kd.C_take (m := q) (xs := (fillS room n).l.drop d) (A := A8) (w := w5) (k := k33) (by rw [show ((fillS room n).l.drop d).length = r by rw [List.length_drop, hlen3, hr]]; exact hcd) (by rw [List.length_drop, hlen3]; omega)
                rw [hwant]
                rw [show (((fillS room n).l.drop d).take q).length = q by rw [List.length_take, List.length_drop, hlen3]; omega] at this
                exact this
              have hcut2 : ∀ W, (Instr.slice 25 (.slice A8 r (c3 - d)) none (some (.int .i64 (q : Int))) none).run Try.prog W = .ok (.slice A8 q (c3 - d)) W := by
                intro W
                obtain ⟨i0, hi0, hz⟩ := Option.map_eq_some_iff.1 info33
                have := cut_to (P := Try.prog) 25 33 .i64 Try.underlying25 hi0 A8 r (c3 - d) (q : Int) (by omega) (by omega) (by omega) W
                rw [Int.toNat_natCast] at this
                exact this
              have HCD := Aside0.mk hcd2
              have HLQ := Aside0.mk hq.symm
              have hdr : decide ((q : Int) < (r : Int)) = true := decide_eq_true (by omega)
              have hqcd : q ≤ c3 - d := by omega
              clear hwant hcd hcd2 hql hq hr hdd hlen3 hA8 hrd8 hafl hala hla2 hc hm
              go_wp2_with fail
              refine (sameAll_T ((fillS room n).after a q) A7 A8 q c7 (c3 - d) _ HLQ.out (fun x hx => fillS_mem room n x (by
                  unfold RS.after at hx
                  split at hx
                  · exact List.mem_of_mem_drop (List.mem_of_mem_take hx)
                  · cases hx)) (by omega) HRD8.out hqc HCD.out hqcd).mono ?_
              rintro e w8 ⟨rfl, hb8⟩
              have HB8 := Aside0.mk (below_step HBW5.out hb8)
              clear hb8
              go_wp2
              go_ret
              exact ⟨rfl, HB8.out⟩
            · obtain rfl : q = r := by omega
              have hcd2 : Kd.C k33 w5 A8 q ((fillS room n).after a m) := by
                rw [hwant, List.take_of_length_le (by rw [List.length_drop, hlen3]; omega)]
                exact hcd
              have HCD := Aside0.mk hcd2
              have HLQ := Aside0.mk hq.symm
              have hdr : decide ((m : Int) < (q : Int)) = false := decide_eq_false (by omega)
              clear hwant hcd hcd2 hql hq hr hdd hlen3 hA8 hrd8 hafl hala hla2 hc hm
              go_wp2_with fail
              refine (sameAll_T ((fillS room n).after a m) A7 A8 q c7 (c3 - d) _ HLQ.out (fun x hx => fillS_mem room n x (by
                  unfold RS.after at hx
                  split at hx
                  · exact List.mem_of_mem_drop (List.mem_of_mem_take hx)
                  · cases hx)) (by omega) HRD8.out hqc HCD.out hrc).mono ?_
              rintro e w8 ⟨rfl, hb8⟩
              have HB8 := Aside0.mk (below_step HBW5.out hb8)
              clear hb8
              go_wp2
              go_ret
              exact ⟨rfl, HB8.out⟩
set_option maxHeartbeats 16000000 in
set_option maxRecDepth 100000 in
theorem ringTells_ge (room n : Nat) (a2 a3 : Int) (w : World) (h1 : 1 ≤ room) (h2 : room ≤ 64) (hn : n ≤ 200) (hnr : ¬ n < room) :
    Calls Try.prog 6 #[.int .i64 (room : Int), .int .i64 (n : Int), .int .i64 a2, .int .i64 a3] w fun e w' => e = .returned (.bool true) ∧ Below w.heap.size w w' := by
  obtain ⟨ln, hln⟩ : ∃ ln, ln = min n room := ⟨_, rfl⟩
  obtain ⟨fl, hfl⟩ : ∃ fl, fl = n - room := ⟨_, rfl⟩
  have hs : (n : Int) - (ln : Int) = (fl : Int) := by omega
  have hlnn : ln ≤ 64 := by omega
  have hfln : fl ≤ 200 := by omega
  have HLN := Aside0.mk hln
  have HFL := Aside0.mk hfl
  clear hln hfl
  go_enter Try.func6, Try.ntmps6
  go_wp2_with fail
  refine (begins_R w).mono ?_
  rintro e w1 ⟨rfl, hb⟩
  have HB := Aside0.mk hb
  clear hb
  go_wp2_with fail
  refine (filled_R w1 room n h1 h2 hn).mono ?_
  rintro e w2 ⟨rfl, hr, hb⟩
  have HR2 := Aside0.mk hr
  have HB2 := Aside0.mk (below_step HB.out hb)
  clear hr hb
  go_wp2_with fail
  refine (all_R (p := some w1.heap.size) HR2.out).mono ?_
  rintro e w3 ⟨A3, n3, c3, rfl, hn3, hc3, hs3, hb3⟩
  obtain rfl : n3 = ln := by rw [hn3, fillS_len, HLN.out]
  have HR3 := Aside0.mk (RingIs_below HR2.out hb3)
  have HB3 := Aside0.mk (below_step HB2.out hb3)
  have HS3 := Aside0.mk hs3
  have hc3' : n3 ≤ c3 := hc3
  obtain ⟨q1, q2, q3⟩ := Kd.S_reads' hs3
  rw [← q1] at q3
  have HREAD := Aside0.mk q3
  clear hs3 hb3 hn3 q1 q2 q3
  go_wp2_with fail
  refine (floor_R (p := some w1.heap.size) HR3.out).mono ?_
  rintro e w4 ⟨rfl, ⟨⟨m4, rfl⟩⟩⟩
  rw [show (fillS room n).fl = fl from HFL.out.symm]
  have HB4 := Aside0.mk (pw_below_drewN HB3.out m4)
  have hB1 : ((n3 : Int) != (room : Int)) = false := bne_eq_false_iff_eq.mpr (by have := HLN.out; omega)
  have hB2 : room ≤ n := by omega
  go_wp2
  go_loopw [15, 16, 17] (fun v15 v16 v17 wr => ∃ k : Nat, k ≤ n3 ∧ v15 = .int .i64 (k : Int) ∧ Aside0 (Below w.heap.size w wr) ∧ Aside0 (Below w3.heap.size w3 wr)) (fun v15 _ _ _ => n3 - (intOf v15).toNat)
  case atStart => exact ⟨0, Nat.zero_le _, rfl, HB4, ⟨pw_below_drewN (Below.refl _ _) _⟩⟩
  case round =>
    obtain ⟨k, hk, rfl, HW, HW3⟩ := hrel
    by_cases hlt : k < n3
    · have hd : decide ((k : Int) < (n3 : Int)) = true := decide_eq_true (by omega)
      go_wp2_with fail
      refine (at_R (RingIs_below HR3.out HW3.out) ((fl : Int) + 1 + (k : Int))).mono ?_
      rintro e w5 ⟨A5, c5, rfl, hv5, hb5⟩
      have hat := fillS_at room n k (by have := HLN.out; omega)
      rw [← HFL.out] at hat
      obtain ⟨i, hi⟩ : ∃ i, i = fl + 1 + k := ⟨_, rfl⟩
      rw [hat.1]
      rw [hat.2, ← hi] at hv5 ⊢
      have HV5 := Aside0.mk hv5
      have HB5 := Aside0.mk hb5
      have HI := Aside0.mk hi
      have hrd : rd_T33 (fillS room n).l (k : Int) = fent i := by
        unfold rd_T33
        rw [Int.toNat_natCast, List.getD_eq_getElem?_getD, fillS_get room n k (by have := HLN.out; omega), HI.out, HFL.out]
        rfl
      obtain ⟨ad, A6, c6, hA, x0, x1, x2, x3, x4, x5, xl, xc⟩ := at_T33 HREAD.out (k : Int) (by omega) (by omega)
      subst hA
      rw [hrd] at x0 x1 x2 x3 x4 x5 xl xc
      rw [Int.toNat_natCast] at x0 x1 x2 x3 x4 x5
      have hb35 : Below w3.heap.size w3 w5 := below_step HW3.out hb5
      have XC := Aside0.mk (Kd.C_below xc hb35)
      have XL := Aside0.mk xl
      replace x0 := pw_cell_below hb35 x0
      replace x1 := pw_cell_below hb35 x1
      replace x2 := pw_cell_below hb35 x2
      replace x3 := pw_cell_below hb35 x3
      replace x4 := pw_cell_below hb35 x4
      replace x5 := pw_cell_below hb35 x5
      have X0 := Aside0.mk (And.intro x0 (And.intro x1 (And.intro x2 (And.intro x3 (And.intro x4 x5)))))
      have HB35 := Aside0.mk hb35
      have HBW := Aside0.mk (below_step HW.out hb5)
      have hnew : (w5.alloc (.cells zeroCells 33)).heap[w5.heap.size]? = some (.cells zeroCells 33) := heap_alloc_new _ _
      have HNEW := Aside0.mk hnew
      obtain ⟨F, hF⟩ : ∃ F, F = fent i := ⟨_, rfl⟩
      clear hv5 hb5 hat hi hrd x0 x1 x2 x3 x4 x5 xl xc hb35 hnew hF
      unfold entV
      go_wp2_with (with_reducible refine stop_store rfl ?_)
      obtain ⟨Fi, hFi⟩ : ∃ Fi : S33, Fi = ⟨(i : Int), ((i / 3 : Nat) : Int), 1, 5, (i : Int), (fent i).f5⟩ := ⟨_, rfl⟩
      refine wpList_store rfl rfl 33 (.tmp 16) (.tmp 98) rfl (.agg #[.int .i64 (i : Int), .int .i64 ((i / 3 : Nat) : Int), .int .i64 1, .int .i64 5, .int .i64 (i : Int), .slice A5 2 c5]) (cells6 (fent i) (.slice A5 2 c5)) rfl rfl HNEW.out rfl size33 (by show 0 + 6 ≤ 6; omega) (by simp [cells6, Value.oneCell']) ?_
      rw [alloc_full (w := w5) (cur := zeroCells) (e := 33) (cells6 (fent i) (.slice A5 2 c5)) rfl]
      have hbox : (w5.alloc (.cells (cells6 (fent i) (.slice A5 2 c5)).toArray 33)).heap[w5.heap.size]? = some (.cells (cells6 (fent i) (.slice A5 2 c5)).toArray 33) := heap_alloc_new _ _
      have hb56 : Below w5.heap.size w5 (w5.alloc (.cells (cells6 (fent i) (.slice A5 2 c5)).toArray 33)) := below_alloc (Below.refl _ _) _
      obtain ⟨w6, hw6⟩ : ∃ w6, w6 = w5.alloc (.cells (cells6 (fent i) (.slice A5 2 c5)).toArray 33) := ⟨_, rfl⟩
      rw [← hw6] at hbox hb56 ⊢
      obtain ⟨ad5, rfl⟩ : ∃ ad5, A5 = some ad5 := by
        obtain ⟨q, h, _⟩ := (Kd.R_reads' HV5.out).2.2.2.2 (by show 0 < 2; omega)
        exact ⟨q, h⟩
      obtain ⟨_, ho, o0, _⟩ := at_T55 (Kd.R_reads' HV5.out).2.2 0 (by omega) (by show (0 : Int) < ((2 : Nat) : Int); omega)
      cases ho
      have o1 : w6.drew.cell? ad5 = some (.int .i64 (i : Int)) := by
        have := pw_cell_below hb56 o0
        rw [show Int.toNat 0 * 5 = 0 from rfl, Addr.add_zero'] at this
        exact this
      have b0 : w6.drew.cell? ⟨w5.heap.size, 0, none⟩ = some (.int .i64 (i : Int)) := (blk_cell hbox 0).trans rfl
      have b1 : w6.drew.cell? ⟨w5.heap.size, 1, none⟩ = some (.int .i64 ((i / 3 : Nat) : Int)) := (blk_cell hbox 1).trans rfl
      have b2 : w6.drew.cell? ⟨w5.heap.size, 2, none⟩ = some (.int .i64 1) := (blk_cell hbox 2).trans rfl
      have b3 : w6.drew.cell? ⟨w5.heap.size, 3, none⟩ = some (.int .i64 5) := (blk_cell hbox 3).trans rfl
      have b4 : w6.drew.cell? ⟨w5.heap.size, 4, none⟩ = some (.int .i64 (i : Int)) := (blk_cell hbox 4).trans rfl
      have b5 : w6.drew.cell? ⟨w5.heap.size, 5, none⟩ = some (.slice (some ad5) 2 c5) := (blk_cell hbox 5).trans rfl
      obtain ⟨x0, x1, x2, x3, x4, x5⟩ := X0.out
      have y0 : w6.drew.cell? (ad.add (k * 6)) = some (.int .i64 (i : Int)) := pw_cell_below hb56 x0
      have y1 : w6.drew.cell? ⟨(ad.add (k * 6)).block, (ad.add (k * 6)).off + 1, none⟩ = some (.int .i64 ((i / 3 : Nat) : Int)) := pw_cell_below hb56 x1
      have y2 : w6.drew.cell? ⟨(ad.add (k * 6)).block, (ad.add (k * 6)).off + 2, none⟩ = some (.int .i64 1) := pw_cell_below hb56 x2
      have y3 : w6.drew.cell? ⟨(ad.add (k * 6)).block, (ad.add (k * 6)).off + 3, none⟩ = some (.int .i64 5) := pw_cell_below hb56 x3
      have y4 : w6.drew.cell? ⟨(ad.add (k * 6)).block, (ad.add (k * 6)).off + 4, none⟩ = some (.int .i64 (i : Int)) := pw_cell_below hb56 x4
      have y5 : w6.drew.cell? ⟨(ad.add (k * 6)).block, (ad.add (k * 6)).off + 5, none⟩ = some (.slice A6 2 c6) := pw_cell_below hb56 x5
      have HC5 := Aside0.mk (show Kd.C k55 w6 (some ad5) 2 (fent i).f5 from Kd.C_below (Kd.R_reads' HV5.out).2.2 hb56)
      have HL5 := Aside0.mk (show 2 ≤ c5 from (Kd.R_reads' HV5.out).2.1)
      have HXL := Aside0.mk (show 2 ≤ c6 from XL.out)
      have HC6 := Aside0.mk (show Kd.C k55 w6 A6 2 (fent i).f5 from Kd.C_below XC.out hb56)
      have HBW6 := Aside0.mk (below_step HBW.out hb56)
      have HB36 := Aside0.mk (below_step HB35.out hb56)
      clear o0 x0 x1 x2 x3 x4 x5 hbox hb56 hw6 hFi HV5 X0
      go_wp2
      refine start_ (n := 34) (S := fun w' => w'.cell? ad5 = some (.int .i64 (i : Int)) ∧ w'.cell? ⟨w5.heap.size, 0, none⟩ = some (.int .i64 (i : Int)) ∧ w'.cell? ⟨w5.heap.size, 1, none⟩ = some (.int .i64 ((i / 3 : Nat) : Int)) ∧ w'.cell? ⟨w5.heap.size, 2, none⟩ = some (.int .i64 1) ∧ w'.cell? ⟨w5.heap.size, 3, none⟩ = some (.int .i64 5) ∧ w'.cell? ⟨w5.heap.size, 4, none⟩ = some (.int .i64 (i : Int)) ∧ w'.cell? ⟨w5.heap.size, 5, none⟩ = some (.slice (some ad5) 2 c5) ∧ w'.cell? (ad.add (k * 6)) = some (.int .i64 (i : Int)) ∧ w'.cell? ⟨(ad.add (k * 6)).block, (ad.add (k * 6)).off + 1, none⟩ = some (.int .i64 ((i / 3 : Nat) : Int)) ∧ w'.cell? ⟨(ad.add (k * 6)).block, (ad.add (k * 6)).off + 2, none⟩ = some (.int .i64 1) ∧ w'.cell? ⟨(ad.add (k * 6)).block, (ad.add (k * 6)).off + 3, none⟩ = some (.int .i64 5) ∧ w'.cell? ⟨(ad.add (k * 6)).block, (ad.add (k * 6)).off + 4, none⟩ = some (.int .i64 (i : Int)) ∧ w'.cell? ⟨(ad.add (k * 6)).block, (ad.add (k * 6)).off + 5, none⟩ = some (.slice A6 2 c6)) (ds := []) #[false, false, false, false, false, false, false, false, false, false, false, false, false, false, false, false, false, false, false, false, false, false, false, false, false, false, false, false, false, false, false, false, false, false] (by kernel_rfl) rfl rfl ⟨o1, b0, b1, b2, b3, b4, b5, y0, y1, y2, y3, y4, y5⟩ (fun hHeld => ?_)
      refine with_tabW rg6.tab17 rg6.bits17 (fun HT_ HW_ => ?_)
      refine pure_ (i := 0) (N := some 100) (v := ?_) (a' := ?_) #[true, false, false, false, false, false, false, false, false, false, false, false, false, false, false, false, false, false, false, false, false, false, false, false, false, false, false, false, false, false, false, false, false, false] rfl rfl (any_of HT_.out (by kernel_rfl)) (fun _ _ _ h => h) (Or.inl ⟨by rfl, ?_⟩) ?_ ?_
      rotate_left
      · intro w'
        go_simp
        with_reducible rfl
      rotate_left
      · simp only [Act.put, List.setIfInBounds_toArray, List.set_cons_zero, List.set_cons_succ, i64_w, i32_w]
        rfl
      refine pure_ (i := 1) (N := some 101) (v := ?_) (a' := ?_) #[true, true, false, false, false, false, false, false, false, false, false, false, false, false, false, false, false, false, false, false, false, false, false, false, false, false, false, false, false, false, false, false, false, false] rfl rfl (any_of HT_.out (by kernel_rfl)) (fun _ _ _ h => h) (Or.inl ⟨by rfl, ?_⟩) ?_ ?_
      rotate_left
      · intro w'
        go_simp
        with_reducible rfl
      rotate_left
      · simp only [Act.put, List.setIfInBounds_toArray, List.set_cons_zero, List.set_cons_succ, i64_w, i32_w]
        rfl
      refine pure_ (i := 2) (N := some 102) (v := ?_) (a' := ?_) #[true, true, true, false, false, false, false, false, false, false, false, false, false, false, false, false, false, false, false, false, false, false, false, false, false, false, false, false, false, false, false, false, false, false] rfl rfl (any_of HT_.out (by kernel_rfl)) (fun _ _ _ h => h) (Or.inl ⟨by rfl, ?_⟩) ?_ ?_
      rotate_left
      · intro w'
        go_simp
        with_reducible rfl
      rotate_left
      · simp only [Act.put, List.setIfInBounds_toArray, List.set_cons_zero, List.set_cons_succ, i64_w, i32_w]
        rfl
      refine pure_ (i := 4) (N := some 104) (v := ?_) (a' := ?_) #[true, true, true, false, true, false, false, false, false, false, false, false, false, false, false, false, false, false, false, false, false, false, false, false, false, false, false, false, false, false, false, false, false, false] rfl rfl (any_of HT_.out (by kernel_rfl)) (fun _ _ _ h => h) (Or.inl ⟨by rfl, ?_⟩) ?_ ?_
      rotate_left
      · intro w'
        go_simp
        with_reducible rfl
      rotate_left
      · simp only [Act.put, List.setIfInBounds_toArray, List.set_cons_zero, List.set_cons_succ, i64_w, i32_w]
        rfl
      refine pure_ (i := 5) (N := some 105) (v := ?_) (a' := ?_) #[true, true, true, false, true, true, false, false, false, false, false, false, false, false, false, false, false, false, false, false, false, false, false, false, false, false, false, false, false, false, false, false, false, false] rfl rfl (any_of HT_.out (by kernel_rfl)) (fun _ _ _ h => h) (Or.inl ⟨by rfl, ?_⟩) ?_ ?_
      rotate_left
      · intro w'
        go_simp
        with_reducible rfl
      rotate_left
      · simp only [Act.put, List.setIfInBounds_toArray, List.set_cons_zero, List.set_cons_succ, i64_w, i32_w]
        rfl
      refine pure_ (i := 6) (N := some 106) (v := ?_) (a' := ?_) #[true, true, true, false, true, true, true, false, false, false, false, false, false, false, false, false, false, false, false, false, false, false, false, false, false, false, false, false, false, false, false, false, false, false] rfl rfl (any_of HT_.out (by kernel_rfl)) (fun _ _ _ h => h) (Or.inl ⟨by rfl, ?_⟩) ?_ ?_
      rotate_left
      · intro w'
        go_simp
        with_reducible rfl
      rotate_left
      · simp only [Act.put, List.setIfInBounds_toArray, List.set_cons_zero, List.set_cons_succ, i64_w, i32_w]
        rfl
      refine take_ (i := 3) (N := some 103) (v := ?_) (a' := ?_) #[true, true, true, true, true, true, true, false, false, false, false, false, false, false, false, false, false, false, false, false, false, false, false, false, false, false, false, false, false, false, false, false, false, false] rfl rfl (take_ofW HT_.out HW_.out (by kernel_rfl)) (fun _ _ _ h => h) (Or.inl ⟨by rfl, ?_⟩) hHeld ?_ ?_
      rotate_left
      · rintro w' ⟨s0, s1, s2, s3, s4, s5, s6, s7, s8, s9, s10, s11, s12⟩
        go_simp
        with_reducible rfl
      rotate_left
      · simp only [Act.put, List.setIfInBounds_toArray, List.set_cons_zero, List.set_cons_succ, i64_w, i32_w]
        rfl
      refine take_ (i := 7) (N := some 107) (v := ?_) (a' := ?_) #[true, true, true, true, true, true, true, true, false, false, false, false, false, false, false, false, false, false, false, false, false, false, false, false, false, false, false, false, false, false, false, false, false, false] rfl rfl (take_ofW HT_.out HW_.out (by kernel_rfl)) (fun _ _ _ h => h) (Or.inl ⟨by rfl, ?_⟩) hHeld ?_ ?_
      rotate_left
      · rintro w' ⟨s0, s1, s2, s3, s4, s5, s6, s7, s8, s9, s10, s11, s12⟩
        go_simp
        with_reducible rfl
      rotate_left
      · simp only [Act.put, List.setIfInBounds_toArray, List.set_cons_zero, List.set_cons_succ, i64_w, i32_w]
        rfl
      refine one_ (i := 8) (N := some 108) #[true, true, true, true, true, true, true, true, true, false, false, false, false, false, false, false, false, false, false, false, false, false, false, false, false, false, false, false, false, false, false, false, false, false] rfl rfl (one_of HT_.out (by kernel_rfl)) (by decide) (fun K hK => ?_)
      refine goes_ Try.func14 (by kernel_rfl) rfl #[entV (fent i) (.slice (some ad5) 2 c5), entV (fent i) (.slice A6 2 c6)] (by rfl) rfl rfl (by simp only [List.map_toArray, List.map_cons, List.map_nil]; rfl) ?_
      with_reducible refine (same_T (fent i) (some ad5) A6 2 c5 c6 _ rfl (fent_ok i) (Kd.C_drew HC5.out) HL5.out (Kd.C_drew HC6.out) HXL.out).mono ?_
      rintro e w7 ⟨rfl, hb7⟩
      have HB7 := Aside0.mk hb7
      refine ⟨_, rfl, ?_⟩
      refine hK.out _ _ ⟨(pw_cell_below hb7 o1), (pw_cell_below hb7 b0), (pw_cell_below hb7 b1), (pw_cell_below hb7 b2), (pw_cell_below hb7 b3), (pw_cell_below hb7 b4), (pw_cell_below hb7 b5), (pw_cell_below hb7 y0), (pw_cell_below hb7 y1), (pw_cell_below hb7 y2), (pw_cell_below hb7 y3), (pw_cell_below hb7 y4), (pw_cell_below hb7 y5)⟩ (fun hHeld => ?_)
      clear hK K
      refine norm_ (a' := ?_) ?_ ?_
      rotate_left
      · show Act.put _ (some 108) _ = _
        simp only [Act.put, List.setIfInBounds_toArray, List.set_cons_zero, List.set_cons_succ, i64_w, i32_w]
        rfl
      refine pure_ (i := 9) (N := some 109) (v := ?_) (a' := ?_) #[true, true, true, true, true, true, true, true, true, true, false, false, false, false, false, false, false, false, false, false, false, false, false, false, false, false, false, false, false, false, false, false, false, false] rfl rfl (any_of HT_.out (by kernel_rfl)) (fun _ _ _ h => h) (Or.inl ⟨by rfl, ?_⟩) ?_ ?_
      rotate_left
      · intro w'
        go_simp
        with_reducible rfl
      rotate_left
      · simp only [Act.put, List.setIfInBounds_toArray, List.set_cons_zero, List.set_cons_succ, i64_w, i32_w]
        rfl
      refine pure_ (i := 10) (N := some 110) (v := ?_) (a' := ?_) #[true, true, true, true, true, true, true, true, true, true, true, false, false, false, false, false, false, false, false, false, false, false, false, false, false, false, false, false, false, false, false, false, false, false] rfl rfl (any_of HT_.out (by kernel_rfl)) (fun _ _ _ h => h) (Or.inl ⟨by rfl, ?_⟩) ?_ ?_
      rotate_left
      · intro w'
        go_simp
        with_reducible rfl
      rotate_left
      · simp only [Act.put, List.setIfInBounds_toArray, List.set_cons_zero, List.set_cons_succ, i64_w, i32_w]
        rfl
      refine pure_ (i := 11) (N := some 111) (v := ?_) (a' := ?_) #[true, true, true, true, true, true, true, true, true, true, true, true, false, false, false, false, false, false, false, false, false, false, false, false, false, false, false, false, false, false, false, false, false, false] rfl rfl (any_of HT_.out (by kernel_rfl)) (fun _ _ _ h => h) (Or.inl ⟨by rfl, ?_⟩) ?_ ?_
      rotate_left
      · intro w'
        go_simp
        with_reducible rfl
      rotate_left
      · simp only [Act.put, List.setIfInBounds_toArray, List.set_cons_zero, List.set_cons_succ, i64_w, i32_w]
        rfl
      refine pure_ (i := 12) (N := some 112) (v := ?_) (a' := ?_) #[true, true, true, true, true, true, true, true, true, true, true, true, true, false, false, false, false, false, false, false, false, false, false, false, false, false, false, false, false, false, false, false, false, false] rfl rfl (any_of HT_.out (by kernel_rfl)) (fun _ _ _ h => h) (Or.inl ⟨by rfl, ?_⟩) ?_ ?_
      rotate_left
      · intro w'
        go_simp
        with_reducible rfl
      rotate_left
      · simp only [Act.put, List.setIfInBounds_toArray, List.set_cons_zero, List.set_cons_succ, i64_w, i32_w]
        rfl
      refine take_ (i := 13) (N := some 113) (v := ?_) (a' := ?_) #[true, true, true, true, true, true, true, true, true, true, true, true, true, true, false, false, false, false, false, false, false, false, false, false, false, false, false, false, false, false, false, false, false, false] rfl rfl (take_ofW HT_.out HW_.out (by kernel_rfl)) (fun _ _ _ h => h) (Or.inl ⟨by rfl, ?_⟩) hHeld ?_ ?_
      rotate_left
      · rintro w' ⟨s0, s1, s2, s3, s4, s5, s6, s7, s8, s9, s10, s11, s12⟩
        go_simp
        with_reducible rfl
      rotate_left
      · simp only [Act.put, List.setIfInBounds_toArray, List.set_cons_zero, List.set_cons_succ, i64_w, i32_w]
        rfl
      refine pure_ (i := 14) (N := some 114) (v := ?_) (a' := ?_) #[true, true, true, true, true, true, true, true, true, true, true, true, true, true, true, false, false, false, false, false, false, false, false, false, false, false, false, false, false, false, false, false, false, false] rfl rfl (any_of HT_.out (by kernel_rfl)) (fun _ _ _ h => h) (Or.inl ⟨by rfl, ?_⟩) ?_ ?_
      rotate_left
      · intro w'
        go_simp
        with_reducible rfl
      rotate_left
      · simp only [Act.put, List.setIfInBounds_toArray, List.set_cons_zero, List.set_cons_succ, i64_w, i32_w]
        rfl
      refine pure_ (i := 15) (N := some 115) (v := ?_) (a' := ?_) #[true, true, true, true, true, true, true, true, true, true, true, true, true, true, true, true, false, false, false, false, false, false, false, false, false, false, false, false, false, false, false, false, false, false] rfl rfl (any_of HT_.out (by kernel_rfl)) (fun _ _ _ h => h) (Or.inl ⟨by rfl, ?_⟩) ?_ ?_
      rotate_left
      · intro w'
        go_simp
        with_reducible rfl
      rotate_left
      · simp only [Act.put, List.setIfInBounds_toArray, List.set_cons_zero, List.set_cons_succ, i64_w, i32_w]
        rfl
      refine pure_ (i := 16) (N := some 116) (v := ?_) (a' := ?_) #[true, true, true, true, true, true, true, true, true, true, true, true, true, true, true, true, true, false, false, false, false, false, false, false, false, false, false, false, false, false, false, false, false, false] rfl rfl (any_of HT_.out (by kernel_rfl)) (fun _ _ _ h => h) (Or.inl ⟨by rfl, ?_⟩) ?_ ?_
      rotate_left
      · intro w'
        go_simp
        with_reducible rfl
      rotate_left
      · simp only [Act.put, List.setIfInBounds_toArray, List.set_cons_zero, List.set_cons_succ, i64_w, i32_w]
        rfl
      refine pure_ (i := 17) (N := some 117) (v := ?_) (a' := ?_) #[true, true, true, true, true, true, true, true, true, true, true, true, true, true, true, true, true, true, false, false, false, false, false, false, false, false, false, false, false, false, false, false, false, false] rfl rfl (any_of HT_.out (by kernel_rfl)) (fun _ _ _ h => h) (Or.inl ⟨by rfl, ?_⟩) ?_ ?_
      rotate_left
      · intro w'
        go_simp
        with_reducible rfl
      rotate_left
      · simp only [Act.put, List.setIfInBounds_toArray, List.set_cons_zero, List.set_cons_succ, i64_w, i32_w]
        rfl
      refine pure_ (i := 18) (N := some 118) (v := ?_) (a' := ?_) #[true, true, true, true, true, true, true, true, true, true, true, true, true, true, true, true, true, true, true, false, false, false, false, false, false, false, false, false, false, false, false, false, false, false] rfl rfl (any_of HT_.out (by kernel_rfl)) (fun _ _ _ h => h) (Or.inl ⟨by rfl, ?_⟩) ?_ ?_
      rotate_left
      · intro w'
        go_simp
        with_reducible rfl
      rotate_left
      · simp only [Act.put, List.setIfInBounds_toArray, List.set_cons_zero, List.set_cons_succ, i64_w, i32_w]
        rfl
      refine pure_ (i := 23) (N := some 123) (v := ?_) (a' := ?_) #[true, true, true, true, true, true, true, true, true, true, true, true, true, true, true, true, true, true, true, false, false, false, false, true, false, false, false, false, false, false, false, false, false, false] rfl rfl (any_of HT_.out (by kernel_rfl)) (fun _ _ _ h => h) (Or.inl ⟨by rfl, ?_⟩) ?_ ?_
      rotate_left
      · intro w'
        go_simp
        with_reducible rfl
      rotate_left
      · simp only [Act.put, List.setIfInBounds_toArray, List.set_cons_zero, List.set_cons_succ, i64_w, i32_w]
        rfl
      refine take_ (i := 19) (N := some 119) (v := ?_) (a' := ?_) #[true, true, true, true, true, true, true, true, true, true, true, true, true, true, true, true, true, true, true, true, false, false, false, true, false, false, false, false, false, false, false, false, false, false] rfl rfl (take_ofW HT_.out HW_.out (by kernel_rfl)) (fun _ _ _ h => h) (Or.inl ⟨by rfl, ?_⟩) hHeld ?_ ?_
      rotate_left
      · rintro w' ⟨s0, s1, s2, s3, s4, s5, s6, s7, s8, s9, s10, s11, s12⟩
        go_simp
        with_reducible rfl
      rotate_left
      · simp only [Act.put, List.setIfInBounds_toArray, List.set_cons_zero, List.set_cons_succ, i64_w, i32_w]
        rfl
      refine pure_ (i := 20) (N := some 120) (v := ?_) (a' := ?_) #[true, true, true, true, true, true, true, true, true, true, true, true, true, true, true, true, true, true, true, true, true, false, false, true, false, false, false, false, false, false, false, false, false, false] rfl rfl (any_of HT_.out (by kernel_rfl)) (fun _ _ _ h => h) (Or.inl ⟨by rfl, ?_⟩) ?_ ?_
      rotate_left
      · intro w'
        go_simp
        with_reducible rfl
      rotate_left
      · simp only [Act.put, List.setIfInBounds_toArray, List.set_cons_zero, List.set_cons_succ, i64_w, i32_w]
        rfl
      refine pure_ (i := 21) (N := some 121) (v := ?_) (a' := ?_) #[true, true, true, true, true, true, true, true, true, true, true, true, true, true, true, true, true, true, true, true, true, true, false, true, false, false, false, false, false, false, false, false, false, false] rfl rfl (any_of HT_.out (by kernel_rfl)) (fun _ _ _ h => h) (Or.inl ⟨by rfl, ?_⟩) ?_ ?_
      rotate_left
      · intro w'
        go_simp
        with_reducible rfl
      rotate_left
      · simp only [Act.put, List.setIfInBounds_toArray, List.set_cons_zero, List.set_cons_succ, i64_w, i32_w]
        rfl
      refine take_ (i := 22) (N := some 122) (v := ?_) (a' := ?_) #[true, true, true, true, true, true, true, true, true, true, true, true, true, true, true, true, true, true, true, true, true, true, true, true, false, false, false, false, false, false, false, false, false, false] rfl rfl (take_ofW HT_.out HW_.out (by kernel_rfl)) (fun _ _ _ h => h) (Or.inl ⟨by rfl, ?_⟩) hHeld ?_ ?_
      rotate_left
      · rintro w' ⟨s0, s1, s2, s3, s4, s5, s6, s7, s8, s9, s10, s11, s12⟩
        go_simp
        with_reducible rfl
      rotate_left
      · simp only [Act.put, List.setIfInBounds_toArray, List.set_cons_zero, List.set_cons_succ, i64_w, i32_w]
        rfl
      refine take_ (i := 24) (N := some 124) (v := ?_) (a' := ?_) #[true, true, true, true, true, true, true, true, true, true, true, true, true, true, true, true, true, true, true, true, true, true, true, true, true, false, false, false, false, false, false, false, false, false] rfl rfl (take_ofW HT_.out HW_.out (by kernel_rfl)) (fun _ _ _ h => h) (Or.inl ⟨by rfl, ?_⟩) hHeld ?_ ?_
      rotate_left
      · rintro w' ⟨s0, s1, s2, s3, s4, s5, s6, s7, s8, s9, s10, s11, s12⟩
        go_simp
        with_reducible rfl
      rotate_left
      · simp only [Act.put, List.setIfInBounds_toArray, List.set_cons_zero, List.set_cons_succ, i64_w, i32_w]
        rfl
      refine pure_ (i := 25) (N := some 125) (v := ?_) (a' := ?_) #[true, true, true, true, true, true, true, true, true, true, true, true, true, true, true, true, true, true, true, true, true, true, true, true, true, true, false, false, false, false, false, false, false, false] rfl rfl (any_of HT_.out (by kernel_rfl)) (fun _ _ _ h => h) (Or.inl ⟨by rfl, ?_⟩) ?_ ?_
      rotate_left
      · intro w'
        go_simp
        with_reducible rfl
      rotate_left
      · simp only [Act.put, List.setIfInBounds_toArray, List.set_cons_zero, List.set_cons_succ, i64_w, i32_w]
        rfl
      refine pure_ (i := 26) (N := some 126) (v := ?_) (a' := ?_) #[true, true, true, true, true, true, true, true, true, true, true, true, true, true, true, true, true, true, true, true, true, true, true, true, true, true, true, false, false, false, false, false, false, false] rfl rfl (any_of HT_.out (by kernel_rfl)) (fun _ _ _ h => h) (Or.inl ⟨by rfl, ?_⟩) ?_ ?_
      rotate_left
      · intro w'
        go_simp
        with_reducible rfl
      rotate_left
      · simp only [Act.put, List.setIfInBounds_toArray, List.set_cons_zero, List.set_cons_succ, i64_w, i32_w]
        rfl
      refine pure_ (i := 27) (N := some 127) (v := ?_) (a' := ?_) #[true, true, true, true, true, true, true, true, true, true, true, true, true, true, true, true, true, true, true, true, true, true, true, true, true, true, true, true, false, false, false, false, false, false] rfl rfl (any_of HT_.out (by kernel_rfl)) (fun _ _ _ h => h) (Or.inl ⟨by rfl, ?_⟩) ?_ ?_
      rotate_left
      · intro w'
        go_simp
        with_reducible rfl
      rotate_left
      · simp only [Act.put, List.setIfInBounds_toArray, List.set_cons_zero, List.set_cons_succ, i64_w, i32_w]
        rfl
      refine pure_ (i := 28) (N := some 128) (v := ?_) (a' := ?_) #[true, true, true, true, true, true, true, true, true, true, true, true, true, true, true, true, true, true, true, true, true, true, true, true, true, true, true, true, true, false, false, false, false, false] rfl rfl (any_of HT_.out (by kernel_rfl)) (fun _ _ _ h => h) (Or.inl ⟨by rfl, ?_⟩) ?_ ?_
      rotate_left
      · intro w'
        go_simp
        with_reducible rfl
      rotate_left
      · simp only [Act.put, List.setIfInBounds_toArray, List.set_cons_zero, List.set_cons_succ, i64_w, i32_w]
        rfl
      refine pure_ (i := 30) (N := some 130) (v := ?_) (a' := ?_) #[true, true, true, true, true, true, true, true, true, true, true, true, true, true, true, true, true, true, true, true, true, true, true, true, true, true, true, true, true, false, true, false, false, false] rfl rfl (any_of HT_.out (by kernel_rfl)) (fun _ _ _ h => h) (Or.inl ⟨by rfl, ?_⟩) ?_ ?_
      rotate_left
      · intro w'
        go_simp
        with_reducible rfl
      rotate_left
      · simp only [Act.put, List.setIfInBounds_toArray, List.set_cons_zero, List.set_cons_succ, i64_w, i32_w]
        rfl
      refine take_ (i := 29) (N := some 129) (v := ?_) (a' := ?_) #[true, true, true, true, true, true, true, true, true, true, true, true, true, true, true, true, true, true, true, true, true, true, true, true, true, true, true, true, true, true, true, false, false, false] rfl rfl (take_ofW HT_.out HW_.out (by kernel_rfl)) (fun _ _ _ h => h) (Or.inl ⟨by rfl, ?_⟩) hHeld ?_ ?_
      rotate_left
      · rintro w' ⟨s0, s1, s2, s3, s4, s5, s6, s7, s8, s9, s10, s11, s12⟩
        go_simp
        with_reducible rfl
      rotate_left
      · simp only [Act.put, List.setIfInBounds_toArray, List.set_cons_zero, List.set_cons_succ, i64_w, i32_w]
        rfl
      refine take_ (i := 31) (N := some 131) (v := ?_) (a' := ?_) #[true, true, true, true, true, true, true, true, true, true, true, true, true, true, true, true, true, true, true, true, true, true, true, true, true, true, true, true, true, true, true, true, false, false] rfl rfl (take_ofW HT_.out HW_.out (by kernel_rfl)) (fun _ _ _ h => h) (Or.inl ⟨by rfl, ?_⟩) hHeld ?_ ?_
      rotate_left
      · rintro w' ⟨s0, s1, s2, s3, s4, s5, s6, s7, s8, s9, s10, s11, s12⟩
        go_simp
        with_reducible rfl
      rotate_left
      · simp only [Act.put, List.setIfInBounds_toArray, List.set_cons_zero, List.set_cons_succ, i64_w, i32_w]
        rfl
      refine pure_ (i := 32) (N := some 132) (v := ?_) (a' := ?_) #[true, true, true, true, true, true, true, true, true, true, true, true, true, true, true, true, true, true, true, true, true, true, true, true, true, true, true, true, true, true, true, true, true, false] rfl rfl (any_of HT_.out (by kernel_rfl)) (fun _ _ _ h => h) (Or.inl ⟨by rfl, ?_⟩) ?_ ?_
      rotate_left
      · intro w'
        go_simp
        with_reducible rfl
      rotate_left
      · simp only [Act.put, List.setIfInBounds_toArray, List.set_cons_zero, List.set_cons_succ, i64_w, i32_w]
        rfl
      refine pure_ (i := 33) (N := some 133) (v := ?_) (a' := ?_) #[true, true, true, true, true, true, true, true, true, true, true, true, true, true, true, true, true, true, true, true, true, true, true, true, true, true, true, true, true, true, true, true, true, true] rfl rfl (any_of HT_.out (by kernel_rfl)) (fun _ _ _ h => h) (Or.inl ⟨by rfl, ?_⟩) ?_ ?_
      rotate_left
      · intro w'
        go_simp
        with_reducible rfl
      rotate_left
      · simp only [Act.put, List.setIfInBounds_toArray, List.set_cons_zero, List.set_cons_succ, i64_w, i32_w]
        rfl
      refine done_ (done_of HT_.out (by kernel_rfl)) ?_
      have HBW7 := Aside0.mk (show Below w.heap.size w w7 from below_then (below_drew HBW6.out) HBW6.out.size HB7.out)
      have HB37 := Aside0.mk (show Below w3.heap.size w3 w7 from below_then (below_drew HB36.out) HB36.out.size HB7.out)
      clear HB7
      go_wp2
      go_roundw
      case rel => exact ⟨k + 1, by omega, by go_num, HBW7, HB37⟩
      case measure => simp [intOf]; omega
    · have hd : decide ((k : Int) < (n3 : Int)) = false := decide_eq_false (by omega)
      have hkn : n3 ≤ k := by omega
      go_wp2_with fail
      refine (after_R (RingIs_below HR3.out HW3.out) a2 a3).mono ?_
      rintro e w5 ⟨A7, c7, rfl, hs7, hc7, hb7⟩
      have HBW5 := Aside0.mk (below_step HW.out hb7)
      have HB35 := Aside0.mk (below_step HW3.out hb7)
      have HS7 := Aside0.mk hs7
      have HC7 := Aside0.mk hc7
      clear hs7 hc7 hb7
      have hafl : ((fillS room n).fl : Int) = (fl : Int) := by rw [HFL.out]; rfl
      have hala : ((fillS room n).la : Int) = (n : Int) := by rw [fillS_la]
      by_cases hm : a3 < 0 ∨ 64 < a3
      · have hc : (fillS room n).afc a2 a3 = 1 := if_pos hm
        have ha : (fillS room n).after a2 a3 = [] := by unfold RS.after; rw [hc]; rfl
        rw [hc, ha]
        rcases hm with hm | hm
        · clear hafl hala hc ha
          go_wp2
          go_ret
          exact ⟨rfl, HBW5.out⟩
        · clear hafl hala hc ha
          go_wp2
          go_ret
          exact ⟨rfl, HBW5.out⟩
      · by_cases ha2 : a2 < (fl : Int)
        · have hc : (fillS room n).afc a2 a3 = 60 := by unfold RS.afc; rw [if_neg hm, hafl, if_pos ha2]
          have ha : (fillS room n).after a2 a3 = [] := by unfold RS.after; rw [hc]; rfl
          rw [hc, ha]
          have hm1 : 0 ≤ a3 := by omega
          have hm2 : a3 ≤ 64 := by omega
          clear hafl hala hc ha hm
          go_wp2
          go_ret
          exact ⟨rfl, HBW5.out⟩
        · by_cases ha3 : (n : Int) < a2
          · have hc : (fillS room n).afc a2 a3 = 61 := by unfold RS.afc; rw [if_neg hm, hafl, if_neg ha2, hala, if_pos ha3]
            have ha : (fillS room n).after a2 a3 = [] := by unfold RS.after; rw [hc]; rfl
            rw [hc, ha]
            have hm1 : 0 ≤ a3 := by omega
            have hm2 : a3 ≤ 64 := by omega
            clear hafl hala hc ha hm
            go_wp2
            go_ret
            exact ⟨rfl, HBW5.out⟩
          · have hc : (fillS room n).afc a2 a3 = 0 := by unfold RS.afc; rw [if_neg hm, hafl, if_neg ha2, hala, if_neg ha3]
            have hla2 := hala
            obtain ⟨a, rfl⟩ : ∃ k : Nat, a2 = k := ⟨a2.toNat, by omega⟩
            obtain ⟨m, rfl⟩ : ∃ k : Nat, a3 = k := ⟨a3.toNat, by omega⟩
            obtain ⟨d, hdd⟩ : ∃ d, d = a - fl := ⟨_, rfl⟩
            obtain ⟨r, hr⟩ : ∃ r, r = n3 - d := ⟨_, rfl⟩
            have hsd : (a : Int) - (fl : Int) = (d : Int) := by omega
            have hda : d ≤ n3 := by have := HLN.out; have := HFL.out; omega
            have hwant := want_eq room n a m (by have := HFL.out; omega) (by omega) (by omega)
            rw [← HFL.out, ← hdd] at hwant
            obtain ⟨q, hq⟩ : ∃ q, q = ((fillS room n).after a m).length := ⟨_, rfl⟩
            have hql : q = min m r := by rw [hq, hwant, List.length_take, List.length_drop, fillS_len, hr]; have := HLN.out; omega
            rw [hc, ← hq]
            have hlen3 : (fillS room n).l.length = n3 := by rw [fillS_len]; exact HLN.out.symm
            have hcd : Kd.C k33 w5 (if c3 = d then A3 else A3.map (·.add (d * 6))) ((fillS room n).l.drop d).length ((fillS room n).l.drop d) :=
              Kd.C_drop (Kd.C_below (by rw [hlen3]; exact HREAD.out) HB35.out) (by rw [hlen3]; exact hda) (by rw [hlen3]; exact hc3)
            obtain ⟨A8, hA8⟩ : ∃ A8, A8 = (if c3 = d then A3 else A3.map (·.add (d * 6))) := ⟨_, rfl⟩
            have hcut : ∀ W, (Instr.slice 25 (.slice A3 n3 c3) (some (.int .i64 (d : Int))) none none).run Try.prog W = .ok (.slice A8 r (c3 - d)) W := by
              intro W
              obtain ⟨i0, hi0, hz⟩ := Option.map_eq_some_iff.1 info33
              simp only [Prod.mk.injEq] at hz
              have := cut_from (P := Try.prog) 25 33 .i64 Try.underlying25 hi0 6 hz.2.1 A3 n3 c3 (d : Int) (by omega) (by omega) W
              rw [Int.toNat_natCast] at this
              rw [hA8, hr]
              exact this
            rw [← hA8, show ((fillS room n).l.drop d).length = r by rw [List.length_drop, hlen3, hr]] at hcd
            have hqc : q ≤ c7 := by rw [hq]; exact HC7.out
            have hrd8 : Kd.C k33 w5 A7 q ((fillS room n).after a m) := by rw [hq]; exact (Kd.S_reads' HS7.out).2.2
            have HRD8 := Aside0.mk hrd8
            have hrc : r ≤ c3 - d := by omega
            have hrle : r ≤ 64 := by omega
            have hmle : m ≤ 64 := by omega
            by_cases hrm : m < r
            · obtain rfl : q = m := by omega
              have hcd2 : Kd.C k33 w5 A8 q ((fillS room n).after a q) := by
                have := Kd.C_take (m := q) (xs := (fillS room n).l.drop d) (A := A8) (w := w5) (k := k33) (by rw [show ((fillS room n).l.drop d).length = r by rw [List.length_drop, hlen3, hr]]; exact hcd) (by rw [List.length_drop, hlen3]; omega)
                rw [hwant]
                rw [show (((fillS room n).l.drop d).take q).length = q by rw [List.length_take, List.length_drop, hlen3]; omega] at this
                exact this
              have hcut2 : ∀ W, (Instr.slice 25 (.slice A8 r (c3 - d)) none (some (.int .i64 (q : Int))) none).run Try.prog W = .ok (.slice A8 q (c3 - d)) W := by
                intro W
                obtain ⟨i0, hi0, hz⟩ := Option.map_eq_some_iff.1 info33
                have := cut_to (P := Try.prog) 25 33 .i64 Try.underlying25 hi0 A8 r (c3 - d) (q : Int) (by omega) (by omega) (by omega) W
                rw [Int.toNat_natCast] at this
                exact this
              have HCD := Aside0.mk hcd2
              have HLQ := Aside0.mk hq.symm
              have hdr : decide ((q : Int) < (r : Int)) = true := decide_eq_true (by omega)
              have hqcd : q ≤ c3 - d := by omega
              clear hwant hcd hcd2 hql hq hr hdd hlen3 hA8 hrd8 hafl hala hla2 hc hm
              go_wp2_with fail
              refine (sameAll_T ((fillS room n).after a q) A7 A8 q c7 (c3 - d) _ HLQ.out (fun x hx => fillS_mem room n x (by
                  unfold RS.after at hx
                  split at hx
                  · exact List.mem_of_mem_drop (List.mem_of_mem_take hx)
                  · cases hx)) (by omega) HRD8.out hqc HCD.out hqcd).mono ?_
              rintro e w8 ⟨rfl, hb8⟩
              have HB8 := Aside0.mk (below_step HBW5.out hb8)
              clear hb8
              go_wp2
              go_ret
              exact ⟨rfl, HB8.out⟩
            · obtain rfl : q = r := by omega
              have hcd2 : Kd.C k33 w5 A8 q ((fillS room n).after a m) := by
                rw [hwant, List.take_of_length_le (by rw [List.length_drop, hlen3]; omega)]
                exact hcd
              have HCD := Aside0.mk hcd2
              have HLQ := Aside0.mk hq.symm
              have hdr : decide ((m : Int) < (q : Int)) = false := decide_eq_false (by omega)
              clear hwant hcd hcd2 hql hq hr hdd hlen3 hA8 hrd8 hafl hala hla2 hc hm
              go_wp2_with fail
              refine (sameAll_T ((fillS room n).after a m) A7 A8 q c7 (c3 - d) _ HLQ.out (fun x hx => fillS_mem room n x (by
                  unfold RS.after at hx
                  split at hx
                  · exact List.mem_of_mem_drop (List.mem_of_mem_take hx)
                  · cases hx)) (by omega) HRD8.out hqc HCD.out hrc).mono ?_
              rintro e w8 ⟨rfl, hb8⟩
              have HB8 := Aside0.mk (below_step HBW5.out hb8)
              clear hb8
              go_wp2
              go_ret
              exact ⟨rfl, HB8.out⟩
theorem ringTells_walk (a0 a1 a2 a3 : Int) (w : World) : Calls Try.prog 6 #[.int .i64 a0, .int .i64 a1, .int .i64 a2, .int .i64 a3] w fun e w' => e = .returned (.bool true) ∧ Below w.heap.size w w' := by
  by_cases h : a0 < 1 ∨ 64 < a0 ∨ a1 < 0 ∨ 200 < a1
  · exact ringTells_out a0 a1 a2 a3 w h
  · obtain ⟨room, rfl⟩ : ∃ k : Nat, a0 = k := ⟨a0.toNat, by omega⟩
    obtain ⟨n, rfl⟩ : ∃ k : Nat, a1 = k := ⟨a1.toNat, by omega⟩
    by_cases hnr : n < room
    · exact ringTells_lt room n a2 a3 w (by omega) (by omega) (by omega) hnr
    · exact ringTells_ge room n a2 a3 w (by omega) (by omega) (by omega) hnr
end Go.Proofs.Ytcbejpmmlcdhnaa.PW
