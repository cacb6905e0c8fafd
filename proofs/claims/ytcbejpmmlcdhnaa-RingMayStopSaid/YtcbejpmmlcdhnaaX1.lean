/- Words, contracts and walks of the law RingMayStop, in one text. -/
import Derived.Test.YtcbejpmmlcdhnaaX0
import Derived.Outline
namespace Go.Proofs.Ytcbejpmmlcdhnaa.PW
open Go.RowKit Go.Proofs.YtcbejpmmlcdhnaaW.PrintWords Go.Proofs.YtcbejpmmlcdhnaaW.PrintLast Go.Proofs.YtcbejpmmlcdhnaaW.PrintMore
set_option linter.unusedVariables false
set_option linter.unusedSimpArgs false
attribute [local go_sem] Oper.semAt_some

/-- The elements of a row of entries, each with blocks of its own. -/
theorem S_entries {w : World} {base g n cap : Nat} {ok : Nat → Prop} {L : List S33} (h : Kd.S k33 33 w base ok (.slice (some ⟨g, 0, none⟩) n cap) L) :
    ∃ f : Nat → Nat, ∀ (k : Nat) (y : S33), L[k]? = some y → ∃ A c, (∀ (j : Nat) (v : Value), (cells6 y (.slice A y.f5.length c))[j]? = some v → w.cell? ⟨g, k * 6 + j, none⟩ = some v) ∧
      Kd.R k55 55 w base (fun j => j ≠ g ∧ f j = k ∧ base ≤ j ∧ j < w.heap.size ∧ ok j) (.slice A y.f5.length c) y.f5 := by
  obtain ⟨f, hS⟩ := h
  obtain ⟨h0, inner, ⟨hl, ho⟩, hrl, hr⟩ := Kd.R_bound hS
  refine ⟨f, fun k y hk => ?_⟩
  have hz : L.zipIdx[k]? = some (y, k) := Kd.zip_at hk
  have hM := hr k _ hz
  obtain ⟨v5, hcs, hv⟩ := k33_openM (show k33.M w base _ y _ from hM)
  obtain ⟨A, c, rfl⟩ := Kd.R_slice hv
  rcases ho with ⟨he, _⟩ | ⟨g', cap', cur, he, hb, hh, hnc, hcm, hcs2, hcur⟩
  · cases he
  · injection he with he1 he2 he3
    injection he1 with he1
    injection he1 with he1
    subst he1
    refine ⟨A, c, ?_, Kd.R_mono hv (fun j hj => ⟨fun e => hj.1.2 (by rw [e]; simp [Value.ownBlock]), hj.2, hj.1.1.2.1, hj.1.1.2.2.1, hj.1.1.1⟩)⟩
    intro j v hj
    have hj6 : j < 6 := (List.getElem?_eq_some_iff.1 hj).1
    have h5 : ((inner.drop (k * 6)).take 6)[j]? = some v := by
      rw [show (inner.drop (k * 6)).take 6 = cells6 y (.slice A y.f5.length c) from hcs]
      exact hj
    rw [List.getElem?_take_of_lt hj6, List.getElem?_drop] at h5
    rw [blk_cell hh, ← Array.getElem?_toList]
    rw [← hcur] at h5
    have h6 := (List.getElem?_eq_some_iff.1 h5).1
    rw [List.length_take] at h6
    rw [List.getElem?_take_of_lt (by omega)] at h5
    exact h5
theorem setCells_drawn (g : Nat) : ∀ (vs : List Value) (o : Nat) (w : World), (w.setCells g o vs).drawn = w.drawn
  | [], _, _ => rfl
  | v :: r, o, w => by rw [World.setCells, setCells_drawn g r]; rfl
theorem alloc_full {w : World} {cur : Array Value} {e : TypeId} (vs : List Value) (hs : cur.size = vs.length) : (w.alloc (.cells cur e)).setCells w.heap.size 0 vs = w.alloc (.cells vs.toArray e) := by
  obtain ⟨h1, h2, h3, h4⟩ := setCells_same w.heap.size vs 0 (w.alloc (.cells cur e))
  have hb := blk_full (w := w.alloc (.cells cur e)) (g := w.heap.size) vs (heap_alloc_new w _) hs
  have hh : ((w.alloc (.cells cur e)).setCells w.heap.size 0 vs).heap = (w.alloc (.cells vs.toArray e)).heap := by
    apply Array.ext_getElem?
    intro i
    by_cases hi : i = w.heap.size
    · subst hi
      rw [hb, heap_alloc_new]
    · rw [setCells_far vs 0 i hi]
      simp only [World.alloc]
      rw [Array.getElem?_push, Array.getElem?_push, if_neg hi, if_neg hi]
  have h5 := setCells_drawn w.heap.size vs 0 (w.alloc (.cells cur e))
  cases hA : (w.alloc (.cells cur e)).setCells w.heap.size 0 vs
  rw [hA] at h1 h2 h3 h5 hh
  simp only [World.alloc] at h1 h2 h3 h5 hh ⊢
  subst h1 h2 h3 h5 hh
  rfl
/-- What the iterator itself holds while element k and those behind it are to come. -/
def Mine (T0 : Nat → Prop) (N0 N1 g : Nat) (f : Nat → Nat) (k : Nat) : Nat → Prop := fun j => T0 j ∨ (N0 ≤ j ∧ j < N1 ∧ (j = g ∨ k ≤ f j))
theorem out_all {W : World} {base b nn : Nat} {ok : Nat → Prop} {s : RS} (h : RingIs W base ok (some b) s) (hn : nn = s.l.length) :
    Calls Try.prog 34 #[.pointer (some ⟨b, 0, none⟩), .int .i64 (s.fl : Int), .int .i64 (nn : Int)] W fun e w' => e = .returned (.slice (some ⟨W.heap.size, 0, none⟩) nn nn) ∧ Kd.S k33 33 w' W.heap.size (fun _ => True) (.slice (some ⟨W.heap.size, 0, none⟩) nn nn) s.l ∧ Below W.heap.size W w' := by
  have := out_R h (s.fl : Int) (nn : Int) (.inr ⟨Int.le_refl _, by simp only [RS.la]; omega⟩)
  rw [Int.toNat_natCast, Int.toNat_natCast, Nat.sub_self, List.drop_zero, hn, List.take_length] at this
  rw [hn]
  exact this
def rg33.T1 : Bool × List (List Nat × List Nat) := (true, [([], []), ([], []), ([1], [1]), ([2], [2]), ([3], [3]), ([], []), ([5], [5]), ([6], [6]), ([7], [7]), ([], []), ([9], [9]), ([10], [10]), ([11], [11]), ([8, 12], [8, 12]), ([0, 4, 13], [0, 4, 13]), ([14], [14]), ([], [])])
def rg33.B1 : List Nat := [0, 0, 2, 6, 14, 0, 32, 96, 224, 0, 512, 1536, 3584, 8160, 16383, 32767, 0]
theorem rg33.tab1 : rtab .any (opsOf Try.f33 1) = rg33.T1 := by kernel_rfl
theorem rg33.bits1 : waitsOk rg33.T1.2 rg33.B1 = true := by kernel_rfl
set_option maxHeartbeats 4000000 in
set_option maxRecDepth 100000 in
theorem it33_some (Bn b : Nat) (s : RS) (base : Nat) (ok : Nat → Prop) (W : World) (hbox : W.cell? ⟨Bn, 0, none⟩ = some (.pointer (some ⟨b, 0, none⟩))) (hring : RingIs W base ok (some b) s) : ItRing Try.prog 33 Bn s.l W := by
  intro l J Jx T0 hJ hJx hT0 hY h0
  have HJ := Aside0.mk hJ
  have HY := Aside0.mk hY
  have HT0 := Aside0.mk hT0
  have H0 := Aside0.mk h0
  have HR := Aside0.mk hring
  obtain ⟨⟨r1, r2, r3, r4, r5, r6⟩, E, hR, _⟩ := id hring
  obtain ⟨c1, c2, c3, c4, c5⟩ := RingAt_cells hR
  obtain ⟨nn, hnn⟩ : ∃ nn, nn = s.l.length := ⟨_, rfl⟩
  have hlen : (s.la : Int) - (s.fl : Int) = (nn : Int) := by simp only [RS.la]; omega
  have hn64 : nn ≤ 64 := by omega
  have HNN := Aside0.mk hnn
  have hwr2 : wrap64 (nn : Int) = (nn : Int) := by unfold wrap64; omega
  have hla : (s.la : Int) ≤ 2147483647 := by omega
  have hflla : (s.fl : Int) ≤ (s.la : Int) := by simp only [RS.la]; omega
  have HRR := Aside0.mk (And.intro r1 (And.intro r2 r6))
  have d0 : W.drew.cell? ⟨Bn, 0, none⟩ = some (.pointer (some ⟨b, 0, none⟩)) := hbox
  have d1 : W.drew.cell? ⟨b, 385, none⟩ = some (.int .i64 (s.fl : Int)) := c2
  have d2 : W.drew.cell? ⟨b, 386, none⟩ = some (.int .i64 (s.la : Int)) := c3
  clear hJ hJx hY h0 hT0 hring hR r1 r2 r3 r4 r5 r6 c1 c4 c5 hnn
  go_enter Try.func33, Try.ntmps33
  go_wp2
  refine start_ (n := 17) (S := fun w' => w'.cell? ⟨Bn, 0, none⟩ = some (.pointer (some ⟨b, 0, none⟩)) ∧ w'.cell? ⟨b, 385, none⟩ = some (.int .i64 (s.fl : Int)) ∧ w'.cell? ⟨b, 386, none⟩ = some (.int .i64 (s.la : Int))) (ds := []) #[false, false, false, false, false, false, false, false, false, false, false, false, false, false, false, false, false] (by kernel_rfl) rfl rfl ⟨d0, d1, d2⟩ (fun hHeld => ?_)
  refine with_tabW rg33.tab1 rg33.bits1 (fun HT_ HW_ => ?_)
  refine pure_ (i := 16) (N := some 23) (v := ?_) (a' := ?_) #[false, false, false, false, false, false, false, false, false, false, false, false, false, false, false, false, true] rfl rfl (any_of HT_.out (by kernel_rfl)) (fun _ _ _ h => h) (Or.inl ⟨by rfl, ?_⟩) ?_ ?_
  rotate_left
  · intro w'
    go_simp
    with_reducible rfl
  rotate_left
  · simp only [Act.put, List.setIfInBounds_toArray, List.set_cons_zero, List.set_cons_succ, i64_w, i32_w]
    rfl
  refine take_ (i := 0) (N := some 7) (v := ?_) (a' := ?_) #[true, false, false, false, false, false, false, false, false, false, false, false, false, false, false, false, true] rfl rfl (take_ofW HT_.out HW_.out (by kernel_rfl)) (fun _ _ _ h => h) (Or.inl ⟨by rfl, ?_⟩) hHeld ?_ ?_
  rotate_left
  · rintro w' ⟨s0, s1, s2⟩
    go_simp
    with_reducible rfl
  rotate_left
  · simp only [Act.put, List.setIfInBounds_toArray, List.set_cons_zero, List.set_cons_succ, i64_w, i32_w]
    rfl
  refine take_ (i := 1) (N := some 8) (v := ?_) (a' := ?_) #[true, true, false, false, false, false, false, false, false, false, false, false, false, false, false, false, true] rfl rfl (take_ofW HT_.out HW_.out (by kernel_rfl)) (fun _ _ _ h => h) (Or.inl ⟨by rfl, ?_⟩) hHeld ?_ ?_
  rotate_left
  · rintro w' ⟨s0, s1, s2⟩
    go_simp
    with_reducible rfl
  rotate_left
  · simp only [Act.put, List.setIfInBounds_toArray, List.set_cons_zero, List.set_cons_succ, i64_w, i32_w]
    rfl
  refine pure_ (i := 2) (N := some 9) (v := ?_) (a' := ?_) #[true, true, true, false, false, false, false, false, false, false, false, false, false, false, false, false, true] rfl rfl (any_of HT_.out (by kernel_rfl)) (fun _ _ _ h => h) (Or.inl ⟨by rfl, ?_⟩) ?_ ?_
  rotate_left
  · intro w'
    go_simp
    with_reducible rfl
  rotate_left
  · simp only [Act.put, List.setIfInBounds_toArray, List.set_cons_zero, List.set_cons_succ, i64_w, i32_w]
    rfl
  refine pure_ (i := 3) (N := some 10) (v := ?_) (a' := ?_) #[true, true, true, true, false, false, false, false, false, false, false, false, false, false, false, false, true] rfl rfl (any_of HT_.out (by kernel_rfl)) (fun _ _ _ h => h) (Or.inl ⟨by rfl, ?_⟩) ?_ ?_
  rotate_left
  · intro w'
    go_simp
    with_reducible rfl
  rotate_left
  · simp only [Act.put, List.setIfInBounds_toArray, List.set_cons_zero, List.set_cons_succ, i64_w, i32_w]
    rfl
  refine take_ (i := 4) (N := some 11) (v := ?_) (a' := ?_) #[true, true, true, true, true, false, false, false, false, false, false, false, false, false, false, false, true] rfl rfl (take_ofW HT_.out HW_.out (by kernel_rfl)) (fun _ _ _ h => h) (Or.inl ⟨by rfl, ?_⟩) hHeld ?_ ?_
  rotate_left
  · rintro w' ⟨s0, s1, s2⟩
    go_simp
    with_reducible rfl
  rotate_left
  · simp only [Act.put, List.setIfInBounds_toArray, List.set_cons_zero, List.set_cons_succ, i64_w, i32_w]
    rfl
  refine take_ (i := 5) (N := some 12) (v := ?_) (a' := ?_) #[true, true, true, true, true, true, false, false, false, false, false, false, false, false, false, false, true] rfl rfl (take_ofW HT_.out HW_.out (by kernel_rfl)) (fun _ _ _ h => h) (Or.inl ⟨by rfl, ?_⟩) hHeld ?_ ?_
  rotate_left
  · rintro w' ⟨s0, s1, s2⟩
    go_simp
    with_reducible rfl
  rotate_left
  · simp only [Act.put, List.setIfInBounds_toArray, List.set_cons_zero, List.set_cons_succ, i64_w, i32_w]
    rfl
  refine pure_ (i := 6) (N := some 13) (v := ?_) (a' := ?_) #[true, true, true, true, true, true, true, false, false, false, false, false, false, false, false, false, true] rfl rfl (any_of HT_.out (by kernel_rfl)) (fun _ _ _ h => h) (Or.inl ⟨by rfl, ?_⟩) ?_ ?_
  rotate_left
  · intro w'
    go_simp
    with_reducible rfl
  rotate_left
  · simp only [Act.put, List.setIfInBounds_toArray, List.set_cons_zero, List.set_cons_succ, i64_w, i32_w]
    rfl
  refine pure_ (i := 7) (N := some 14) (v := ?_) (a' := ?_) #[true, true, true, true, true, true, true, true, false, false, false, false, false, false, false, false, true] rfl rfl (any_of HT_.out (by kernel_rfl)) (fun _ _ _ h => h) (Or.inl ⟨by rfl, ?_⟩) ?_ ?_
  rotate_left
  · intro w'
    go_simp
    with_reducible rfl
  rotate_left
  · simp only [Act.put, List.setIfInBounds_toArray, List.set_cons_zero, List.set_cons_succ, i64_w, i32_w]
    rfl
  refine take_ (i := 8) (N := some 15) (v := ?_) (a' := ?_) #[true, true, true, true, true, true, true, true, true, false, false, false, false, false, false, false, true] rfl rfl (take_ofW HT_.out HW_.out (by kernel_rfl)) (fun _ _ _ h => h) (Or.inl ⟨by rfl, ?_⟩) hHeld ?_ ?_
  rotate_left
  · rintro w' ⟨s0, s1, s2⟩
    go_simp
    with_reducible rfl
  rotate_left
  · simp only [Act.put, List.setIfInBounds_toArray, List.set_cons_zero, List.set_cons_succ, i64_w, i32_w]
    rfl
  refine take_ (i := 9) (N := some 16) (v := ?_) (a' := ?_) #[true, true, true, true, true, true, true, true, true, true, false, false, false, false, false, false, true] rfl rfl (take_ofW HT_.out HW_.out (by kernel_rfl)) (fun _ _ _ h => h) (Or.inl ⟨by rfl, ?_⟩) hHeld ?_ ?_
  rotate_left
  · rintro w' ⟨s0, s1, s2⟩
    go_simp
    with_reducible rfl
  rotate_left
  · simp only [Act.put, List.setIfInBounds_toArray, List.set_cons_zero, List.set_cons_succ, i64_w, i32_w]
    rfl
  refine pure_ (i := 10) (N := some 17) (v := ?_) (a' := ?_) #[true, true, true, true, true, true, true, true, true, true, true, false, false, false, false, false, true] rfl rfl (any_of HT_.out (by kernel_rfl)) (fun _ _ _ h => h) (Or.inl ⟨by rfl, ?_⟩) ?_ ?_
  rotate_left
  · intro w'
    go_simp
    with_reducible rfl
  rotate_left
  · simp only [Act.put, List.setIfInBounds_toArray, List.set_cons_zero, List.set_cons_succ, i64_w, i32_w]
    rfl
  refine pure_ (i := 11) (N := some 18) (v := ?_) (a' := ?_) #[true, true, true, true, true, true, true, true, true, true, true, true, false, false, false, false, true] rfl rfl (any_of HT_.out (by kernel_rfl)) (fun _ _ _ h => h) (Or.inl ⟨by rfl, ?_⟩) ?_ ?_
  rotate_left
  · intro w'
    go_simp
    with_reducible rfl
  rotate_left
  · simp only [Act.put, List.setIfInBounds_toArray, List.set_cons_zero, List.set_cons_succ, i64_w, i32_w]
    rfl
  refine take_ (i := 12) (N := some 19) (v := ?_) (a' := ?_) #[true, true, true, true, true, true, true, true, true, true, true, true, true, false, false, false, true] rfl rfl (take_ofW HT_.out HW_.out (by kernel_rfl)) (fun _ _ _ h => h) (Or.inl ⟨by rfl, ?_⟩) hHeld ?_ ?_
  rotate_left
  · rintro w' ⟨s0, s1, s2⟩
    go_simp
    with_reducible rfl
  rotate_left
  · simp only [Act.put, List.setIfInBounds_toArray, List.set_cons_zero, List.set_cons_succ, i64_w, i32_w]
    rfl
  refine pure_ (i := 13) (N := some 20) (v := ?_) (a' := ?_) #[true, true, true, true, true, true, true, true, true, true, true, true, true, true, false, false, true] rfl rfl (any_of HT_.out (by kernel_rfl)) (fun _ _ _ h => h) (Or.inl ⟨by rfl, ?_⟩) ?_ ?_
  rotate_left
  · intro w'
    go_simp
    with_reducible rfl
  rotate_left
  · simp only [Act.put, List.setIfInBounds_toArray, List.set_cons_zero, List.set_cons_succ, i64_w, i32_w]
    rfl
  refine one_ (i := 14) (N := some 21) #[true, true, true, true, true, true, true, true, true, true, true, true, true, true, true, false, true] rfl rfl (one_of HT_.out (by kernel_rfl)) (by decide) (fun K hK => ?_)
  refine goes_ Try.func34 (by kernel_rfl) rfl #[.pointer (some ⟨b, 0, none⟩), .int .i64 (s.fl : Int), .int .i64 (wrap64 (nn : Int))] (by rfl) rfl rfl (by simp only [List.map_toArray, List.map_cons, List.map_nil]; rfl) ?_
  rw [hwr2]
  with_reducible refine (out_all (RingIs_below HR.out (below_drew (Below.refl W.heap.size W))) HNN.out).mono ?_
  rintro e w3 ⟨rfl, hs3, hb3⟩
  refine ⟨_, rfl, ?_⟩
  refine hK.out _ _ ⟨(pw_cell_below hb3 d0), (pw_cell_below hb3 d1), (pw_cell_below hb3 d2)⟩ (fun hHeld => ?_)
  clear hK K
  refine norm_ (a' := ?_) ?_ ?_
  rotate_left
  · show Act.put _ (some 21) _ = _
    simp only [Act.put, List.setIfInBounds_toArray, List.set_cons_zero, List.set_cons_succ, i64_w, i32_w]
    rfl
  refine pure_ (i := 15) (N := some 22) (v := ?_) (a' := ?_) #[true, true, true, true, true, true, true, true, true, true, true, true, true, true, true, true, true] rfl rfl (any_of HT_.out (by kernel_rfl)) (fun _ _ _ h => h) (Or.inl ⟨by rfl, ?_⟩) ?_ ?_
  rotate_left
  · intro w'
    go_simp
    with_reducible rfl
  rotate_left
  · simp only [Act.put, List.setIfInBounds_toArray, List.set_cons_zero, List.set_cons_succ, i64_w, i32_w]
    rfl
  refine done_ (done_of HT_.out (by kernel_rfl)) ?_
  obtain ⟨f, hf⟩ := S_entries hs3
  have HSE := Aside0.mk hf
  have HB3 := Aside0.mk (show Below W.heap.size W w3 from below_then (below_drew (Below.refl W.heap.size W)) (Nat.le_refl _) hb3)
  have hg3 : W.heap.size < w3.heap.size := by
    have := Kd.S_lt hs3 W.heap.size (by simp [Value.ownBlock])
    exact this
  have HG3 := Aside0.mk hg3
  have HJ3 := Aside0.mk (show J (Mine T0 W.heap.size w3.heap.size W.heap.size f 0) 0 w3 from HJ.out T0 0 W w3 none _ H0.out (grown_of_below HB3.out none) (fun r e => by cases e) (fun k hk => hk.imp_right (fun h => ⟨h.1, h.2.1⟩)))
  clear hs3 hb3 hf hg3 d0 d1 d2
  go_wp2
  go_loopg [4, 23] nn (fun kq v4 v23 wr => ∃ k : Nat, k ≤ nn ∧ Aside0 (nn - k = kq) ∧ v23 = .int .i64 (k : Int) ∧ Aside0 (J (Mine T0 W.heap.size w3.heap.size W.heap.size f k) k wr) ∧ Aside0 (∀ j, W.heap.size ≤ j → j < w3.heap.size → (j = W.heap.size ∨ k ≤ f j) → wr.heap[j]? = w3.heap[j]?))
  case atStart => exact ⟨0, Nat.zero_le _, ⟨rfl⟩, rfl, HJ3, ⟨fun _ _ _ _ => rfl⟩⟩
  case round =>
    obtain ⟨k, hk, HKQ, rfl, HJK, HKP⟩ := hrel
    by_cases hlt : k < nn
    · have hd : decide ((k : Int) < (nn : Int)) = true := decide_eq_true (by omega)
      have hx := List.getElem?_eq_getElem (show k < s.l.length by rw [← HNN.out]; exact hlt)
      obtain ⟨y, hy⟩ : ∃ y, y = s.l[k]'(by rw [← HNN.out]; exact hlt) := ⟨_, rfl⟩
      rw [← hy] at hx
      obtain ⟨A, c, hcell, hrow⟩ := HSE.out k y hx
      have hgb : wr.heap[W.heap.size]? = w3.heap[W.heap.size]? := HKP.out _ (Nat.le_refl _) HG3.out (.inl rfl)
      have hcell2 : ∀ (j : Nat) (v : Value), (cells6 y (.slice A y.f5.length c))[j]? = some v → wr.cell? ⟨W.heap.size, k * 6 + j, none⟩ = some v := fun j v hj => by
        rw [show wr.cell? ⟨W.heap.size, k * 6 + j, none⟩ = w3.cell? ⟨W.heap.size, k * 6 + j, none⟩ by simp only [World.cell?]; rw [hgb]]
        exact hcell j v hj
      obtain ⟨m5, hm5⟩ : ∃ m5, m5 = y.f5.length := ⟨_, rfl⟩
      rw [← hm5] at hcell2 hrow
      have v0 : wr.cell? ⟨W.heap.size, k * 6, none⟩ = some (.int .i64 y.f0) := hcell2 0 _ rfl
      have v1 : wr.cell? ⟨W.heap.size, k * 6 + 1, none⟩ = some (.int .i64 y.f1) := hcell2 1 _ rfl
      have v2 : wr.cell? ⟨W.heap.size, k * 6 + 2, none⟩ = some (.int .i64 y.f2) := hcell2 2 _ rfl
      have v3 : wr.cell? ⟨W.heap.size, k * 6 + 3, none⟩ = some (.int .i64 y.f3) := hcell2 3 _ rfl
      have v4 : wr.cell? ⟨W.heap.size, k * 6 + 4, none⟩ = some (.int .i64 y.f4) := hcell2 4 _ rfl
      have v5 : wr.cell? ⟨W.heap.size, k * 6 + 5, none⟩ = some (.slice A m5 c) := hcell2 5 _ rfl
      have hnew : (wr.alloc (.cells zeroCells 33)).heap[wr.heap.size]? = some (.cells zeroCells 33) := heap_alloc_new _ _
      have HX := Aside0.mk hx
      have HM := Aside0.mk hm5
      have HROW := Aside0.mk hrow
      have HNEW := Aside0.mk hnew
      clear hx hy hcell hcell2 hgb hrow hm5 hnew
      go_wp2_with (with_reducible refine stop_store rfl ?_)
      refine wpList_store rfl rfl 33 (.tmp 4) (.tmp 26) rfl (.agg #[.int .i64 y.f0, .int .i64 y.f1, .int .i64 y.f2, .int .i64 y.f3, .int .i64 y.f4, .slice A m5 c]) (cells6 y (.slice A m5 c)) rfl rfl HNEW.out rfl size33 (by show 0 + 6 ≤ 6; omega) (by simp [cells6, Value.oneCell']) ?_
      rw [alloc_full (w := wr) (cur := zeroCells) (e := 33) (cells6 y (.slice A m5 c)) rfl]
      have hb2 : (wr.alloc (.cells (cells6 y (.slice A m5 c)).toArray 33)).heap[wr.heap.size]? = some (.cells (cells6 y (.slice A m5 c)).toArray 33) := heap_alloc_new _ _
      have hJ2 : J (fun j => Mine T0 W.heap.size w3.heap.size W.heap.size f (k + 1) j ∨ (j ≠ W.heap.size ∧ f j = k ∧ W.heap.size ≤ j ∧ j < w3.heap.size)) k (wr.alloc (.cells (cells6 y (.slice A m5 c)).toArray 33)) := by
        refine TOwn.less HJ.out (HJ.out.alloc (T' := Mine T0 W.heap.size w3.heap.size W.heap.size f k) _ HJK.out (fun j hj => .inl hj)) (fun j hj => ?_)
        rcases hj with (h | ⟨h1, h2, h3⟩) | ⟨h1, h2, h3, h4⟩
        · exact .inl h
        · exact .inr ⟨h1, h2, h3.imp_right (fun h => by omega)⟩
        · exact .inr ⟨h3, h4, .inr (by omega)⟩
      have hbel : Below wr.heap.size wr (wr.alloc (.cells (cells6 y (.slice A m5 c)).toArray 33)) := below_alloc (Below.refl _ _) _
      obtain ⟨wx, hwx⟩ : ∃ wx, wx = wr.alloc (.cells (cells6 y (.slice A m5 c)).toArray 33) := ⟨_, rfl⟩
      rw [← hwx] at hb2 hJ2 hbel ⊢
      have hkeep : ∀ j, W.heap.size ≤ j → j < w3.heap.size → (j = W.heap.size ∨ k ≤ f j) → wx.heap[j]? = w3.heap[j]? := fun j h1 h2 h3 => by
        have h4 := HKP.out j h1 h2 h3
        have h5 : j < wr.heap.size := by
          rw [Array.getElem?_eq_getElem h2] at h4
          exact (Array.getElem?_eq_some_iff.1 h4).1
        exact (hbel.block j h5).trans h4
      have hhand : Handed W.heap.size (Mine T0 W.heap.size w3.heap.size W.heap.size f (k + 1)) y A c (fun j => j ≠ W.heap.size ∧ f j = k ∧ W.heap.size ≤ j ∧ j < w3.heap.size) wx := by
        refine ⟨?_, fun j hj => ⟨fun hm => ?_, hj.2.2.1, ?_⟩⟩
        · rw [← HM.out]
          exact Kd.R_step (Kd.R_mono HROW.out (fun j hj => ⟨hj.1, hj.2.1, hj.2.2.1, hj.2.2.2.1⟩)) (fun j hj _ => hkeep j hj.2.2.1 hj.2.2.2 (.inr (by omega)))
        · rcases hm with hm | ⟨_, _, hm⟩
          · have := HT0.out j hm
            omega
          · rcases hm with hm | hm
            · exact hj.1 hm
            · omega
        · have h4 := hkeep j hj.2.2.1 hj.2.2.2 (.inr (by omega))
          rw [Array.getElem?_eq_getElem hj.2.2.2] at h4
          exact (Array.getElem?_eq_some_iff.1 h4).1
      have u0 : wx.cell? ⟨wr.heap.size, 0, none⟩ = some (.int .i64 y.f0) := (blk_cell hb2 0).trans rfl
      have u1 : wx.cell? ⟨wr.heap.size, 1, none⟩ = some (.int .i64 y.f1) := (blk_cell hb2 1).trans rfl
      have u2 : wx.cell? ⟨wr.heap.size, 2, none⟩ = some (.int .i64 y.f2) := (blk_cell hb2 2).trans rfl
      have u3 : wx.cell? ⟨wr.heap.size, 3, none⟩ = some (.int .i64 y.f3) := (blk_cell hb2 3).trans rfl
      have u4 : wx.cell? ⟨wr.heap.size, 4, none⟩ = some (.int .i64 y.f4) := (blk_cell hb2 4).trans rfl
      have u5 : wx.cell? ⟨wr.heap.size, 5, none⟩ = some (.slice A m5 c) := (blk_cell hb2 5).trans rfl
      have hTlt : ∀ j, Mine T0 W.heap.size w3.heap.size W.heap.size f (k + 1) j → j < wx.heap.size := by
        have hg := hkeep W.heap.size (Nat.le_refl _) HG3.out (.inl rfl)
        rw [Array.getElem?_eq_getElem HG3.out] at hg
        have hglt : W.heap.size < wx.heap.size := (Array.getElem?_eq_some_iff.1 hg).1
        intro j hj
        rcases hj with hj | ⟨h1, h2, h3⟩
        · have := HT0.out j hj
          omega
        · have h4 := hkeep j h1 h2 (h3.imp_right (fun h => by omega))
          rw [Array.getElem?_eq_getElem h2] at h4
          exact (Array.getElem?_eq_some_iff.1 h4).1
      have hYA := HY.out _ k y A c _ wx (fun j hj => .inl hj) hTlt HX.out hJ2 hhand
      rw [← HM.out] at hYA
      have HYA := Aside0.mk hYA
      have HKE := Aside0.mk hkeep
      have HTL := Aside0.mk hTlt
      have HBX := Aside0.mk hb2
      clear hYA hkeep hTlt hJ2 hhand hbel hb2 hwx
      refine wpList_nil ?_
      refine ‹∀ (a : Act) (w : World), Code.wp Try.prog _ _ a w → _› _ _ ?_
      refine wp_seq ?_
      refine (wpIn_wide (n := 0)).1 ?_
      refine wpIn_region_lit ?_
      refine listIn_value (r := none) (W1 := wx) (v := .func (.yield l) #[] #[]) rfl (by simp) (by rfl) ?_
      refine listIn_value (r := none) (W1 := wx) (v := .agg #[.int .i64 y.f0, .int .i64 y.f1, .int .i64 y.f2, .int .i64 y.f3, .int .i64 y.f4, .slice A m5 c]) rfl (by simp) ?_ ?_
      · go_simp
      refine listIn_yield (r := none) (.tmp 27) (.tmp 28) _ rfl rfl (by rfl) (by rfl) HYA.out ?_ (by rintro c W' ⟨(⟨h, _⟩ | ⟨h, _⟩), _⟩ <;> cases h) (by rintro W' ⟨(⟨h, _⟩ | ⟨h, _⟩), _⟩ <;> cases h)
      rintro v W' ⟨(⟨h, hj'⟩ | ⟨h, hjx⟩), hTk⟩
      · cases h
        have HJ' := Aside0.mk hj'
        have HK' := Aside0.mk (show ∀ j, W.heap.size ≤ j → j < w3.heap.size → (j = W.heap.size ∨ k + 1 ≤ f j) → W'.heap[j]? = w3.heap[j]? from fun j h1 h2 h3 => (hTk j (.inr ⟨h1, h2, h3⟩) h1 (HTL.out j (.inr ⟨h1, h2, h3⟩))).trans (HKE.out j h1 h2 (h3.imp_right (fun h => by omega))))
        clear hj' hTk u0 u1 u2 u3 u4 u5 v0 v1 v2 v3 v4 v5
        refine listIn_value (r := none) rfl (by simp) (by rfl) ?_
        refine wpListIn_nil ?_
        go_wp2
        go_roundg (nn - (k + 1))
        case measure => have := HKQ.out; omega
        case rel => exact ⟨k + 1, by omega, ⟨rfl⟩, by go_num, HJ', HK'⟩
      · cases h
        have HJX := Aside0.mk hjx
        clear hjx hTk u0 u1 u2 u3 u4 u5 v0 v1 v2 v3 v4 v5
        refine listIn_value (r := none) rfl (by simp) (by rfl) ?_
        refine wpListIn_nil ?_
        go_wp2
        refine bodyPost_ret (results_none rfl _ _ _) rfl ?_
        exact ⟨⟨_, rfl⟩, .inr HJX.out⟩
    · have hd : decide ((k : Int) < (nn : Int)) = false := decide_eq_false (by omega)
      have hkn : k = nn := by omega
      have HJF := Aside0.mk (TOwn.less HJ.out (hkn ▸ HJK.out) (fun j hj => (.inl hj : Mine T0 W.heap.size w3.heap.size W.heap.size f nn j)))
      rw [HNN.out] at HJF
      clear hkn
      go_wp2
      go_end0
      exact ⟨⟨_, rfl⟩, .inl HJF.out⟩
set_option maxRecDepth 100000 in
theorem it33 (Bn : Nat) (p : Option Nat) (s : RS) (base : Nat) (ok : Nat → Prop) (W : World) (hbox : W.cell? ⟨Bn, 0, none⟩ = some (ptr p)) (hring : RingIs W base ok p s) : ItRing Try.prog 33 Bn s.l W := by
  cases p with
  | some b => exact it33_some Bn b s base ok W hbox hring
  | none =>
    intro l J Jx T0 hJ hJx hT0 hY h0
    obtain ⟨_, rfl⟩ := hring
    have HZ := Aside0.mk h0
    have hb : W.cell? ⟨Bn, 0, none⟩ = some (.pointer none) := hbox
    clear hJ hJx hT0 hY h0 hbox
    go_enter Try.func33, Try.ntmps33
    go_wp2
    refine bodyPost_ret (results_none rfl _ _ _) rfl ?_
    exact ⟨⟨_, rfl⟩, .inl HZ.out⟩
end Go.Proofs.Ytcbejpmmlcdhnaa.PW
namespace Go.Proofs.Ytcbejpmmlcdhnaa.PW
open Go.RowKit Go.Proofs.YtcbejpmmlcdhnaaW.PrintWords Go.Proofs.YtcbejpmmlcdhnaaW.PrintLast Go.Proofs.YtcbejpmmlcdhnaaW.PrintMore
set_option linter.unusedVariables false
set_option linter.unusedSimpArgs false
attribute [local go_sem] Oper.semAt_some

/-- A block of cells. -/
def Celly (W : World) (j : Nat) : Prop := ∃ cs q, W.heap[j]? = some (.cells cs q (0, 0))
theorem Celly.lt {W : World} {j : Nat} (h : Celly W j) : j < W.heap.size := by obtain ⟨cs, q, h⟩ := h; exact blk_lt h
theorem S_celly {α : Type} {d : Kd α} {e base : Nat} {ok : Nat → Prop} {w : World} {v : Value} {xs : List α} (h : Kd.S d e w base ok v xs) : Kd.S d e w base (fun k => ok k ∧ base ≤ k ∧ Celly w k) v xs :=
  Kd.S_mono (Kd.S_bound h) (fun k hk => ⟨hk.1, hk.2.1, by obtain ⟨q, _, cs, hc⟩ := hk.2.2.2; exact ⟨cs, q, hc⟩⟩)
theorem R_celly {α : Type} {d : Kd α} {e base : Nat} {ok : Nat → Prop} {w : World} {v : Value} {xs : List α} (h : d.R e w base ok v xs) : d.R e w base (fun k => ok k ∧ base ≤ k ∧ Celly w k) v xs :=
  Kd.R_mono (Kd.R_bound h) (fun k hk => ⟨hk.1, hk.2.1, by obtain ⟨q, _, cs, hc⟩ := hk.2.2.2; exact ⟨cs, q, hc⟩⟩)
/-- What a turn of a block that is no cells, or new blocks, leave alone. -/
theorem celly_grown {W W' : World} {row : Option Nat} {j B : Nat} (hc : Celly W j) (hg : W.grownBy W' row) (hr : ∀ r, row = some r → B ≤ r ∧ ∃ o : Obj, W.heap[r]? = some o ∧ o.isCells = false) : W'.heap[j]? = W.heap[j]? := by
  obtain ⟨cs, q, h⟩ := hc
  refine hg.block j (blk_lt h) (fun e => ?_)
  obtain ⟨_, o, ho, hc⟩ := hr j e.symm
  rw [h] at ho
  cases ho
  cases hc
theorem Celly.grown {W W' : World} {row : Option Nat} {j B : Nat} (hc : Celly W j) (hg : W.grownBy W' row) (hr : ∀ r, row = some r → B ≤ r ∧ ∃ o : Obj, W.heap[r]? = some o ∧ o.isCells = false) : Celly W' j := by
  have := celly_grown hc hg hr
  obtain ⟨cs, q, h⟩ := hc
  exact ⟨cs, q, this.trans h⟩
theorem blk_celly {W W' : World} {row : Option Nat} {j B : Nat} {cs : Array Value} {q : TypeId} (h : W.heap[j]? = some (.cells cs q (0, 0))) (hg : W.grownBy W' row) (hr : ∀ r, row = some r → B ≤ r ∧ ∃ o : Obj, W.heap[r]? = some o ∧ o.isCells = false) : W'.heap[j]? = some (.cells cs q (0, 0)) := (celly_grown ⟨cs, q, h⟩ hg hr).trans h
/-- All: a closure over the ring's pointer. -/
theorem All_C (p : Option Nat) (w : World) : Calls Try.prog 13 #[ptr p] w fun e w' => e = .returned (.func (.func 33) #[] #[.pointer (some ⟨w.heap.size, 0, none⟩)]) ∧ w' = w.alloc (.cells #[ptr p] 23) := by
  unfold ptr
  go_enter Try.func13, Try.ntmps13
  go_wp2
  go_ret
  exact ⟨rfl, rfl⟩
/-- While entries are collected: L.take k in the row at block n0 + 2. -/
def AllI (w0 : World) (p : Option Nat) (L : List S33) (T : Nat → Prop) (k : Nat) (W : World) : Prop :=
  ∃ v okr, Kd.S k33 33 W w0.heap.size okr v (L.take k) ∧ W.heap[w0.heap.size]? = some (.cells #[.slice none 0 0] 25 (0, 0)) ∧ W.heap[w0.heap.size + 1]? = some (.cells #[.bool false] 4 (0, 0)) ∧ W.heap[w0.heap.size + 2]? = some (.cells #[v] 25 (0, 0)) ∧ W.heap[w0.heap.size + 3]? = some (.cells #[ptr p] 23 (0, 0)) ∧
    (∀ j, okr j → w0.heap.size + 4 ≤ j ∧ ¬ T j ∧ Celly W j) ∧ Below w0.heap.size w0 W
theorem AllI_own (w0 : World) (p : Option Nat) (L : List S33) (hB : w0.heap.size ≤ w0.heap.size + 4) : TOwn (w0.heap.size + 4) (AllI w0 p L) := by
  rintro T k W W' row T' ⟨v, okr, h1, h2, h3, h4, h5, h6, h7⟩ hg hr hT
  refine ⟨v, okr, Kd.S_step h1 (fun j hj _ => celly_grown (h6 j hj).2.2 hg hr), blk_celly h2 hg hr, blk_celly h3 hg hr, blk_celly h4 hg hr, blk_celly h5 hg hr, fun j hj => ⟨(h6 j hj).1, fun hx => ?_, (h6 j hj).2.2.grown hg hr⟩, h7.grown hg h7.size (fun r e => by have := (hr r e).1; omega)⟩
  rcases hT j hx with h | h
  · exact (h6 j hj).2.1 h
  · have := (h6 j hj).2.2.lt
    omega
end Go.Proofs.Ytcbejpmmlcdhnaa.PW
namespace Go.Proofs.Ytcbejpmmlcdhnaa.PW
open Go.RowKit Go.Proofs.YtcbejpmmlcdhnaaW.PrintWords Go.Proofs.YtcbejpmmlcdhnaaW.PrintLast Go.Proofs.YtcbejpmmlcdhnaaW.PrintMore
set_option linter.unusedVariables false
set_option linter.unusedSimpArgs false
attribute [local go_sem] Oper.semAt_some

theorem results_25_4 {fn : Func} {p q : Tmp} (h : fn.results = #[.cell p 25, .cell q 4]) (tmps : Array Value) (w : World) (g1 g2 n c : Nat) (A : Option Addr) (b : Bool)
    (hp : tmps.getD p undef = .pointer (some ⟨g1, 0, none⟩)) (hq : tmps.getD q undef = .pointer (some ⟨g2, 0, none⟩)) (c1 : w.cell? ⟨g1, 0, none⟩ = some (.slice A n c)) (c2 : w.cell? ⟨g2, 0, none⟩ = some (.bool b)) :
    (results fn tmps).run Try.prog w = .ok (.tuple #[.slice A n c, .bool b]) w := by
  have hp' : tmps[p]?.getD undef = .pointer (some ⟨g1, 0, none⟩) := by simpa using hp
  have hq' : tmps[q]?.getD undef = .pointer (some ⟨g2, 0, none⟩) := by simpa using hq
  have l1 : (loadVar 25 ⟨g1, 0, none⟩).run Try.prog w = .ok (.slice A n c) w := by go_simp
  have l2 : (loadVar 4 ⟨g2, 0, none⟩).run Try.prog w = .ok (.bool b) w := by go_simp
  simp [results, h, hp', hq', asAddr, l1, l2]
theorem blk4 (w : World) (o0 o1 o2 o3 : Obj) {W : World} (hW : W = (((w.alloc o0).alloc o1).alloc o2).alloc o3) : W.heap[w.heap.size]? = some o0 ∧ W.heap[w.heap.size + 1]? = some o1 ∧ W.heap[w.heap.size + 2]? = some o2 ∧ W.heap[w.heap.size + 3]? = some o3 ∧ W.heap.size = w.heap.size + 4 ∧ Below w.heap.size w W := by
  subst hW
  have s1 := szA w o0
  have s2 := szA (w.alloc o0) o1
  have s3 := szA ((w.alloc o0).alloc o1) o2
  have s4 := szA (((w.alloc o0).alloc o1).alloc o2) o3
  have n0 := heap_alloc_new w o0
  have n1 := heap_alloc_new (w.alloc o0) o1
  have n2 := heap_alloc_new ((w.alloc o0).alloc o1) o2
  have n3 := heap_alloc_new (((w.alloc o0).alloc o1).alloc o2) o3
  have b2 : Below (w.alloc o0).heap.size (w.alloc o0) ((w.alloc o0).alloc o1) := below_alloc (Below.refl _ _) _
  have b3 : Below ((w.alloc o0).alloc o1).heap.size ((w.alloc o0).alloc o1) (((w.alloc o0).alloc o1).alloc o2) := below_alloc (Below.refl _ _) _
  have b4 : Below (((w.alloc o0).alloc o1).alloc o2).heap.size (((w.alloc o0).alloc o1).alloc o2) ((((w.alloc o0).alloc o1).alloc o2).alloc o3) := below_alloc (Below.refl _ _) _
  rw [s1] at n1
  rw [s2, s1] at n2
  rw [s3, s2, s1] at n3
  refine ⟨?_, ?_, ?_, ?_, by omega, below_alloc (below_alloc (below_alloc (below_alloc (Below.refl _ _) _) _) _) _⟩
  · exact (b4.block _ (by omega)).trans ((b3.block _ (by omega)).trans ((b2.block _ (by omega)).trans n0))
  · exact (b4.block _ (by omega)).trans ((b3.block _ (by omega)).trans n1)
  · exact (b4.block _ (by omega)).trans n2
  · exact n3
theorem eq29 (f : FuncId) (xs : Array Value) : ∀ W : World, (binOp .eql 29 (.func (.func f) #[] xs) .nilFunc).run Try.prog W = .ok (.bool false) W := fun W => by kernel_rfl
set_option maxHeartbeats 8000000 in
set_option maxRecDepth 100000 in
theorem all_R {w : World} {base : Nat} {ok : Nat → Prop} {p : Option Nat} {s : RS} (h : RingIs w base ok p s) :
    Calls Try.prog 12 #[ptr p] w fun e w' => ∃ A n c, e = .returned (.tuple #[.slice A n c, .bool true]) ∧ n = s.l.length ∧ n ≤ c ∧ Kd.S k33 33 w' w.heap.size (fun _ => True) (.slice A n c) s.l ∧ Below w.heap.size w w' := by
  have H := Aside0.mk h
  have hlen : s.l.length ≤ 64 := Nat.le_trans h.1.2.1 h.1.1
  have HLEN := Aside0.mk hlen
  clear h hlen
  refine (callsIn_wide (n := 0)).1 (callsIn_of_wp_marks Try.func12 rfl trivial ?_)
  refine (wpIn_wide (n := 0)).2 ?_
  simp only [Try.ntmps12, List.size_toArray, List.length_cons, List.length_nil, Nat.reduceAdd, Nat.reduceSub, Array.replicate_succ, Array.replicate_zero, List.push_toArray, List.append_toArray, List.nil_append, List.cons_append]
  go_wp2_with fail
  refine (All_C p _).mono ?_
  rintro e w1 ⟨rfl, rfl⟩
  obtain ⟨w1, hw1⟩ : ∃ w1, w1 = (((w.alloc (.cells #[.slice none 0 0] 25)).alloc (.cells #[.bool false] 4)).alloc (.cells #[.slice none 0 0] 25)).alloc (.cells #[ptr p] 23) := ⟨_, rfl⟩
  have hsz : (((w.alloc (.cells #[.slice none 0 0] 25)).alloc (.cells #[.bool false] 4)).alloc (.cells #[.slice none 0 0] 25)).heap.size = w.heap.size + 3 := by rw [szA, szA, szA]
  obtain ⟨b0, b1, b2, b3, b4, b5⟩ := blk4 w _ _ _ _ hw1
  rw [← hw1, hsz]
  have HB := Aside0.mk (And.intro b0 (And.intro b1 (And.intro b2 (And.intro b3 (And.intro b4 b5)))))
  have he := eq29 33 #[.pointer (some ⟨w.heap.size + 3, 0, none⟩)]
  have e2 : w.heap.size + 1 + 1 = w.heap.size + 2 := rfl
  rw [e2]
  clear hw1 hsz b0 b1 b2 b3 b4 b5 e2
  go_wp2
  have hI0 : AllI w p s.l (fun _ => False) 0 w1 := ⟨.slice none 0 0, fun _ => False, Kd.S_nil _ _ _ _ _, HB.out.1, HB.out.2.1, HB.out.2.2.1, HB.out.2.2.2.1, fun j hj => hj.elim, HB.out.2.2.2.2.2⟩
  refine rangeRing (gf := 33) (Bn := w.heap.size + 3) 6 s.l rfl (enters_ Try.func33 (by kernel_rfl) rfl) rfl (AllI w p s.l) (fun _ _ => False) (fun _ => False) ?hI ?hIx ?h0 ?hT0 ?hit ?assign ?body ?done ?stop
  case hI => exact TOwn.weak (AllI_own w p s.l (by omega)) (by have := HB.out.2.2.2.2.1; omega)
  case hIx => exact fun c s A B row hs hg hr => hs
  case h0 => exact hI0
  case hT0 => exact fun j hj => hj.elim
  case hit =>
    rintro T W ⟨v, okr, h1, h2, h3, h4, h5, h6, h7⟩
    exact it33 _ p s base ok W (blk_cell h5 0) (RingIs_below H.out h7)
  case assign =>
    intro l y A c W K hK
    simp only [List.zip_toArray, List.zip_cons_cons, List.zip_nil_left, List.zip_nil_right, List.foldl_toArray, List.foldl_toArray', List.foldl_cons, List.foldl_nil, List.setIfInBounds_toArray, List.set_cons_zero, List.set_cons_succ] at hK ⊢
    refine region_round l (by rintro ⟨a, w, h⟩; exact h) (by simp) ?_
    obtain ⟨m5, hm5⟩ : ∃ m5, m5 = y.f5.length := ⟨_, rfl⟩
    rw [← hm5] at hK ⊢
    have HK := Aside0.mk hK
    have HNEW := Aside0.mk (heap_alloc_new W (.cells zeroCells 33))
    clear hK hm5
    unfold entV at *
    go_wp2_with (with_reducible refine stop_store rfl ?_)
    refine wpList_store rfl rfl 33 (.tmp 6) (.tmp 12) rfl (.agg #[.int .i64 y.f0, .int .i64 y.f1, .int .i64 y.f2, .int .i64 y.f3, .int .i64 y.f4, .slice A m5 c]) (cells6 y (.slice A m5 c)) rfl rfl HNEW.out rfl size33 (by show 0 + 6 ≤ 6; omega) (by simp [cells6, Value.oneCell']) ?_
    rw [alloc_full (w := W) (cur := zeroCells) (e := 33) (cells6 y (.slice A m5 c)) rfl]
    exact wpList_nil HK.out
  case body =>
    rintro T l k y A c okx B W hT hTlt hTl hle hloop hy ⟨v, okr, h1, h2, h3, h4, h5, h6, h7⟩ ⟨hR, hokx⟩ hBle hbx
    have hs4 : w1.heap.size = w.heap.size + 4 := HB.out.2.2.2.2.1
    rw [hs4] at hle hR hokx hBle
    simp only [List.zip_toArray, List.zip_cons_cons, List.zip_nil_left, List.zip_nil_right, List.foldl_toArray, List.foldl_toArray', List.foldl_cons, List.foldl_nil, List.setIfInBounds_toArray, List.set_cons_zero, List.set_cons_succ]
    obtain ⟨m5, hm5⟩ : ∃ m5, m5 = y.f5.length := ⟨_, rfl⟩
    rw [← hm5] at hR hbx ⊢
    unfold entV
    have c4 : W.cell? ⟨w.heap.size + 2, 0, none⟩ = some v := (blk_cell h4 0).trans rfl
    have z4 : W.frozen? ⟨w.heap.size + 2, 0, none⟩ = false := blk_frozen h4 0
    have u0 : W.cell? ⟨B, 0, none⟩ = some (.int .i64 y.f0) := (blk_cell hbx 0).trans rfl
    have u1 : W.cell? ⟨B, 1, none⟩ = some (.int .i64 y.f1) := (blk_cell hbx 1).trans rfl
    have u2 : W.cell? ⟨B, 2, none⟩ = some (.int .i64 y.f2) := (blk_cell hbx 2).trans rfl
    have u3 : W.cell? ⟨B, 3, none⟩ = some (.int .i64 y.f3) := (blk_cell hbx 3).trans rfl
    have u4 : W.cell? ⟨B, 4, none⟩ = some (.int .i64 y.f4) := (blk_cell hbx 4).trans rfl
    have u5 : W.cell? ⟨B, 5, none⟩ = some (.slice A m5 c) := (blk_cell hbx 5).trans rfl
    have hkl : k < s.l.length := (List.getElem?_eq_some_iff.1 hy).1
    have htk : s.l.take (k + 1) = s.l.take k ++ [y] := by
      rw [List.take_add_one, hy]
      rfl
    have F1 := Aside0.mk h1
    have F2 := Aside0.mk h2
    have F3 := Aside0.mk h3
    have F4 := Aside0.mk h4
    have F5 := Aside0.mk h5
    have F6 := Aside0.mk h6
    have F7 := Aside0.mk h7
    have FR := Aside0.mk hR
    have FX := Aside0.mk hokx
    have FT := Aside0.mk hTlt
    have FM := Aside0.mk hm5
    have FK := Aside0.mk hkl
    have FTK := Aside0.mk htk
    clear h1 h2 h3 h4 h5 h6 h7 hR hokx hTlt hm5 hkl htk hbx hy hs4 hloop hI0
    refine wpIn_block ?_
    refine wpIn_seq ?_
    refine region_round l (by rintro ⟨a, w, h⟩; exact h) (by simp) ?_
    go_wp2_with (with_reducible refine stop_append rfl ?_)
    refine Kd.S_append k33 (w0 := w) w.heap.size rfl (.tmp 13) (.tmp 15) 25 33 (.agg #[(.int .i64 0), (.int .i64 0), (.int .i64 0), (.int .i64 0), (.int .i64 0), (.slice none 0 0)]) 64 rfl Try.underlying25 info33 rfl (by decide) (by omega) v (s.l.take k) y (cells6 y (.slice A m5 c)) (fun j => okr j ∨ okx j ∨ W.heap.size ≤ j) okx rfl rfl
      (k33_mkM _ _ _ _ (Kd.R_lower FR.out (by omega))) (fun j hj => ⟨.inr (.inl hj), fun e => (F6.out j ((Kd.S_R F1.out).1 j e.symm)).2.1 (.inr hj)⟩) (fun j hj => .inr (.inr hj)) (Kd.S_mono F1.out (fun j hj => ⟨.inl hj, fun hx => (F6.out j hj).2.1 (.inr hx)⟩)) F7.out F7.out.size (by rw [List.length_take]; have := HLEN.out; omega) ?_
    intro v1 w2 ho hb hg hat
    rw [← FTK.out] at ho
    obtain ⟨A1, c1, rfl⟩ := Kd.S_slice ho
    obtain ⟨nn, hnn⟩ : ∃ nn, nn = (s.l.take (k + 1)).length := ⟨_, rfl⟩
    have hnn64 : nn ≤ 64 := by rw [hnn, List.length_take]; have := HLEN.out; omega
    rw [← hnn] at ho ⊢
    have hne : ∀ i, i < 4 → some (w.heap.size + i) ≠ v.ownBlock := fun i hi e => by
      have := (F6.out _ ((Kd.S_R F1.out).1 _ e.symm)).1
      omega
    have hb4 := blk_grown F4.out hg (hne 2 (by omega))
    have c61 : w2.cell? ⟨w.heap.size + 2, 0, none⟩ = some v := (blk_cell hb4 0).trans rfl
    have z61 := blk_frozen hb4 0
    have G1 := Aside0.mk ho
    have G2 := Aside0.mk hg
    have G3 := Aside0.mk hb4
    have G4 := Aside0.mk (And.intro (blk_grown F2.out hg (hne 0 (by omega))) (And.intro (blk_grown F3.out hg (hne 1 (by omega))) (blk_grown F5.out hg (hne 3 (by omega)))))
    have G5 := Aside0.mk hb
    have GN := Aside0.mk hnn
    clear ho hb hg hat hb4 c4 z4 u0 u1 u2 u3 u4 u5 hnn hne
    go_wp2
    obtain ⟨W2, hW2⟩ : ∃ W2, W2 = w2.setCell ⟨w.heap.size + 2, 0, none⟩ (.slice A1 nn c1) := ⟨_, rfl⟩
    rw [← hW2]
    have hb5 : W2.heap[w.heap.size + 2]? = some (.cells #[.slice A1 nn c1] 25 (0, 0)) := by rw [hW2]; simpa using blk_set G3.out 0 (.slice A1 nn c1)
    have hfar : ∀ j, j ≠ w.heap.size + 2 → W2.heap[j]? = w2.heap[j]? := fun j hj => by rw [hW2]; exact Below.heap_setCell w2 _ _ j hj
    have hI : AllI w p s.l T (k + 1) W2 := by
      refine ⟨_, fun j => (okr j ∨ okx j ∨ W.heap.size ≤ j) ∧ Celly w2 j ∧ j ≠ w.heap.size + 2 ∧ w.heap.size + 4 ≤ j, ?_, (hfar _ (by omega)).trans G4.out.1, (hfar _ (by omega)).trans G4.out.2.1, hb5, (hfar _ (by omega)).trans G4.out.2.2, ?_, ?_⟩
      · refine Kd.S_step (Kd.S_mono (S_celly G1.out) (fun j hj => ⟨hj.1, hj.2.2, ?_, ?_⟩)) (fun j hj _ => hfar j hj.2.2.1)
        · rcases hj.1 with h | h | h
          · have := (F6.out j h).1
            omega
          · have := (FX.out j h).2.1
            omega
          · have := F5.out
            have := blk_lt F5.out
            omega
        · rcases hj.1 with h | h | h
          · exact (F6.out j h).1
          · exact (FX.out j h).2.1
          · have := blk_lt F5.out
            omega
      · intro j hj
        refine ⟨hj.2.2.2, fun hT => ?_, ?_⟩
        · rcases hj.1 with h | h | h
          · exact (F6.out j h).2.1 (.inl hT)
          · exact (FX.out j h).1 hT
          · have := FT.out j hT
            omega
        · obtain ⟨cs, q, hc⟩ := hj.2.1
          exact ⟨cs, q, (hfar j hj.2.2.1).trans hc⟩
      · rw [hW2]
        exact below_set G5.out (by show w.heap.size ≤ w.heap.size + 2; omega)
    have hTk : ∀ j, T j ∧ w1.heap.size ≤ j → W2.heap[j]? = W.heap[j]? := fun j hj => by
      have h4 := HB.out.2.2.2.2.1
      exact (hfar j (by omega)).trans (G2.out.block j (FT.out j hj.1) (fun e => (F6.out j ((Kd.S_R F1.out).1 j e.symm)).2.1 (.inl hj.1)))
    have c62 : W2.cell? ⟨w.heap.size + 2, 0, none⟩ = some (.slice A1 nn c1) := (blk_cell hb5 0).trans rfl
    have HI := Aside0.mk hI
    have HTK := Aside0.mk hTk
    clear hW2 hb5 hfar hI hTk c61 z61
    gi_wp2
    exact ⟨HTK.out, HI.out⟩
  case done =>
    rintro D W hD ⟨v, okr, h1, h2, h3, h4, h5, h6, h7⟩ hK
    rw [List.take_length] at h1
    obtain ⟨A1, c1, rfl⟩ := Kd.S_slice h1
    obtain ⟨nn, hnn⟩ : ∃ nn, nn = s.l.length := ⟨_, rfl⟩
    rw [← hnn] at h1 h4
    have c4 : W.cell? ⟨w.heap.size + 2, 0, none⟩ = some (.slice A1 nn c1) := (blk_cell h4 0).trans rfl
    have F1 := Aside0.mk h1
    have F2 := Aside0.mk h2
    have F3 := Aside0.mk h3
    have F6 := Aside0.mk h6
    have F7 := Aside0.mk h7
    have FN := Aside0.mk hnn
    have c2 : W.cell? ⟨w.heap.size, 0, none⟩ = some (.slice none 0 0) := (blk_cell h2 0).trans rfl
    have z2 : W.frozen? ⟨w.heap.size, 0, none⟩ = false := blk_frozen h2 0
    have c3 : W.cell? ⟨w.heap.size + 1, 0, none⟩ = some (.bool false) := (blk_cell h3 0).trans rfl
    have z3 : W.frozen? ⟨w.heap.size + 1, 0, none⟩ = false := blk_frozen h3 0
    clear h1 h2 h3 h4 h5 h6 h7 hnn hI0
    have hdf : ((W.setCell ⟨w.heap.size, 0, none⟩ (.slice A1 nn c1)).setCell ⟨w.heap.size + 1, 0, none⟩ (.bool true)).heap[D]? = some (.deferred (some [])) := by
      have h4 := HB.out.2.2.2.2.1
      exact (Below.heap_setCell _ _ _ D (by show D ≠ w.heap.size + 1; omega)).trans ((Below.heap_setCell _ _ _ D (by show D ≠ w.heap.size; omega)).trans hK)
    have HDF := Aside0.mk hdf
    have HDD := Aside0.mk hD
    clear hK hdf hD
    go_wp2
    obtain ⟨Wf, hWf⟩ : ∃ Wf, Wf = (W.setCell ⟨w.heap.size, 0, none⟩ (.slice A1 nn c1)).setCell ⟨w.heap.size + 1, 0, none⟩ (.bool true) := ⟨_, rfl⟩
    rw [← hWf] at HDF ⊢
    refine ⟨by simp, .inl ⟨_, _, rfl, run_takeDeferred HDF.out, ?_⟩⟩
    have hDne : w.heap.size + 4 ≤ D := by have h4 := HB.out.2.2.2.2.1; have := HDD.out; omega
    have b2 : (Wf.putObj D (.deferred none)).heap[w.heap.size]? = some (.cells #[.slice A1 nn c1] 25 (0, 0)) := by
      rw [World.putObj_heap_other (by omega), hWf]
      refine blk_far ?_ (by show w.heap.size ≠ w.heap.size + 1; omega) _
      simpa using blk_set F2.out 0 (.slice A1 nn c1)
    have b3 : (Wf.putObj D (.deferred none)).heap[w.heap.size + 1]? = some (.cells #[.bool true] 4 (0, 0)) := by
      rw [World.putObj_heap_other (by omega), hWf]
      have := blk_set (w := W.setCell ⟨w.heap.size, 0, none⟩ (.slice A1 nn c1)) (blk_far F3.out (by show w.heap.size + 1 ≠ w.heap.size; omega) _) 0 (.bool true)
      simpa using this
    refine ⟨_, results_25_4 (fn := Try.f12) rfl _ _ w.heap.size (w.heap.size + 1) nn c1 A1 true rfl rfl ((blk_cell b2 0).trans rfl) ((blk_cell b3 0).trans rfl), A1, nn, c1, rfl, FN.out, ?_, ?_, ?_⟩
    · rw [FN.out]
      rw [FN.out] at F1
      exact (Kd.S_reads' F1.out).2.1
    · refine Kd.S_mono (Kd.S_step F1.out (fun j hj _ => ?_)) (fun _ _ => trivial)
      have h6 := F6.out j hj
      rw [hWf]
      have hne : j ≠ D := fun e => by
        obtain ⟨cs, q, hc⟩ := h6.2.2
        have h7 := HDF.out
        rw [hWf, ← e] at h7
        rw [Below.heap_setCell _ ⟨w.heap.size + 1, 0, none⟩ _ j (by show j ≠ w.heap.size + 1; omega), Below.heap_setCell _ ⟨w.heap.size, 0, none⟩ _ j (by show j ≠ w.heap.size; omega), hc] at h7
        cases h7
      exact (World.putObj_heap_other (by omega)).trans ((Below.heap_setCell _ ⟨w.heap.size + 1, 0, none⟩ _ j (by show j ≠ w.heap.size + 1; omega)).trans (Below.heap_setCell _ ⟨w.heap.size, 0, none⟩ _ j (by show j ≠ w.heap.size; omega)))
    · rw [hWf]
      have := below_set (g := w.heap.size + 1) (j := 0) (v := .bool true) (below_set (g := w.heap.size) (j := 0) (v := .slice A1 nn c1) F7.out (Nat.le_refl _)) (by omega)
      exact this.grown (grownBy_putObj' _ D _) this.size (fun r e => by cases e; omega)
  case stop => exact fun D c W _ h _ => h.elim
end Go.Proofs.Ytcbejpmmlcdhnaa.PW
namespace Go.Proofs.Ytcbejpmmlcdhnaa.PW
open Go.RowKit Go.Proofs.YtcbejpmmlcdhnaaW.PrintWords Go.Proofs.YtcbejpmmlcdhnaaW.PrintLast Go.Proofs.YtcbejpmmlcdhnaaW.PrintMore
set_option linter.unusedVariables false
set_option linter.unusedSimpArgs false

/-- The next entry, and the ring with it, held. -/
def nxt (s : RS) : S33 := ⟨(s.la : Int) + 1, s.lv, 0, 9, 0, []⟩
def stepS (s : RS) : RS := (s.app (nxt s)).hold ((s.la : Int) + 1)
def Good (room m : Nat) (s : RS) : Prop := s.room = room ∧ s.ho = s.la ∧ s.la = m ∧ s.l.length = min m room ∧ isB s.lv = true
theorem RS.lv_snoc (s : RS) (l : List S33) (x : S33) (h : s.l = l ++ [x]) : s.lv = x.f1 := by
  unfold RS.lv
  rw [h, List.getLast?_append]
  simp
theorem Good_step {room m : Nat} {s : RS} (h1 : 1 ≤ room) (hm : m ≤ 100000) (h : Good room m s) : Good room (m + 1) (stepS s) := by
  obtain ⟨g1, g2, g3, g4, g5⟩ := h
  have hac : s.acode (nxt s) = 0 := by
    unfold RS.acode
    have hb : isB (nxt s).f1 = true := g5
    rw [hb, if_neg (by simp; omega), if_neg (by simp [nxt]), if_neg (by show ¬ s.lv < s.lv; omega), if_neg]
    rintro ⟨h2, h3⟩
    have : s.la = s.fl + s.l.length := rfl
    omega
  have happ : s.app (nxt s) = s.push (nxt s) := by unfold RS.app; rw [if_pos hac]
  have hla : s.la = s.fl + s.l.length := rfl
  have key : (s.push (nxt s)).room = room ∧ (s.push (nxt s)).ho = s.la ∧ (s.push (nxt s)).la = m + 1 ∧ (s.push (nxt s)).l.length = min (m + 1) room ∧ (s.push (nxt s)).lv = s.lv := by
    unfold RS.push
    by_cases hf : s.l.length = s.room
    · rw [if_pos hf]
      refine ⟨g1, g2, ?_, ?_, (RS.lv_snoc _ _ (nxt s) rfl).trans rfl⟩
      · show s.fl + 1 + (s.l.drop 1 ++ [nxt s]).length = m + 1
        rw [List.length_append, List.length_drop, List.length_singleton]
        omega
      · show (s.l.drop 1 ++ [nxt s]).length = _
        rw [List.length_append, List.length_drop, List.length_singleton]
        omega
    · rw [if_neg hf]
      refine ⟨g1, g2, ?_, ?_, (RS.lv_snoc _ _ (nxt s) rfl).trans rfl⟩
      · show s.fl + (s.l ++ [nxt s]).length = m + 1
        rw [List.length_append, List.length_singleton]
        omega
      · show (s.l ++ [nxt s]).length = _
        rw [List.length_append, List.length_singleton]
        omega
  obtain ⟨k1, k2, k3, k4, k5⟩ := key
  have hc : (s.push (nxt s)).code ((s.la : Int) + 1) = 0 := by
    unfold RS.code
    rw [btw_zero, k2, k3]
    omega
  unfold stepS
  rw [happ]
  unfold RS.hold
  rw [if_pos hc]
  refine ⟨k1, ?_, k3, k4, by show isB (s.push (nxt s)).lv = true; rw [k5]; exact g5⟩
  show ((s.la : Int) + 1).toNat = (s.push (nxt s)).la
  rw [k3]
  omega
theorem Good_fill (room n : Nat) (h1 : 1 ≤ room) (hn : n ≤ 200) : Good room n (fillS room n) := by
  refine ⟨rfl, ?_, fillS_la _ _, fillS_len _ _, ?_⟩
  · rw [fillS_la]; rfl
  · rw [fillS_lv _ _ h1]
    exact decide_eq_true (by omega)
/-- A block of the kinds that a ring, a list of entries, a list of ops lie in. -/
def Rowy (W : World) (j : Nat) : Prop := ∃ cs q, W.heap[j]? = some (.cells cs q (0, 0)) ∧ (q = 66 ∨ q = 55 ∨ q = 33)
theorem Rowy.celly {W : World} {j : Nat} (h : Rowy W j) : Celly W j := by obtain ⟨cs, q, h, _⟩ := h; exact ⟨cs, q, h⟩
theorem Rowy.ne {W : World} {j g t : Nat} {cs : Array Value} (h : Rowy W j) (hg : W.heap[g]? = some (.cells cs t (0, 0))) (ht : t ≠ 66 ∧ t ≠ 55 ∧ t ≠ 33) : j ≠ g := by
  obtain ⟨cs', q, h, hq⟩ := h
  rintro rfl
  rw [h] at hg
  injection hg with hg
  injection hg with _ hg
  rcases hq with h | h | h <;> simp_all
theorem Rowy.same {W W' : World} {j : Nat} (h : Rowy W j) (he : W'.heap[j]? = W.heap[j]?) : Rowy W' j := by obtain ⟨cs, q, h, hq⟩ := h; exact ⟨cs, q, he.trans h, hq⟩
theorem R55_rowy {w : World} {base : Nat} {ok : Nat → Prop} {v : Value} {l : List S55} (h : Kd.R k55 55 w base ok v l) : Kd.R k55 55 w base (fun k => ok k ∧ Rowy w k) v l :=
  Kd.R_mono (Kd.R_bound h) (fun k hk => ⟨hk.1, by
    obtain ⟨q, hq, cs, hc⟩ := hk.2.2.2
    refine ⟨cs, q, hc, .inr (.inl ?_)⟩
    simpa [k55, Kd.iso, Kd.pair, Kd.int, Kd.scalar, Kd.string] using hq⟩)
theorem S33_rowy {w : World} {base : Nat} {ok : Nat → Prop} {v : Value} {l : List S33} (h : Kd.S k33 33 w base ok v l) : Kd.S k33 33 w base (fun k => ok k ∧ Rowy w k) v l :=
  Kd.S_mono (Kd.S_bound h) (fun k hk => ⟨hk.1, by
    obtain ⟨q, hq, cs, hc⟩ := hk.2.2.2
    refine ⟨cs, q, hc, ?_⟩
    have : q = 33 ∨ q = 55 := by simpa [k33, k55, Kd.iso, Kd.pair, Kd.int, Kd.scalar, Kd.string, Kd.slice] using hq
    rcases this with h | h
    · exact .inr (.inr h)
    · exact .inr (.inl h)⟩)
theorem Ring_rowy {W : World} {base b : Nat} {ok : Nat → Prop} {s : RS} (h : RingIs W base ok (some b) s) : RingIs W base (fun k => ok k ∧ Rowy W k) (some b) s := by
  obtain ⟨h0, E, ⟨h1, h2, C, h3, h4, h5, h6, h7, h8, h9, h10⟩, hE⟩ := h
  refine ⟨h0, E, ⟨h1, ⟨h2, C, 66, h3, .inl rfl⟩, C, h3, h4, h5, h6, h7, h8, h9, fun k hk' => ?_⟩, hE⟩
  obtain ⟨e1, e2, e3, e4, e5, v, e6, e7⟩ := h10 k hk'
  exact ⟨e1, e2, e3, e4, e5, v, e6, Kd.R_mono (R55_rowy e7) (fun j hj => ⟨⟨hj.1.1, hj.2⟩, hj.1.2⟩)⟩
theorem Ring_old {W : World} {base b : Nat} {ok : Nat → Prop} {s : RS} (h : RingIs W base ok (some b) s) : RingIs W base (fun k => ok k ∧ k < W.heap.size) (some b) s := by
  obtain ⟨h0, E, h1, hE⟩ := h
  exact ⟨h0, E, RingAt_old h1, hE⟩
theorem Ring_lower {W : World} {base base' b : Nat} {ok : Nat → Prop} {s : RS} (h : RingIs W base ok (some b) s) (hb : base' ≤ base) : RingIs W base' ok (some b) s := by
  obtain ⟨h0, E, ⟨h1, h2, C, h3, h4, h5, h6, h7, h8, h9, h10⟩, hE⟩ := h
  refine ⟨h0, E, ⟨Nat.le_trans hb h1, h2, C, h3, h4, h5, h6, h7, h8, h9, fun k hk' => ?_⟩, hE⟩
  obtain ⟨e1, e2, e3, e4, e5, v, e6, e7⟩ := h10 k hk'
  exact ⟨e1, e2, e3, e4, e5, v, e6, Kd.R_lower e7 hb⟩
/-- The law's own boxes. -/
def Named (p : Nat) (kk : Int) (B8 B9 B11 B12 Bn b : Nat) (v9 : Value) (i : Nat) (W : World) : Prop :=
  W.heap[p]? = some (.cells #[.int .i64 kk] 3 (0, 0)) ∧ W.heap[p + 1]? = some (.cells #[.bool false] 4 (0, 0)) ∧ W.heap[B8]? = some (.cells #[.pointer (some ⟨b, 0, none⟩)] 23 (0, 0)) ∧ W.heap[B9]? = some (.cells #[v9] 25 (0, 0)) ∧
    W.heap[B11]? = some (.cells #[.func (.func 33) #[] #[.pointer (some ⟨Bn, 0, none⟩)]] 29 (0, 0)) ∧ W.heap[B12]? = some (.cells #[.int .i64 (i : Int)] 3 (0, 0)) ∧ W.heap[Bn]? = some (.cells #[ptr (some b)] 23 (0, 0))
theorem Named_step {p B8 B9 B11 B12 Bn b i : Nat} {kk : Int} {v9 : Value} {W W' : World} (h : Named p kk B8 B9 B11 B12 Bn b v9 i W) (hm : ∀ j, Celly W j → (¬ Rowy W j) → W'.heap[j]? = W.heap[j]?) : Named p kk B8 B9 B11 B12 Bn b v9 i W' := by
  have key : ∀ {j : Nat} {cs : Array Value} {q : TypeId}, W.heap[j]? = some (.cells cs q (0, 0)) → (q ≠ 66 ∧ q ≠ 55 ∧ q ≠ 33) → W'.heap[j]? = some (.cells cs q (0, 0)) := fun {j cs q} hj hq => (hm j ⟨cs, q, hj⟩ (fun hr => hr.ne hj hq rfl)).trans hj
  obtain ⟨h1, h2, h3, h4, h5, h6, h7⟩ := h
  exact ⟨key h1 (by decide), key h2 (by decide), key h3 (by decide), key h4 (by decide), key h5 (by decide), key h6 (by decide), key h7 (by decide)⟩
/-- While the entries L are gone through: i of them have come. -/
def MayI (w0 : World) (n room b : Nat) (kk : Int) (B8 B9 B11 B12 Bn : Nat) (A9 : Option Addr) (n9 c9 : Nat) (L : List S33) (T : Nat → Prop) (i : Nat) (W : World) : Prop :=
  ∃ (s : RS) (okr okw : Nat → Prop), Good room (n + i) s ∧ RingIs W w0.heap.size okr (some b) s ∧ Kd.S k33 33 W w0.heap.size okw (.slice A9 n9 c9) L ∧ Named w0.heap.size kk B8 B9 B11 B12 Bn b (.slice A9 n9 c9) i W ∧
    (∀ j, okr j → ¬ T j ∧ ¬ okw j ∧ Rowy W j) ∧ (∀ j, okw j → ¬ T j ∧ Rowy W j) ∧ Below w0.heap.size w0 W ∧ (i = 0 → s.l = L)
theorem MayI_own {w0 : World} {n room b : Nat} {kk : Int} {B8 B9 B11 B12 Bn : Nat} {A9 : Option Addr} {n9 c9 : Nat} {L : List S33} {B : Nat} (hB : w0.heap.size ≤ B) : TOwn B (MayI w0 n room b kk B8 B9 B11 B12 Bn A9 n9 c9 L) := by
  rintro T i W W' row T' ⟨s, okr, okw, h1, h2, h3, h4, h5, h6, h7, h8⟩ hg hr hT
  have hnew : ∀ j, Celly W j → T' j → T j := fun j hj ht => (hT j ht).resolve_right (fun h => by have := hj.lt; omega)
  exact ⟨s, okr, okw, h1, RingIs_step h2 (fun j hj _ => celly_grown (h5 j hj).2.2.celly hg hr), Kd.S_step h3 (fun j hj _ => celly_grown (h6 j hj).2.celly hg hr), Named_step h4 (fun j hj _ => celly_grown hj hg hr),
    fun j hj => ⟨fun hx => (h5 j hj).1 (hnew j (h5 j hj).2.2.celly hx), (h5 j hj).2.1, (h5 j hj).2.2.same (celly_grown (h5 j hj).2.2.celly hg hr)⟩,
    fun j hj => ⟨fun hx => (h6 j hj).1 (hnew j (h6 j hj).2.celly hx), (h6 j hj).2.same (celly_grown (h6 j hj).2.celly hg hr)⟩, h7.grown hg h7.size (fun r e => by have := (hr r e).1; omega), h8⟩
end Go.Proofs.Ytcbejpmmlcdhnaa.PW
namespace Go.Proofs.Ytcbejpmmlcdhnaa.PW
open Go.RowKit Go.Proofs.YtcbejpmmlcdhnaaW.PrintWords Go.Proofs.YtcbejpmmlcdhnaaW.PrintLast Go.Proofs.YtcbejpmmlcdhnaaW.PrintMore
set_option linter.unusedVariables false
set_option linter.unusedSimpArgs false
attribute [local go_sem] Oper.semAt_some
def rg3.T16 : Bool × List (List Nat × List Nat) := (true, [([], []), ([], []), ([1], [1]), ([0, 2], [0, 2]), ([3], [3]), ([4], [4]), ([4], [4]), ([4], [4]), ([6, 7, 4], [4, 6, 7]), ([8, 4], [4, 8]), ([5, 9, 4, 4], [4, 5, 9]), ([10, 4], [4, 10]), ([4, 11], [4, 11])])
def rg3.B16 : List Nat := [0, 0, 2, 7, 15, 31, 31, 31, 223, 479, 1023, 2047, 4095]
theorem rg3.tab16 : rtab .any (opsOf Try.f3 16) = rg3.T16 := by kernel_rfl
theorem rg3.bits16 : waitsOk rg3.T16.2 rg3.B16 = true := by kernel_rfl
def rg3.T22 : Bool × List (List Nat × List Nat) := (true, [([], []), ([0], [0]), ([1], [1]), ([2], [2]), ([2], [2]), ([4, 2], [2, 4]), ([3, 5, 2], [2, 3, 5]), ([2, 6], [2, 6]), ([7, 2], [7]), ([8], [8]), ([8], [8]), ([8], [8]), ([10, 11, 8], [8, 10, 11]), ([12, 8], [8, 12]), ([9, 13, 8, 8], [8, 9, 13]), ([14, 8], [8, 14]), ([8, 15], [8, 15])])
def rg3.B22 : List Nat := [0, 1, 3, 7, 7, 23, 63, 127, 255, 511, 511, 511, 3583, 7679, 16383, 32767, 65535]
theorem rg3.tab22 : rtab .any (opsOf Try.f3 22) = rg3.T22 := by kernel_rfl
theorem rg3.bits22 : waitsOk rg3.T22.2 rg3.B22 = true := by kernel_rfl

theorem results_cell1 {fn : Func} {p : Tmp} {g : Nat} {x : Bool} (h : fn.results = #[.cell p 4]) {tmps : Array Value} {w : World} (hp : tmps.getD p undef = .pointer (some ⟨g, 0, none⟩)) (hc : w.cell? ⟨g, 0, none⟩ = some (.bool x)) : (results fn tmps).run Try.prog w = .ok (.bool x) w := by
  have hp' : tmps[p]?.getD undef = .pointer (some ⟨g, 0, none⟩) := by simpa using hp
  simp only [results, h]
  simp [Sem.run_bind, Result.andThen, hp', asAddr, go_sem, hc]
theorem size29 : (Try.prog.info? 29).map (·.size) = some 1 := by kernel_rfl
set_option maxHeartbeats 16000000 in
set_option maxRecDepth 100000 in
theorem ringMayStop_out (a0 a1 kk : Int) (w : World) (hbad : a0 < 1 ∨ 64 < a0 ∨ a1 < 0 ∨ 150 < a1) :
    Calls Try.prog 3 #[.int .i64 a0, .int .i64 a1, .int .i64 kk] w fun e w' => e = .returned (.bool true) ∧ Below w.heap.size w w' := by
  have hcase : a0 < 1 ∨ (1 ≤ a0 ∧ 64 < a0) ∨ (1 ≤ a0 ∧ a0 ≤ 64 ∧ a1 < 0) ∨ (1 ≤ a0 ∧ a0 ≤ 64 ∧ 0 ≤ a1 ∧ 150 < a1) := by omega
  clear hbad
  rcases hcase with h | ⟨h, h2⟩ | ⟨h, h2, h3⟩ | ⟨h, h2, h3, h4⟩
  all_goals
    refine (callsIn_wide (n := 0)).1 (callsIn_of_wp_marks Try.func3 rfl trivial ?_)
    refine (wpIn_wide (n := 0)).2 ?_
    simp only [Try.ntmps3, List.size_toArray, List.length_cons, List.length_nil, Nat.reduceAdd, Nat.reduceSub, Array.replicate_succ, Array.replicate_zero, List.push_toArray, List.append_toArray, List.nil_append, List.cons_append]
    go_wp2_with fail
    refine (begins_R _).mono ?_
    rintro e w1 ⟨rfl, hb⟩
    have hb2 : w1.heap[w.heap.size + 1]? = some (.cells #[.bool false] 4) := (hb.block _ (by rw [szA, szA]; omega)).trans (blkB w _ _)
    have HB := Aside0.mk (below_step (below_alloc (below_alloc (Below.refl w.heap.size w) _) _) hb)
    have c2 : w1.cell? ⟨w.heap.size + 1, 0, none⟩ = some (.bool false) := (blk_cell hb2 0).trans rfl
    have z2 : w1.frozen? ⟨w.heap.size + 1, 0, none⟩ = false := blk_frozen hb2 0
    have HC := Aside0.mk hb2
    clear hb hb2
    go_wp2
    refine ⟨_, results_cell1 (x := true) rfl rfl ?_, ?_⟩
    · exact World.cell?_setCell_same _ _ _ ((blk_cell HC.out 0).trans rfl)
    · exact ⟨rfl, below_set (g := w.heap.size + 1) (j := 0) HB.out (by omega)⟩
set_option maxHeartbeats 32000000 in
set_option maxRecDepth 100000 in
theorem ringMayStop_in (room n : Nat) (kk : Int) (w : World) (h1 : 1 ≤ room) (h2 : room ≤ 64) (hn : n ≤ 150) :
    Calls Try.prog 3 #[.int .i64 (room : Int), .int .i64 (n : Int), .int .i64 kk] w fun e w' => e = .returned (.bool true) ∧ Below w.heap.size w w' := by
  refine (callsIn_wide (n := 0)).1 (callsIn_of_wp_marks Try.func3 rfl trivial ?_)
  refine (wpIn_wide (n := 0)).2 ?_
  simp only [Try.ntmps3, List.size_toArray, List.length_cons, List.length_nil, Nat.reduceAdd, Nat.reduceSub, Array.replicate_succ, Array.replicate_zero, List.push_toArray, List.append_toArray, List.nil_append, List.cons_append]
  go_wp2_with fail
  refine (begins_R _).mono ?_
  rintro e w1 ⟨rfl, hb⟩
  have n1 : w1.heap[w.heap.size + 1]? = some (.cells #[.bool false] 4) := (hb.block _ (by rw [szA, szA]; omega)).trans (blkB w _ _)
  have n0 : w1.heap[w.heap.size]? = some (.cells #[.int .i64 kk] 3) := (hb.block _ (by rw [szA, szA]; omega)).trans (blkA w _ _)
  have HB1 := Aside0.mk (below_step (below_alloc (below_alloc (Below.refl w.heap.size w) _) _) hb)
  have N1 := Aside0.mk (And.intro n0 n1)
  clear hb n0 n1
  go_wp2_with fail
  refine (filled_R w1 room n h1 h2 (by omega)).mono ?_
  rintro e w2 ⟨rfl, hr, hb⟩
  have HR2 := Aside0.mk hr
  have HB2 := Aside0.mk (below_step HB1.out hb)
  have N2 := Aside0.mk (And.intro ((hb.block _ (blk_lt N1.out.1)).trans N1.out.1) ((hb.block _ (blk_lt N1.out.2)).trans N1.out.2))
  clear hr hb
  go_wp2_with fail
  have hb8 : (w2.alloc (.cells #[.pointer (some ⟨w1.heap.size, 0, none⟩)] 23)).heap[w2.heap.size]? = some (.cells #[.pointer (some ⟨w1.heap.size, 0, none⟩)] 23) := heap_alloc_new _ _
  have hbl2 : Below w2.heap.size w2 (w2.alloc (.cells #[.pointer (some ⟨w1.heap.size, 0, none⟩)] 23)) := below_alloc (Below.refl _ _) _
  refine (all_R (p := some w1.heap.size) (RingIs_below HR2.out hbl2)).mono ?_
  rintro e w3 ⟨A9, n9, c9, rfl, hn9, hc9, hs9, hb3⟩
  have hb23 : Below w2.heap.size w2 w3 := below_step hbl2 hb3
  have N3 := Aside0.mk (And.intro ((hb23.block _ (blk_lt N2.out.1)).trans N2.out.1) (And.intro ((hb23.block _ (blk_lt N2.out.2)).trans N2.out.2) ((hb3.block _ (blk_lt hb8)).trans hb8)))
  have HR3 := Aside0.mk (show RingIs w3 w.heap.size (fun j => j < w2.heap.size ∧ Rowy w3 j) (some w1.heap.size) (fillS room n) from RingIs_mono (Ring_rowy (RingIs_below (Ring_lower (Ring_old HR2.out) HB1.out.size) hb23)) (fun j hj => ⟨hj.1.2, hj.2⟩))
  have HB3 := Aside0.mk (below_step HB2.out hb23)
  have hn9' : n9 = min n room := by rw [hn9, fillS_len]
  have HS9 := Aside0.mk (show Kd.S k33 33 w3 w.heap.size (fun j => w2.heap.size < j ∧ Rowy w3 j) (.slice A9 n9 c9) (fillS room n).l from Kd.S_mono (S33_rowy (Kd.S_lower (Kd.S_bound hs9) (by rw [szA]; exact Nat.le_trans HB2.out.size (by omega)))) (fun j hj => ⟨by have := hj.1.2.1; rw [szA] at this; omega, hj.2⟩))
  have HN9 := Aside0.mk hn9'
  have h9r : n9 ≤ 64 := by omega
  have HOLD := Aside0.mk (show ∀ j, j = w1.heap.size ∨ j < w2.heap.size → j < w2.heap.size from fun j hj => hj.elim (fun e => by obtain ⟨_, E, hR, _⟩ := HR2.out; rw [e]; exact World.block_lt_of_cell? w2 ⟨w1.heap.size, 384, none⟩ (RingAt_cells hR).1) id)
  clear hb8 hbl2 hs9 hb3 hb23 hn9 hn9'
  have c8 : w3.cell? ⟨w2.heap.size, 0, none⟩ = some (.pointer (some ⟨w1.heap.size, 0, none⟩)) := (blk_cell N3.out.2.2 0).trans rfl
  have l8 : w2.heap.size < w3.heap.size := blk_lt N3.out.2.2
  go_wp2_with fail
  refine (All_C (some w1.heap.size) _).mono ?_
  rintro e w4 ⟨rfl, rfl⟩
  rw [szA]
  have he := eq29 33 #[.pointer (some ⟨w3.heap.size + 1, 0, none⟩)]
  obtain ⟨wp3, hwp3⟩ : ∃ wp3, wp3 = (w3.alloc (.cells #[.slice A9 n9 c9] 25)).alloc (.cells #[ptr (some w1.heap.size)] 23) := ⟨_, rfl⟩
  have hszp : wp3.heap.size = w3.heap.size + 2 := by rw [hwp3, szA, szA]
  rw [← hwp3]
  have hnew : (wp3.alloc (.cells #[.nilFunc] 29)).heap[w3.heap.size + 2]? = some (.cells #[.nilFunc] 29) := by rw [← hszp]; exact heap_alloc_new _ _
  have HWP := Aside0.mk hwp3
  have HNEW := Aside0.mk hnew
  have HSZP := Aside0.mk hszp
  clear hwp3 hnew
  go_wp2_with (with_reducible refine stop_store rfl ?_)
  refine wpList_store (g := w3.heap.size + 2) rfl rfl 29 (.tmp 11) (.tmp 52) rfl (.func (.func 33) #[] #[.pointer (some ⟨w3.heap.size + 1, 0, none⟩)]) [.func (.func 33) #[] #[.pointer (some ⟨w3.heap.size + 1, 0, none⟩)]] (by rfl) rfl HNEW.out rfl size29 (by show 0 + 1 ≤ 1; omega) (by simp [Value.oneCell']) ?_
  have hfull := alloc_full (w := wp3) (cur := #[.nilFunc]) (e := 29) [.func (.func 33) #[] #[.pointer (some ⟨w3.heap.size + 1, 0, none⟩)]] rfl
  rw [HSZP.out] at hfull
  rw [hfull]
  obtain ⟨w4, hw4⟩ : ∃ w4, w4 = wp3.alloc (.cells [.func (.func 33) #[] #[.pointer (some ⟨w3.heap.size + 1, 0, none⟩)]].toArray 29) := ⟨_, rfl⟩
  rw [← hw4]
  have h4z : w4.heap.size = w3.heap.size + 3 := by rw [hw4, szA, HSZP.out]
  have hw5 := blk4 w3 (.cells #[.slice A9 n9 c9] 25) (.cells #[ptr (some w1.heap.size)] 23) (.cells #[.func (.func 33) #[] #[.pointer (some ⟨w3.heap.size + 1, 0, none⟩)]] 29) (.cells #[.int .i64 0] 3) (W := w4.alloc (.cells #[.int .i64 0] 3)) (by rw [hw4, HWP.out])
  have c11 : w4.cell? ⟨w3.heap.size + 2, 0, none⟩ = some (.func (.func 33) #[] #[.pointer (some ⟨w3.heap.size + 1, 0, none⟩)]) := by
    rw [hw4]
    exact (blk_cell (show (wp3.alloc (.cells [.func (.func 33) #[] #[.pointer (some ⟨w3.heap.size + 1, 0, none⟩)]].toArray 29)).heap[w3.heap.size + 2]? = _ by rw [← HSZP.out]; exact heap_alloc_new _ _) 0).trans rfl
  have l11 : w3.heap.size + 2 < w4.heap.size := by omega
  have HW5 := Aside0.mk hw5
  have H4Z := Aside0.mk h4z
  clear hfull hw4 hw5 h4z HNEW c8
  refine wpList_nil ?_
  go_wp2
  obtain ⟨w5, hw5⟩ : ∃ w5, w5 = w4.alloc (.cells #[.int .i64 0] 3) := ⟨_, rfl⟩
  have hz : w4.heap.size = w3.heap.size + 3 := H4Z.out
  rw [← hw5] at HW5 ⊢
  rw [hz]
  obtain ⟨L, hL⟩ : ∃ L, L = (fillS room n).l := ⟨_, rfl⟩
  have hI0 : MayI w n room w1.heap.size kk w2.heap.size w3.heap.size (w3.heap.size + 2) (w3.heap.size + 3) (w3.heap.size + 1) A9 n9 c9 L (fun _ => False) 0 w5 := by
    have hb35 : Below w3.heap.size w3 w5 := HW5.out.2.2.2.2.2
    refine ⟨fillS room n, _, _, Good_fill room n h1 (by omega), RingIs_step HR3.out (fun j _ hj => hb35.block j hj), Kd.S_step (by rw [hL]; exact HS9.out) (fun j _ hj => hb35.block j hj), ⟨(hb35.block _ (blk_lt N3.out.1)).trans N3.out.1, (hb35.block _ (blk_lt N3.out.2.1)).trans N3.out.2.1, (hb35.block _ (blk_lt N3.out.2.2)).trans N3.out.2.2, HW5.out.1, HW5.out.2.2.1, HW5.out.2.2.2.1, HW5.out.2.1⟩, ?_, ?_, below_step HB3.out hb35, fun _ => hL.symm⟩
    · exact fun j hj => ⟨fun h => h, fun h => by have := h.1; have := hj.1; omega, hj.2.same (hb35.block j hj.2.celly.lt)⟩
    · exact fun j hj => ⟨fun h => h, hj.2.same (hb35.block j hj.2.celly.lt)⟩
  have HLL := Aside0.mk (show L.length = n9 ∧ ∀ x ∈ L, opsOk x by rw [hL]; exact ⟨by rw [fillS_len]; exact HN9.out.symm, fun x hx => by obtain ⟨t, _, rfl⟩ := List.mem_map.1 hx; show 2 ≤ _; omega⟩)
  have HI0 := Aside0.mk hI0
  have hc99 : n9 ≤ c9 := hc9
  have h0lt : w.heap.size < w3.heap.size + 3 := by have := HB3.out.size; omega
  obtain ⟨b, hb⟩ : ∃ b, b = w1.heap.size := ⟨_, rfl⟩
  rw [← hb] at HI0 ⊢
  have HBB := Aside0.mk hb
  clear hb
  have hw5z : w5.heap.size = w3.heap.size + 4 := HW5.out.2.2.2.2.1
  clear hI0 hw5 hL c11 he hz l11 l8
  refine rangeRing (gf := 33) (Bn := w3.heap.size + 1) 13 L rfl (enters_ Try.func33 (by kernel_rfl) rfl) rfl
    (fun T i W => MayI w n room b kk w2.heap.size w3.heap.size (w3.heap.size + 2) (w3.heap.size + 3) (w3.heap.size + 1) A9 n9 c9 L T i W ∧ i ≤ n9 ∧ ∀ j : Nat, 1 ≤ j → j ≤ i → (j : Int) ≠ kk)
    (fun c W => c = .exit 0 ∧ ∃ i : Nat, 1 ≤ i ∧ i ≤ n9 ∧ (i : Int) = kk ∧ MayI w n room b kk w2.heap.size w3.heap.size (w3.heap.size + 2) (w3.heap.size + 3) (w3.heap.size + 1) A9 n9 c9 L (fun _ => False) i W) (fun _ => False) ?hI ?hIx ?h0 ?hT0 ?hit ?assign ?body ?done ?stop
  case hI =>
    rintro T i A B row T' ⟨hM, hi, hk⟩ hg hr hT
    exact ⟨MayI_own (B := w5.heap.size) (by have := HB3.out.size; omega) T i A B row T' hM hg hr hT, hi, hk⟩
  case hIx =>
    rintro c s A B row ⟨rfl, i, h1, h2, h3, hM⟩ hg hr
    exact ⟨rfl, i, h1, h2, h3, MayI_own (B := w5.heap.size) (by have := HB3.out.size; omega) _ i A B row _ hM hg hr (fun k hk => hk.elim)⟩
  case h0 => exact ⟨HI0.out, Nat.zero_le _, fun j h1 h2 => by omega⟩
  case hT0 => exact fun j hj => hj.elim
  case hit =>
    rintro T W ⟨⟨s, okr, okw, g1, g2, g3, g4, g5, g6, g7, g8⟩, _⟩
    rw [← g8 rfl]
    exact it33 _ (some b) s _ _ W (blk_cell g4.2.2.2.2.2.2 0) g2
  case assign =>
    intro l y A c W K hK
    simp only [List.zip_toArray, List.zip_cons_cons, List.zip_nil_left, List.zip_nil_right, List.foldl_toArray, List.foldl_toArray', List.foldl_cons, List.foldl_nil, List.setIfInBounds_toArray, List.set_cons_zero, List.set_cons_succ] at hK ⊢
    refine region_round l (by rintro ⟨a, w, h⟩; exact h) (by simp) ?_
    obtain ⟨m5, hm5⟩ : ∃ m5, m5 = y.f5.length := ⟨_, rfl⟩
    rw [← hm5] at hK ⊢
    have HK := Aside0.mk hK
    have HNEW := Aside0.mk (heap_alloc_new W (.cells zeroCells 33))
    clear hK hm5
    unfold entV at *
    go_wp2_with (with_reducible refine stop_store rfl ?_)
    refine wpList_store rfl rfl 33 (.tmp 13) (.tmp 60) rfl (.agg #[.int .i64 y.f0, .int .i64 y.f1, .int .i64 y.f2, .int .i64 y.f3, .int .i64 y.f4, .slice A m5 c]) (cells6 y (.slice A m5 c)) rfl rfl HNEW.out rfl size33 (by show 0 + 6 ≤ 6; omega) (by simp [cells6, Value.oneCell']) ?_
    rw [alloc_full (w := W) (cur := zeroCells) (e := 33) (cells6 y (.slice A m5 c)) rfl]
    exact wpList_nil HK.out
  case body =>
    rintro T l i y A c okx B W hT hTlt hTl hle hloop hy ⟨⟨s, okr, okw, g1, g2, g3, g4, g5, g6, g7, g8⟩, hi, hkk⟩ ⟨hR, hokx⟩ hBle hbx
    simp only [List.zip_toArray, List.zip_cons_cons, List.zip_nil_left, List.zip_nil_right, List.foldl_toArray, List.foldl_toArray', List.foldl_cons, List.foldl_nil, List.setIfInBounds_toArray, List.set_cons_zero, List.set_cons_succ]
    obtain ⟨m5, hm5⟩ : ∃ m5, m5 = y.f5.length := ⟨_, rfl⟩
    rw [← hm5] at hR hbx ⊢
    unfold entV
    have hin : i < n9 := by rw [← HLL.out.1]; exact (List.getElem?_eq_some_iff.1 hy).1
    have hrd : rd_T33 L (i : Int) = y := by
      unfold rd_T33
      rw [Int.toNat_natCast, List.getD_eq_getElem?_getD, hy]
      rfl
    have hops : opsOk y := HLL.out.2 y (List.mem_of_getElem? hy)
    obtain ⟨q1, q2, q3⟩ := Kd.S_reads' g3
    rw [← q1] at q3
    obtain ⟨ad, A6, c6, hA, x0, x1, x2, x3, x4, x5, xl, xc⟩ := at_T33 q3 (i : Int) (by omega) (by omega)
    subst hA
    rw [hrd, Int.toNat_natCast] at x0
    rw [hrd, Int.toNat_natCast] at x1
    rw [hrd, Int.toNat_natCast] at x2
    rw [hrd, Int.toNat_natCast] at x3
    rw [hrd, Int.toNat_natCast] at x4
    rw [hrd, ← hm5, Int.toNat_natCast] at x5
    rw [hrd, ← hm5] at xl xc
    obtain ⟨r1, r2, r3⟩ := Kd.R_reads' hR
    rw [← hm5] at r3
    have u0 : W.drew.cell? ⟨B, 0, none⟩ = some (.int .i64 y.f0) := (blk_cell hbx 0).trans rfl
    have u1 : W.drew.cell? ⟨B, 1, none⟩ = some (.int .i64 y.f1) := (blk_cell hbx 1).trans rfl
    have u2 : W.drew.cell? ⟨B, 2, none⟩ = some (.int .i64 y.f2) := (blk_cell hbx 2).trans rfl
    have u3 : W.drew.cell? ⟨B, 3, none⟩ = some (.int .i64 y.f3) := (blk_cell hbx 3).trans rfl
    have u4 : W.drew.cell? ⟨B, 4, none⟩ = some (.int .i64 y.f4) := (blk_cell hbx 4).trans rfl
    have u5 : W.drew.cell? ⟨B, 5, none⟩ = some (.slice A m5 c) := (blk_cell hbx 5).trans rfl
    have k12 : W.drew.cell? ⟨w3.heap.size + 3, 0, none⟩ = some (.int .i64 (i : Int)) := (blk_cell g4.2.2.2.2.2.1 0).trans rfl
    have k9 : W.drew.cell? ⟨w3.heap.size, 0, none⟩ = some (.slice (some ad) n9 c9) := (blk_cell g4.2.2.2.1 0).trans rfl
    have y0 : W.drew.cell? (ad.add (i * 6)) = some (.int .i64 y.f0) := x0
    have y1 : W.drew.cell? ⟨(ad.add (i * 6)).block, (ad.add (i * 6)).off + 1, none⟩ = some (.int .i64 y.f1) := x1
    have y2 : W.drew.cell? ⟨(ad.add (i * 6)).block, (ad.add (i * 6)).off + 2, none⟩ = some (.int .i64 y.f2) := x2
    have y3 : W.drew.cell? ⟨(ad.add (i * 6)).block, (ad.add (i * 6)).off + 3, none⟩ = some (.int .i64 y.f3) := x3
    have y4 : W.drew.cell? ⟨(ad.add (i * 6)).block, (ad.add (i * 6)).off + 4, none⟩ = some (.int .i64 y.f4) := x4
    have y5 : W.drew.cell? ⟨(ad.add (i * 6)).block, (ad.add (i * 6)).off + 5, none⟩ = some (.slice A6 m5 c6) := x5
    have hd16 : decide ((n9 : Int) ≤ (i : Int)) = false := decide_eq_false (by omega)
    have hd16n : decide (n9 ≤ i) = false := decide_eq_false (by omega)
    have G1 := Aside0.mk g1
    have G2 := Aside0.mk g2
    have G3 := Aside0.mk g3
    have G4 := Aside0.mk g4
    have G5 := Aside0.mk g5
    have G6 := Aside0.mk g6
    have G7 := Aside0.mk g7
    have GK := Aside0.mk hkk
    have GT := Aside0.mk hTlt
    have XC := Aside0.mk xc
    have RC := Aside0.mk r3
    have XL := Aside0.mk (And.intro r2 xl)
    have HM5 := Aside0.mk hm5.symm
    have HOPS := Aside0.mk hops
    have HLOOP := Aside0.mk hloop
    have HTL := Aside0.mk hTl
    have hi2 : i ≤ 64 := by omega
    clear g1 g2 g3 g4 g5 g6 g7 g8 hR hokx hbx hrd q1 q2 q3 x0 x1 x2 x3 x4 x5 xl xc r1 r2 r3 hm5 hkk hTlt hT hloop hops hi hy hTl
    gi_wp2
    refine startIn_ l (by rintro ⟨a, w, h⟩; exact h) (by simp) (n := 13) (S := fun w' => w'.cell? ⟨B, 0, none⟩ = some (.int .i64 y.f0) ∧ w'.cell? ⟨B, 1, none⟩ = some (.int .i64 y.f1) ∧ w'.cell? ⟨B, 2, none⟩ = some (.int .i64 y.f2) ∧ w'.cell? ⟨B, 3, none⟩ = some (.int .i64 y.f3) ∧ w'.cell? ⟨B, 4, none⟩ = some (.int .i64 y.f4) ∧ w'.cell? ⟨B, 5, none⟩ = some (.slice A m5 c) ∧ w'.cell? ⟨w3.heap.size + 3, 0, none⟩ = some (.int .i64 (i : Int)) ∧ w'.cell? ⟨w3.heap.size, 0, none⟩ = some (.slice (some ad) n9 c9) ∧ w'.cell? (ad.add (i * 6)) = some (.int .i64 y.f0) ∧ w'.cell? ⟨(ad.add (i * 6)).block, (ad.add (i * 6)).off + 1, none⟩ = some (.int .i64 y.f1) ∧ w'.cell? ⟨(ad.add (i * 6)).block, (ad.add (i * 6)).off + 2, none⟩ = some (.int .i64 y.f2) ∧ w'.cell? ⟨(ad.add (i * 6)).block, (ad.add (i * 6)).off + 3, none⟩ = some (.int .i64 y.f3) ∧ w'.cell? ⟨(ad.add (i * 6)).block, (ad.add (i * 6)).off + 4, none⟩ = some (.int .i64 y.f4) ∧ w'.cell? ⟨(ad.add (i * 6)).block, (ad.add (i * 6)).off + 5, none⟩ = some (.slice A6 m5 c6)) (ds := []) #[false, false, false, false, false, false, false, false, false, false, false, false, false] (by kernel_rfl) rfl rfl ⟨u0, u1, u2, u3, u4, u5, k12, k9, y0, y1, y2, y3, y4, y5⟩ (fun hHeld => ?_)
    refine with_tabW rg3.tab16 rg3.bits16 (fun HT_ HW_ => ?_)
    refine take_ (i := 0) (N := some 61) (v := ?_) (a' := ?_) #[true, false, false, false, false, false, false, false, false, false, false, false, false] rfl rfl (take_ofW HT_.out HW_.out (by kernel_rfl)) (fun _ _ _ h => h) (Or.inl ⟨by rfl, ?_⟩) hHeld ?_ ?_
    rotate_left
    · rintro w' ⟨s0, s1, s2, s3, s4, s5, s6, s7, s8, s9, s10, s11, s12, s13⟩
      go_simp
      with_reducible rfl
    rotate_left
    · simp only [Act.put, List.setIfInBounds_toArray, List.set_cons_zero, List.set_cons_succ, i64_w, i32_w]
      rfl
    refine take_ (i := 1) (N := some 62) (v := ?_) (a' := ?_) #[true, true, false, false, false, false, false, false, false, false, false, false, false] rfl rfl (take_ofW HT_.out HW_.out (by kernel_rfl)) (fun _ _ _ h => h) (Or.inl ⟨by rfl, ?_⟩) hHeld ?_ ?_
    rotate_left
    · rintro w' ⟨s0, s1, s2, s3, s4, s5, s6, s7, s8, s9, s10, s11, s12, s13⟩
      go_simp
      with_reducible rfl
    rotate_left
    · simp only [Act.put, List.setIfInBounds_toArray, List.set_cons_zero, List.set_cons_succ, i64_w, i32_w]
      rfl
    refine pure_ (i := 2) (N := some 63) (v := ?_) (a' := ?_) #[true, true, true, false, false, false, false, false, false, false, false, false, false] rfl rfl (any_of HT_.out (by kernel_rfl)) (fun _ _ _ h => h) (Or.inl ⟨by rfl, ?_⟩) ?_ ?_
    rotate_left
    · intro w'
      go_simp
      with_reducible rfl
    rotate_left
    · simp only [Act.put, List.setIfInBounds_toArray, List.set_cons_zero, List.set_cons_succ, i64_w, i32_w]
      rfl
    refine pure_ (i := 3) (N := some 64) (v := ?_) (a' := ?_) #[true, true, true, true, false, false, false, false, false, false, false, false, false] rfl rfl (any_of HT_.out (by kernel_rfl)) (fun _ _ _ h => h) (Or.inl ⟨by rfl, ?_⟩) ?_ ?_
    rotate_left
    · intro w'
      go_simp
      with_reducible rfl
    rotate_left
    · simp only [Act.put, List.setIfInBounds_toArray, List.set_cons_zero, List.set_cons_succ, i64_w, i32_w]
      rfl
    refine pure_ (i := 4) (N := some 65) (v := ?_) (a' := ?_) #[true, true, true, true, true, false, false, false, false, false, false, false, false] rfl rfl (any_of HT_.out (by kernel_rfl)) (fun _ _ _ h => h) (Or.inl ⟨by rfl, ?_⟩) ?_ ?_
    rotate_left
    · intro w'
      go_simp
      with_reducible rfl
    rotate_left
    · simp only [Act.put, List.setIfInBounds_toArray, List.set_cons_zero, List.set_cons_succ, i64_w, i32_w]
      rfl
    refine take_ (i := 5) (N := some 66) (v := ?_) (a' := ?_) #[true, true, true, true, true, true, false, false, false, false, false, false, false] rfl rfl (take_ofW HT_.out HW_.out (by kernel_rfl)) (fun _ _ _ h => h) (Or.inl ⟨by rfl, ?_⟩) hHeld ?_ ?_
    rotate_left
    · rintro w' ⟨s0, s1, s2, s3, s4, s5, s6, s7, s8, s9, s10, s11, s12, s13⟩
      go_simp
      with_reducible rfl
    rotate_left
    · simp only [Act.put, List.setIfInBounds_toArray, List.set_cons_zero, List.set_cons_succ, i64_w, i32_w]
      rfl
    refine take_ (i := 6) (N := some 67) (v := ?_) (a' := ?_) #[true, true, true, true, true, true, true, false, false, false, false, false, false] rfl rfl (take_ofW HT_.out HW_.out (by kernel_rfl)) (fun _ _ _ h => h) (Or.inl ⟨by rfl, ?_⟩) hHeld ?_ ?_
    rotate_left
    · rintro w' ⟨s0, s1, s2, s3, s4, s5, s6, s7, s8, s9, s10, s11, s12, s13⟩
      go_simp
      with_reducible rfl
    rotate_left
    · simp only [Act.put, List.setIfInBounds_toArray, List.set_cons_zero, List.set_cons_succ, i64_w, i32_w]
      rfl
    refine take_ (i := 7) (N := some 68) (v := ?_) (a' := ?_) #[true, true, true, true, true, true, true, true, false, false, false, false, false] rfl rfl (take_ofW HT_.out HW_.out (by kernel_rfl)) (fun _ _ _ h => h) (Or.inl ⟨by rfl, ?_⟩) hHeld ?_ ?_
    rotate_left
    · rintro w' ⟨s0, s1, s2, s3, s4, s5, s6, s7, s8, s9, s10, s11, s12, s13⟩
      go_simp
      with_reducible rfl
    rotate_left
    · simp only [Act.put, List.setIfInBounds_toArray, List.set_cons_zero, List.set_cons_succ, i64_w, i32_w]
      rfl
    refine pure_ (i := 8) (N := some 69) (v := ?_) (a' := ?_) #[true, true, true, true, true, true, true, true, true, false, false, false, false] rfl rfl (any_of HT_.out (by kernel_rfl)) (fun _ _ _ h => h) (Or.inl ⟨by rfl, ?_⟩) ?_ ?_
    rotate_left
    · intro w'
      go_simp
      with_reducible rfl
    rotate_left
    · simp only [Act.put, List.setIfInBounds_toArray, List.set_cons_zero, List.set_cons_succ, i64_w, i32_w]
      rfl
    refine take_ (i := 9) (N := some 70) (v := ?_) (a' := ?_) #[true, true, true, true, true, true, true, true, true, true, false, false, false] rfl rfl (take_ofW HT_.out HW_.out (by kernel_rfl)) (fun _ _ _ h => h) (Or.inl ⟨by rfl, ?_⟩) hHeld ?_ ?_
    rotate_left
    · rintro w' ⟨s0, s1, s2, s3, s4, s5, s6, s7, s8, s9, s10, s11, s12, s13⟩
      go_simp
      with_reducible rfl
    rotate_left
    · simp only [Act.put, List.setIfInBounds_toArray, List.set_cons_zero, List.set_cons_succ, i64_w, i32_w]
      rfl
    refine one_ (i := 10) (N := some 71) #[true, true, true, true, true, true, true, true, true, true, true, false, false] rfl rfl (one_of HT_.out (by kernel_rfl)) (by decide) (fun K hK => ?_)
    refine goes_ Try.func14 (by kernel_rfl) rfl #[entV y (.slice A m5 c), entV y (.slice A6 m5 c6)] (by rfl) rfl rfl (by simp only [List.map_toArray, List.map_cons, List.map_nil]; rfl) ?_
    with_reducible refine (same_T y A A6 m5 c c6 _ HM5.out HOPS.out (Kd.C_drew RC.out) XL.out.1 (Kd.C_drew XC.out) XL.out.2).mono ?_
    rintro e w6 ⟨rfl, hb6⟩
    have HB6 := Aside0.mk (show Below W.heap.size W w6 from below_then (below_drew (Below.refl _ _)) (Nat.le_refl _) hb6)
    refine ⟨_, rfl, ?_⟩
    refine hK.out _ _ ⟨(pw_cell_below hb6 u0), (pw_cell_below hb6 u1), (pw_cell_below hb6 u2), (pw_cell_below hb6 u3), (pw_cell_below hb6 u4), (pw_cell_below hb6 u5), (pw_cell_below hb6 k12), (pw_cell_below hb6 k9), (pw_cell_below hb6 y0), (pw_cell_below hb6 y1), (pw_cell_below hb6 y2), (pw_cell_below hb6 y3), (pw_cell_below hb6 y4), (pw_cell_below hb6 y5)⟩ (fun hHeld => ?_)
    clear hK K
    refine norm_ (a' := ?_) ?_ ?_
    rotate_left
    · show Act.put _ (some 71) _ = _
      simp only [Act.put, List.setIfInBounds_toArray, List.set_cons_zero, List.set_cons_succ, i64_w, i32_w]
      rfl
    refine pure_ (i := 11) (N := some 72) (v := ?_) (a' := ?_) #[true, true, true, true, true, true, true, true, true, true, true, true, false] rfl rfl (any_of HT_.out (by kernel_rfl)) (fun _ _ _ h => h) (Or.inl ⟨by rfl, ?_⟩) ?_ ?_
    rotate_left
    · intro w'
      go_simp
      with_reducible rfl
    rotate_left
    · simp only [Act.put, List.setIfInBounds_toArray, List.set_cons_zero, List.set_cons_succ, i64_w, i32_w]
      rfl
    refine pure_ (i := 12) (N := some 73) (v := ?_) (a' := ?_) #[true, true, true, true, true, true, true, true, true, true, true, true, true] rfl rfl (any_of HT_.out (by kernel_rfl)) (fun _ _ _ h => h) (Or.inl ⟨by rfl, ?_⟩) ?_ ?_
    rotate_left
    · intro w'
      go_simp
      with_reducible rfl
    rotate_left
    · simp only [Act.put, List.setIfInBounds_toArray, List.set_cons_zero, List.set_cons_succ, i64_w, i32_w]
      rfl
    refine done_ (done_of HT_.out (by kernel_rfl)) ?_
    clear hb6
    have R6 := Aside0.mk (RingIs_below G2.out HB6.out)
    have S6 := Aside0.mk (Kd.S_below G3.out HB6.out)
    have D6 := Aside0.mk (Named_step G4.out (fun j hj _ => HB6.out.block j hj.lt))
    have O6 := Aside0.mk (show ∀ j, okr j → ¬ (T j ∨ okx j) ∧ ¬ okw j ∧ Rowy w6 j from fun j hj => ⟨(G5.out j hj).1, (G5.out j hj).2.1, (G5.out j hj).2.2.same (HB6.out.block j (G5.out j hj).2.2.celly.lt)⟩)
    have P6 := Aside0.mk (show ∀ j, okw j → ¬ (T j ∨ okx j) ∧ Rowy w6 j from fun j hj => ⟨(G6.out j hj).1, (G6.out j hj).2.same (HB6.out.block j (G6.out j hj).2.celly.lt)⟩)
    have B6 := Aside0.mk (show Below w.heap.size w w6 from below_step G7.out HB6.out)
    have T6 := Aside0.mk (show ∀ j, T j → j < w6.heap.size ∧ w6.heap[j]? = W.heap[j]? from fun j hj => ⟨Nat.lt_of_lt_of_le (GT.out j hj) HB6.out.size, HB6.out.block j (GT.out j hj)⟩)
    have c8 : w6.cell? ⟨w2.heap.size, 0, none⟩ = some (.pointer (some ⟨b, 0, none⟩)) := (blk_cell D6.out.2.2.1 0).trans rfl
    have l8 : w2.heap.size < w6.heap.size := blk_lt D6.out.2.2.1
    clear HB6 G2 G3 G4 G5 G6 G7 GT XC RC XL HM5 HOPS u0 u1 u2 u3 u4 u5 k12 k9 y0 y1 y2 y3 y4 y5
    gi_wp2_with fail
    have ha6 : Below w6.heap.size w6 (w6.alloc (.cells #[.int .i64 0] 3)) := below_alloc (Below.refl _ _) _
    have hn14 : (w6.alloc (.cells #[.int .i64 0] 3)).heap[w6.heap.size]? = some (.cells #[.int .i64 0] 3) := heap_alloc_new _ _
    refine ⟨trivial, rfl, CallsIn.inRound l (callsIn_wide.2 ((all_R (p := some b) (RingIs_below R6.out ha6)).mono ?_))⟩
    rintro e w7 ⟨A15, n15, c15, rfl, hn15, hc15, hs15, hb7⟩
    have hb67 : Below w6.heap.size w6 w7 := below_step ha6 hb7
    have hb14 : w7.heap[w6.heap.size]? = some (.cells #[.int .i64 0] 3) := (hb7.block _ (blk_lt hn14)).trans hn14
    have HB67 := Aside0.mk hb67
    have H14 := Aside0.mk hb14
    have HS15 := Aside0.mk (S33_rowy (Kd.S_lower hs15 (by rw [szA]; exact Nat.le_trans B6.out.size (by omega) : w.heap.size ≤ _)))
    have HN15 := Aside0.mk hn15
    have hn15le : n15 ≤ 64 := by obtain ⟨⟨r1, r2, _⟩, _⟩ := R6.out; omega
    have l14 : w6.heap.size < w7.heap.size := blk_lt hb14
    clear ha6 hn14 hs15 hb7 hb67 hb14 hn15 l8 c8
    have c11 : w7.cell? ⟨w3.heap.size + 2, 0, none⟩ = some (.func (.func 33) #[] #[.pointer (some ⟨w3.heap.size + 1, 0, none⟩)]) := pw_cell_below HB67.out ((blk_cell D6.out.2.2.2.2.1 0).trans rfl)
    have l11 : w3.heap.size + 2 < w7.heap.size := Nat.lt_of_lt_of_le (blk_lt D6.out.2.2.2.2.1) HB67.out.size
    gi_wp2
    obtain ⟨w8, hw8⟩ : ∃ w8, w8 = (w7.alloc (.cells #[.slice A15 n15 c15] 25)).alloc (.cells #[.bool true] 4) := ⟨_, rfl⟩
    have hb78 : Below w7.heap.size w7 w8 := by rw [hw8]; exact below_alloc (below_alloc (Below.refl _ _) _) _
    have h15 : w8.heap[w7.heap.size]? = some (.cells #[.slice A15 n15 c15] 25) := by rw [hw8]; exact blkA _ _ _
    have h16 : w8.heap[w7.heap.size + 1]? = some (.cells #[.bool true] 4) := by rw [hw8]; exact blkB _ _ _
    rw [← hw8]
    have hb68 := below_step HB67.out hb78
    have h8z : w8.heap.size = w7.heap.size + 2 := by rw [hw8, szA, szA]
    have K68 := Aside0.mk hb68
    have R8 := Aside0.mk (RingIs_below R6.out hb68)
    have S8 := Aside0.mk (Kd.S_below S6.out hb68)
    have D8 := Aside0.mk (Named_step D6.out (fun j hj _ => hb68.block j hj.lt))
    have O8 := Aside0.mk (show ∀ j, okr j → ¬ (T j ∨ okx j) ∧ ¬ okw j ∧ Rowy w8 j from fun j hj => ⟨(O6.out j hj).1, (O6.out j hj).2.1, (O6.out j hj).2.2.same (hb68.block j (O6.out j hj).2.2.celly.lt)⟩)
    have P8 := Aside0.mk (show ∀ j, okw j → ¬ (T j ∨ okx j) ∧ Rowy w8 j from fun j hj => ⟨(P6.out j hj).1, (P6.out j hj).2.same (hb68.block j (P6.out j hj).2.celly.lt)⟩)
    have B8 := Aside0.mk (show Below w.heap.size w w8 from below_step B6.out hb68)
    have T8 := Aside0.mk (show ∀ j, T j → j < w6.heap.size ∧ w8.heap[j]? = W.heap[j]? from fun j hj => ⟨(T6.out j hj).1, (hb68.block j (T6.out j hj).1).trans (T6.out j hj).2⟩)
    have N15 := Aside0.mk (S33_rowy (Kd.S_below HS15.out hb78))
    have X15 := Aside0.mk (And.intro h15 h16)
    have X14 := Aside0.mk ((hb78.block _ l14).trans H14.out)
    have H8Z := Aside0.mk h8z
    have hl8 : ∃ r, w8.heap[l]? = some (.loop r) := by obtain ⟨r, hr⟩ := HLOOP.out; exact ⟨r, ((T8.out l HTL.out).2).trans hr⟩
    have HL8 := Aside0.mk hl8
    have HF0 := Aside0.mk (Frm.refl w8 (fun j => j = w6.heap.size))
    have l14b : w6.heap.size < w7.heap.size := l14
    clear hw8 hb78 h15 h16 hb68 R6 S6 O6 P6 B6 T6 HS15 H14 HB67 c11 l11 h8z hl8
    refine rangeRingIn_exit (gf := 33) (Bn := w3.heap.size + 1) HL8.out 17 s.l rfl (enters_ Try.func33 (by kernel_rfl) rfl) rfl
      (fun T2 i2 W2 => Frm w8 W2 (fun j => j = w6.heap.size) ∧ W2.heap[w6.heap.size]? = some (.cells #[.int .i64 (i2 : Int)] 3 (0, 0)) ∧ i2 ≤ 2) 2 (fun W2 => Frm w8 W2 (fun j => j = w6.heap.size)) (fun _ => False) ?hI2 ?hIx2 ?h02 ?hT02 ?hit2 ?assign2 ?body2 ?hend2 ?hexit2 ?hrest2
    case hI2 =>
      rintro T2 i2 A2 B2 row T2' ⟨f1, f2, f3⟩ hg hr hT2
      exact ⟨f1.then_ (Frm.of_grown hg (S := fun k => w8.heap.size ≤ k) (fun k e => (hr k e).1)) (fun k h1 h2 => by omega), blk_celly f2 hg hr, f3⟩
    case hIx2 =>
      rintro _ A2 B2 row f1 hg hr
      exact f1.then_ (Frm.of_grown hg (S := fun k => w8.heap.size ≤ k) (fun k e => (hr k e).1)) (fun k h1 h2 => by omega)
    case h02 => exact ⟨HF0.out, X14.out, by omega⟩
    case hT02 => exact fun j hj => hj.elim
    case hit2 =>
      rintro T2 W2 ⟨f1, f2, f3⟩
      have h14ne : ∀ j, Rowy w8 j → j ≠ w6.heap.size := fun j hj => hj.ne X14.out (by decide)
      refine it33 _ (some b) s w.heap.size okr W2 ?_ (RingIs_frm R8.out f1 (fun k hk e => h14ne k (O8.out k hk).2.2 e))
      have := f1.blk D8.out.2.2.2.2.2.2 (fun e => by have := blk_lt D8.out.2.2.2.2.2.2; have := X14.out; rw [← e] at this; rw [D8.out.2.2.2.2.2.2] at this; injection this with this; injection this with _ h; cases h)
      exact (blk_cell this 0).trans rfl
    case assign2 =>
      intro l2 y A c W K hK
      simp only [List.zip_toArray, List.zip_cons_cons, List.zip_nil_left, List.zip_nil_right, List.foldl_toArray, List.foldl_toArray', List.foldl_cons, List.foldl_nil, List.setIfInBounds_toArray, List.set_cons_zero, List.set_cons_succ] at hK ⊢
      refine region_round l2 (by rintro ⟨a, w, h⟩; exact h) (by simp) ?_
      obtain ⟨m5, hm5⟩ : ∃ m5, m5 = y.f5.length := ⟨_, rfl⟩
      rw [← hm5] at hK ⊢
      have HK := Aside0.mk hK
      have HNEW2 := Aside0.mk (heap_alloc_new W (.cells zeroCells 33))
      clear hK hm5
      unfold entV at *
      go_wp2_with (with_reducible refine stop_store rfl ?_)
      refine wpList_store rfl rfl 33 (.tmp 17) (.tmp 80) rfl (.agg #[.int .i64 y.f0, .int .i64 y.f1, .int .i64 y.f2, .int .i64 y.f3, .int .i64 y.f4, .slice A m5 c]) (cells6 y (.slice A m5 c)) rfl rfl HNEW2.out rfl size33 (by show 0 + 6 ≤ 6; omega) (by simp [cells6, Value.oneCell']) ?_
      rw [alloc_full (w := W) (cur := zeroCells) (e := 33) (cells6 y (.slice A m5 c)) rfl]
      exact wpList_nil HK.out
    case body2 =>
      rintro T2 l2 i2 f Af cf okf Bf W2 hT2 hT2lt hT2l hle2 hloop2 hf ⟨f1, f2, f3⟩ ⟨hRf, hokf⟩ hB2le hbx2
      simp only [List.zip_toArray, List.zip_cons_cons, List.zip_nil_left, List.zip_nil_right, List.foldl_toArray, List.foldl_toArray', List.foldl_cons, List.foldl_nil, List.setIfInBounds_toArray, List.set_cons_zero, List.set_cons_succ]
      obtain ⟨m6, hm6⟩ : ∃ m6, m6 = f.f5.length := ⟨_, rfl⟩
      rw [← hm6] at hRf hbx2 ⊢
      unfold entV
      have hin2 : i2 < n15 := by rw [HN15.out]; exact (List.getElem?_eq_some_iff.1 hf).1
      have hrd : rd_T33 s.l (i2 : Int) = f := by
        unfold rd_T33
        rw [Int.toNat_natCast, List.getD_eq_getElem?_getD, hf]
        rfl
      have hops : opsOk f := by obtain ⟨⟨_, _, _, _, _, r6⟩, _⟩ := R8.out; exact r6 f (List.mem_of_getElem? hf)
      have hS15 := S_frm N15.out f1 (fun k hk e => hk.2.ne X14.out (by decide) e)
      obtain ⟨q1, q2, q3⟩ := Kd.S_reads' hS15
      rw [← q1] at q3
      obtain ⟨ad2, A7, c7, hA, x0, x1, x2, x3, x4, x5, xl, xc⟩ := at_T33 q3 (i2 : Int) (by omega) (by omega)
      subst hA
      rw [hrd, Int.toNat_natCast] at x0
      rw [hrd, Int.toNat_natCast] at x1
      rw [hrd, Int.toNat_natCast] at x2
      rw [hrd, Int.toNat_natCast] at x3
      rw [hrd, Int.toNat_natCast] at x4
      rw [hrd, ← hm6, Int.toNat_natCast] at x5
      rw [hrd, ← hm6] at xl xc
      obtain ⟨r1, r2, r3⟩ := Kd.R_reads' hRf
      rw [← hm6] at r3
      have u0 : W2.drew.cell? ⟨Bf, 0, none⟩ = some (.int .i64 f.f0) := (blk_cell hbx2 0).trans rfl
      have u1 : W2.drew.cell? ⟨Bf, 1, none⟩ = some (.int .i64 f.f1) := (blk_cell hbx2 1).trans rfl
      have u2 : W2.drew.cell? ⟨Bf, 2, none⟩ = some (.int .i64 f.f2) := (blk_cell hbx2 2).trans rfl
      have u3 : W2.drew.cell? ⟨Bf, 3, none⟩ = some (.int .i64 f.f3) := (blk_cell hbx2 3).trans rfl
      have u4 : W2.drew.cell? ⟨Bf, 4, none⟩ = some (.int .i64 f.f4) := (blk_cell hbx2 4).trans rfl
      have u5 : W2.drew.cell? ⟨Bf, 5, none⟩ = some (.slice Af m6 cf) := (blk_cell hbx2 5).trans rfl
      have k14 : W2.drew.cell? ⟨w6.heap.size, 0, none⟩ = some (.int .i64 (i2 : Int)) := (blk_cell f2 0).trans rfl
      have k16 : W2.drew.cell? ⟨w7.heap.size + 1, 0, none⟩ = some (.bool true) := (blk_cell (f1.blk X15.out.2 (by omega)) 0).trans rfl
      have k15 : W2.drew.cell? ⟨w7.heap.size, 0, none⟩ = some (.slice (some ad2) n15 c15) := (blk_cell (f1.blk X15.out.1 (by omega)) 0).trans rfl
      have y0 : W2.drew.cell? (ad2.add (i2 * 6)) = some (.int .i64 f.f0) := x0
      have y1 : W2.drew.cell? ⟨(ad2.add (i2 * 6)).block, (ad2.add (i2 * 6)).off + 1, none⟩ = some (.int .i64 f.f1) := x1
      have y2 : W2.drew.cell? ⟨(ad2.add (i2 * 6)).block, (ad2.add (i2 * 6)).off + 2, none⟩ = some (.int .i64 f.f2) := x2
      have y3 : W2.drew.cell? ⟨(ad2.add (i2 * 6)).block, (ad2.add (i2 * 6)).off + 3, none⟩ = some (.int .i64 f.f3) := x3
      have y4 : W2.drew.cell? ⟨(ad2.add (i2 * 6)).block, (ad2.add (i2 * 6)).off + 4, none⟩ = some (.int .i64 f.f4) := x4
      have y5 : W2.drew.cell? ⟨(ad2.add (i2 * 6)).block, (ad2.add (i2 * 6)).off + 5, none⟩ = some (.slice A7 m6 c7) := x5
      have hd22 : decide ((n15 : Int) ≤ (i2 : Int)) = false := decide_eq_false (by omega)
      have hd22n : decide (n15 ≤ i2) = false := decide_eq_false (by omega)
      have F1 := Aside0.mk f1
      have F2 := Aside0.mk f2
      have GT2 := Aside0.mk hT2lt
      have XC := Aside0.mk xc
      have RC := Aside0.mk r3
      have XL := Aside0.mk (And.intro r2 xl)
      have HM6 := Aside0.mk hm6.symm
      have HOPS2 := Aside0.mk hops
      clear f1 f2 hRf hokf hbx2 hrd hS15 q1 q2 q3 x0 x1 x2 x3 x4 x5 xl xc r1 r2 r3 hm6 hT2lt hT2 hloop2 hops hf hT2l
      gi_wp2
      refine startIn_ l2 (by rintro ⟨a, w, h⟩; exact h) (by simp) (n := 17) (S := fun w' => w'.cell? ⟨Bf, 0, none⟩ = some (.int .i64 f.f0) ∧ w'.cell? ⟨Bf, 1, none⟩ = some (.int .i64 f.f1) ∧ w'.cell? ⟨Bf, 2, none⟩ = some (.int .i64 f.f2) ∧ w'.cell? ⟨Bf, 3, none⟩ = some (.int .i64 f.f3) ∧ w'.cell? ⟨Bf, 4, none⟩ = some (.int .i64 f.f4) ∧ w'.cell? ⟨Bf, 5, none⟩ = some (.slice Af m6 cf) ∧ w'.cell? ⟨w6.heap.size, 0, none⟩ = some (.int .i64 (i2 : Int)) ∧ w'.cell? ⟨w7.heap.size + 1, 0, none⟩ = some (.bool true) ∧ w'.cell? ⟨w7.heap.size, 0, none⟩ = some (.slice (some ad2) n15 c15) ∧ w'.cell? (ad2.add (i2 * 6)) = some (.int .i64 f.f0) ∧ w'.cell? ⟨(ad2.add (i2 * 6)).block, (ad2.add (i2 * 6)).off + 1, none⟩ = some (.int .i64 f.f1) ∧ w'.cell? ⟨(ad2.add (i2 * 6)).block, (ad2.add (i2 * 6)).off + 2, none⟩ = some (.int .i64 f.f2) ∧ w'.cell? ⟨(ad2.add (i2 * 6)).block, (ad2.add (i2 * 6)).off + 3, none⟩ = some (.int .i64 f.f3) ∧ w'.cell? ⟨(ad2.add (i2 * 6)).block, (ad2.add (i2 * 6)).off + 4, none⟩ = some (.int .i64 f.f4) ∧ w'.cell? ⟨(ad2.add (i2 * 6)).block, (ad2.add (i2 * 6)).off + 5, none⟩ = some (.slice A7 m6 c7)) (ds := []) #[false, false, false, false, false, false, false, false, false, false, false, false, false, false, false, false, false] (by kernel_rfl) rfl rfl ⟨u0, u1, u2, u3, u4, u5, k14, k16, k15, y0, y1, y2, y3, y4, y5⟩ (fun hHeld => ?_)
      refine with_tabW rg3.tab22 rg3.bits22 (fun HT_ HW_ => ?_)
      refine take_ (i := 0) (N := some 81) (v := ?_) (a' := ?_) #[true, false, false, false, false, false, false, false, false, false, false, false, false, false, false, false, false] rfl rfl (take_ofW HT_.out HW_.out (by kernel_rfl)) (fun _ _ _ h => h) (Or.inl ⟨by rfl, ?_⟩) hHeld ?_ ?_
      rotate_left
      · rintro w' ⟨s0, s1, s2, s3, s4, s5, s6, s7, s8, s9, s10, s11, s12, s13, s14⟩
        go_simp
        with_reducible rfl
      rotate_left
      · simp only [Act.put, List.setIfInBounds_toArray, List.set_cons_zero, List.set_cons_succ, i64_w, i32_w]
        rfl
      refine pure_ (i := 1) (N := some 82) (v := ?_) (a' := ?_) #[true, true, false, false, false, false, false, false, false, false, false, false, false, false, false, false, false] rfl rfl (any_of HT_.out (by kernel_rfl)) (fun _ _ _ h => h) (Or.inl ⟨by rfl, ?_⟩) ?_ ?_
      rotate_left
      · intro w'
        go_simp
        with_reducible rfl
      rotate_left
      · simp only [Act.put, List.setIfInBounds_toArray, List.set_cons_zero, List.set_cons_succ, i64_w, i32_w]
        rfl
      refine pure_ (i := 2) (N := some 83) (v := ?_) (a' := ?_) #[true, true, true, false, false, false, false, false, false, false, false, false, false, false, false, false, false] rfl rfl (any_of HT_.out (by kernel_rfl)) (fun _ _ _ h => h) (Or.inl ⟨by rfl, ?_⟩) ?_ ?_
      rotate_left
      · intro w'
        go_simp
        with_reducible rfl
      rotate_left
      · simp only [Act.put, List.setIfInBounds_toArray, List.set_cons_zero, List.set_cons_succ, i64_w, i32_w]
        rfl
      refine take_ (i := 3) (N := some 84) (v := ?_) (a' := ?_) #[true, true, true, true, false, false, false, false, false, false, false, false, false, false, false, false, false] rfl rfl (take_ofW HT_.out HW_.out (by kernel_rfl)) (fun _ _ _ h => h) (Or.inl ⟨by rfl, ?_⟩) hHeld ?_ ?_
      rotate_left
      · rintro w' ⟨s0, s1, s2, s3, s4, s5, s6, s7, s8, s9, s10, s11, s12, s13, s14⟩
        go_simp
        with_reducible rfl
      rotate_left
      · simp only [Act.put, List.setIfInBounds_toArray, List.set_cons_zero, List.set_cons_succ, i64_w, i32_w]
        rfl
      refine take_ (i := 4) (N := some 85) (v := ?_) (a' := ?_) #[true, true, true, true, true, false, false, false, false, false, false, false, false, false, false, false, false] rfl rfl (take_ofW HT_.out HW_.out (by kernel_rfl)) (fun _ _ _ h => h) (Or.inl ⟨by rfl, ?_⟩) hHeld ?_ ?_
      rotate_left
      · rintro w' ⟨s0, s1, s2, s3, s4, s5, s6, s7, s8, s9, s10, s11, s12, s13, s14⟩
        go_simp
        with_reducible rfl
      rotate_left
      · simp only [Act.put, List.setIfInBounds_toArray, List.set_cons_zero, List.set_cons_succ, i64_w, i32_w]
        rfl
      refine pure_ (i := 5) (N := some 86) (v := ?_) (a' := ?_) #[true, true, true, true, true, true, false, false, false, false, false, false, false, false, false, false, false] rfl rfl (any_of HT_.out (by kernel_rfl)) (fun _ _ _ h => h) (Or.inl ⟨by rfl, ?_⟩) ?_ ?_
      rotate_left
      · intro w'
        go_simp
        with_reducible rfl
      rotate_left
      · simp only [Act.put, List.setIfInBounds_toArray, List.set_cons_zero, List.set_cons_succ, i64_w, i32_w]
        rfl
      refine pure_ (i := 6) (N := some 87) (v := ?_) (a' := ?_) #[true, true, true, true, true, true, true, false, false, false, false, false, false, false, false, false, false] rfl rfl (any_of HT_.out (by kernel_rfl)) (fun _ _ _ h => h) (Or.inl ⟨by rfl, ?_⟩) ?_ ?_
      rotate_left
      · intro w'
        go_simp
        with_reducible rfl
      rotate_left
      · simp only [Act.put, List.setIfInBounds_toArray, List.set_cons_zero, List.set_cons_succ, i64_w, i32_w]
        rfl
      refine pure_ (i := 7) (N := some 88) (v := ?_) (a' := ?_) #[true, true, true, true, true, true, true, true, false, false, false, false, false, false, false, false, false] rfl rfl (any_of HT_.out (by kernel_rfl)) (fun _ _ _ h => h) (Or.inl ⟨by rfl, ?_⟩) ?_ ?_
      rotate_left
      · intro w'
        go_simp
        with_reducible rfl
      rotate_left
      · simp only [Act.put, List.setIfInBounds_toArray, List.set_cons_zero, List.set_cons_succ, i64_w, i32_w]
        rfl
      refine pure_ (i := 8) (N := some 89) (v := ?_) (a' := ?_) #[true, true, true, true, true, true, true, true, true, false, false, false, false, false, false, false, false] rfl rfl (any_of HT_.out (by kernel_rfl)) (fun _ _ _ h => h) (Or.inl ⟨by rfl, ?_⟩) ?_ ?_
      rotate_left
      · intro w'
        go_simp
        with_reducible rfl
      rotate_left
      · simp only [Act.put, List.setIfInBounds_toArray, List.set_cons_zero, List.set_cons_succ, i64_w, i32_w]
        rfl
      refine take_ (i := 9) (N := some 90) (v := ?_) (a' := ?_) #[true, true, true, true, true, true, true, true, true, true, false, false, false, false, false, false, false] rfl rfl (take_ofW HT_.out HW_.out (by kernel_rfl)) (fun _ _ _ h => h) (Or.inl ⟨by rfl, ?_⟩) hHeld ?_ ?_
      rotate_left
      · rintro w' ⟨s0, s1, s2, s3, s4, s5, s6, s7, s8, s9, s10, s11, s12, s13, s14⟩
        go_simp
        with_reducible rfl
      rotate_left
      · simp only [Act.put, List.setIfInBounds_toArray, List.set_cons_zero, List.set_cons_succ, i64_w, i32_w]
        rfl
      refine take_ (i := 10) (N := some 91) (v := ?_) (a' := ?_) #[true, true, true, true, true, true, true, true, true, true, true, false, false, false, false, false, false] rfl rfl (take_ofW HT_.out HW_.out (by kernel_rfl)) (fun _ _ _ h => h) (Or.inl ⟨by rfl, ?_⟩) hHeld ?_ ?_
      rotate_left
      · rintro w' ⟨s0, s1, s2, s3, s4, s5, s6, s7, s8, s9, s10, s11, s12, s13, s14⟩
        go_simp
        with_reducible rfl
      rotate_left
      · simp only [Act.put, List.setIfInBounds_toArray, List.set_cons_zero, List.set_cons_succ, i64_w, i32_w]
        rfl
      refine take_ (i := 11) (N := some 92) (v := ?_) (a' := ?_) #[true, true, true, true, true, true, true, true, true, true, true, true, false, false, false, false, false] rfl rfl (take_ofW HT_.out HW_.out (by kernel_rfl)) (fun _ _ _ h => h) (Or.inl ⟨by rfl, ?_⟩) hHeld ?_ ?_
      rotate_left
      · rintro w' ⟨s0, s1, s2, s3, s4, s5, s6, s7, s8, s9, s10, s11, s12, s13, s14⟩
        go_simp
        with_reducible rfl
      rotate_left
      · simp only [Act.put, List.setIfInBounds_toArray, List.set_cons_zero, List.set_cons_succ, i64_w, i32_w]
        rfl
      refine pure_ (i := 12) (N := some 93) (v := ?_) (a' := ?_) #[true, true, true, true, true, true, true, true, true, true, true, true, true, false, false, false, false] rfl rfl (any_of HT_.out (by kernel_rfl)) (fun _ _ _ h => h) (Or.inl ⟨by rfl, ?_⟩) ?_ ?_
      rotate_left
      · intro w'
        go_simp
        with_reducible rfl
      rotate_left
      · simp only [Act.put, List.setIfInBounds_toArray, List.set_cons_zero, List.set_cons_succ, i64_w, i32_w]
        rfl
      refine take_ (i := 13) (N := some 94) (v := ?_) (a' := ?_) #[true, true, true, true, true, true, true, true, true, true, true, true, true, true, false, false, false] rfl rfl (take_ofW HT_.out HW_.out (by kernel_rfl)) (fun _ _ _ h => h) (Or.inl ⟨by rfl, ?_⟩) hHeld ?_ ?_
      rotate_left
      · rintro w' ⟨s0, s1, s2, s3, s4, s5, s6, s7, s8, s9, s10, s11, s12, s13, s14⟩
        go_simp
        with_reducible rfl
      rotate_left
      · simp only [Act.put, List.setIfInBounds_toArray, List.set_cons_zero, List.set_cons_succ, i64_w, i32_w]
        rfl
      refine one_ (i := 14) (N := some 95) #[true, true, true, true, true, true, true, true, true, true, true, true, true, true, true, false, false] rfl rfl (one_of HT_.out (by kernel_rfl)) (by decide) (fun K hK => ?_)
      refine goes_ Try.func14 (by kernel_rfl) rfl #[entV f (.slice Af m6 cf), entV f (.slice A7 m6 c7)] (by rfl) rfl rfl (by simp only [List.map_toArray, List.map_cons, List.map_nil]; rfl) ?_
      with_reducible refine (same_T f Af A7 m6 cf c7 _ HM6.out HOPS2.out (Kd.C_drew RC.out) XL.out.1 (Kd.C_drew XC.out) XL.out.2).mono ?_
      rintro e w9 ⟨rfl, hb9⟩
      have HB9 := Aside0.mk (show Below W2.heap.size W2 w9 from below_then (below_drew (Below.refl _ _)) (Nat.le_refl _) hb9)
      refine ⟨_, rfl, ?_⟩
      refine hK.out _ _ ⟨(pw_cell_below hb9 u0), (pw_cell_below hb9 u1), (pw_cell_below hb9 u2), (pw_cell_below hb9 u3), (pw_cell_below hb9 u4), (pw_cell_below hb9 u5), (pw_cell_below hb9 k14), (pw_cell_below hb9 k16), (pw_cell_below hb9 k15), (pw_cell_below hb9 y0), (pw_cell_below hb9 y1), (pw_cell_below hb9 y2), (pw_cell_below hb9 y3), (pw_cell_below hb9 y4), (pw_cell_below hb9 y5)⟩ (fun hHeld => ?_)
      clear hK K
      refine norm_ (a' := ?_) ?_ ?_
      rotate_left
      · show Act.put _ (some 95) _ = _
        simp only [Act.put, List.setIfInBounds_toArray, List.set_cons_zero, List.set_cons_succ, i64_w, i32_w]
        rfl
      refine pure_ (i := 15) (N := some 96) (v := ?_) (a' := ?_) #[true, true, true, true, true, true, true, true, true, true, true, true, true, true, true, true, false] rfl rfl (any_of HT_.out (by kernel_rfl)) (fun _ _ _ h => h) (Or.inl ⟨by rfl, ?_⟩) ?_ ?_
      rotate_left
      · intro w'
        go_simp
        with_reducible rfl
      rotate_left
      · simp only [Act.put, List.setIfInBounds_toArray, List.set_cons_zero, List.set_cons_succ, i64_w, i32_w]
        rfl
      refine pure_ (i := 16) (N := some 97) (v := ?_) (a' := ?_) #[true, true, true, true, true, true, true, true, true, true, true, true, true, true, true, true, true] rfl rfl (any_of HT_.out (by kernel_rfl)) (fun _ _ _ h => h) (Or.inl ⟨by rfl, ?_⟩) ?_ ?_
      rotate_left
      · intro w'
        go_simp
        with_reducible rfl
      rotate_left
      · simp only [Act.put, List.setIfInBounds_toArray, List.set_cons_zero, List.set_cons_succ, i64_w, i32_w]
        rfl
      refine done_ (done_of HT_.out (by kernel_rfl)) ?_
      have hb14 : w9.heap[w6.heap.size]? = some (.cells #[.int .i64 (i2 : Int)] 3 (0, 0)) := (HB9.out.block _ (blk_lt F2.out)).trans F2.out
      have c14 : w9.cell? ⟨w6.heap.size, 0, none⟩ = some (.int .i64 (i2 : Int)) := (blk_cell hb14 0).trans rfl
      have z14 : w9.frozen? ⟨w6.heap.size, 0, none⟩ = false := blk_frozen hb14 0
      have C14 := Aside0.mk hb14
      clear hb9 u0 u1 u2 u3 u4 u5 k14 k15 k16 y0 y1 y2 y3 y4 y5 hb14
      have hF10 : ∀ v, Frm w8 (w9.setCell ⟨w6.heap.size, 0, none⟩ v) (fun j => j = w6.heap.size) := fun v => Frm.set_ (p := ⟨w6.heap.size, 0, none⟩) (F1.out.step HB9.out) (.inl rfl) v
      have hT10 : ∀ v j, T2 j ∧ w8.heap.size ≤ j → (w9.setCell ⟨w6.heap.size, 0, none⟩ v).heap[j]? = W2.heap[j]? := fun v j hj => (Below.heap_setCell _ ⟨w6.heap.size, 0, none⟩ _ j (by show j ≠ w6.heap.size; have := H8Z.out; omega)).trans (HB9.out.block j (GT2.out j hj.1))
      have HF10 := Aside0.mk hF10
      have HT10 := Aside0.mk hT10
      clear hF10 hT10
      by_cases h2i : 2 ≤ i2
      · gi_wp2
        exact ⟨HT10.out _, rfl, HF10.out _⟩
      · gi_wp2
        refine ⟨HT10.out _, HF10.out _, ?_, by omega⟩
        simpa using blk_set C14.out 0 (.int .i64 ((i2 : Int) + 1))
    case hend2 => exact fun W2 h => h.1
    case hexit2 =>
      intro W2 h
      refine wpIn_exit ?_
      simp only [Exit.inBlock] at h ⊢
      simpa using h
    case hrest2 =>
      rintro W2 hf2
      obtain ⟨gd1, gd2, gd3, gd4, gd5⟩ := G1.out
      have hb8 := (O8.out b (by obtain ⟨_, E, ⟨_, h, _⟩, _⟩ := R8.out; exact h)).2.2
      have hbw : w.heap.size ≤ b := by obtain ⟨_, E, ⟨h, _⟩, _⟩ := R8.out; exact h
      have hb12 : ∀ {g t : Nat} {cs : Array Value} {W' : World}, w8.heap[g]? = some (.cells cs t (0, 0)) → t ≠ 66 ∧ t ≠ 55 ∧ t ≠ 33 → g ≠ b := fun hg ht e => hb8.ne hg ht e.symm
      have RW := Aside0.mk (RingIs_mono (ok' := fun k => okr k ∨ W2.heap.size ≤ k) (RingIs_frm R8.out hf2 (fun k hk e => (O8.out k hk).2.2.ne X14.out (by decide) e)) (fun k hk => .inl hk))
      have DW := Aside0.mk (Named_step D6.out (fun j hj _ => (hf2.block j (Nat.lt_of_lt_of_le hj.lt K68.out.size) (fun e => by have := hj.lt; omega)).trans (K68.out.block j hj.lt)))
      have HF2 := Aside0.mk hf2
      have hla : (s.la : Int) ≤ 2147483647 := by omega
      have c8 : W2.cell? ⟨w2.heap.size, 0, none⟩ = some (.pointer (some ⟨b, 0, none⟩)) := (blk_cell DW.out.2.2.1 0).trans rfl
      have HBB8 := Aside0.mk hb8
      have HBW := Aside0.mk hbw
      have HLA := Aside0.mk (show s.la ≤ 1000 by omega)
      clear gd1 gd2 gd3 gd4 gd5 hb12 hf2 hb8 hbw
      gi_wp2_with fail
      refine ⟨trivial, rfl, CallsIn.inRound l (callsIn_wide.2 ((last_R (p := some b) RW.out).mono ?_))⟩
      rintro e w9 ⟨rfl, ⟨⟨nq, rfl⟩⟩⟩
      gi_wp2_with fail
      refine ⟨trivial, rfl, CallsIn.inRound l (callsIn_wide.2 ((append_R (p := some b) (RingIs_below RW.out (pw_below_drewN (Below.refl _ _) nq)) (nxt s) none 0 0 rfl (Live_nil _ _) (Nat.zero_le _) (fun k hk => .inr hk)).mono ?_))⟩
      rintro e w10 ⟨rfl, hr10, hf10⟩
      have HR10 := Aside0.mk hr10
      have HF10 := Aside0.mk (show Frm W2 w10 (own1 (some b)) from ((Frm.refl W2 _).drewN nq).then_ hf10 (fun k hk _ => hk))
      have d8 : w10.cell? ⟨w2.heap.size, 0, none⟩ = some (.pointer (some ⟨b, 0, none⟩)) := (blk_cell (HF10.out.blk DW.out.2.2.1 (fun e => by
        have h1 : b = w2.heap.size := Option.some.inj e
        obtain ⟨_, E, ⟨_, _, C, h, _⟩, _⟩ := RW.out
        rw [h1, DW.out.2.2.1] at h
        injection h with h
        injection h with _ h
        cases h)) 0).trans rfl
      clear hr10 hf10 c8
      gi_wp2_with fail
      refine ⟨trivial, rfl, CallsIn.inRound l (callsIn_wide.2 ((hold_R (p := some b) ((s.la : Int) + 1) HR10.out).mono ?_))⟩
      rintro e w11 ⟨rfl, hr11, hf11⟩
      have HR11 := Aside0.mk (show RingIs w11 w.heap.size (fun k => okr k ∨ W2.heap.size ≤ k) (some b) (stepS s) from hr11)
      have HF11 := Aside0.mk (show Frm W2 w11 (own1 (some b)) from HF10.out.then_ hf11 (fun k hk _ => hk))
      have hnb : ∀ {g t : Nat} {cs : Array Value}, W2.heap[g]? = some (.cells cs t (0, 0)) → t ≠ 66 → w11.heap[g]? = some (.cells cs t (0, 0)) := fun {g t cs} hg ht => HF11.out.blk hg (fun e => by
        have h1 : b = g := Option.some.inj e
        obtain ⟨_, E, ⟨_, _, C, h, _⟩, _⟩ := RW.out
        rw [h1, hg] at h
        injection h with h
        injection h with _ h
        exact ht h)
      have D11 := Aside0.mk (show Named w.heap.size kk w2.heap.size w3.heap.size (w3.heap.size + 2) (w3.heap.size + 3) (w3.heap.size + 1) b (.slice (some ad) n9 c9) i w11 from ⟨hnb DW.out.1 (by decide), hnb DW.out.2.1 (by decide), hnb DW.out.2.2.1 (by decide), hnb DW.out.2.2.2.1 (by decide), hnb DW.out.2.2.2.2.1 (by decide), hnb DW.out.2.2.2.2.2.1 (by decide), hnb DW.out.2.2.2.2.2.2 (by decide)⟩)
      have c12 : w11.cell? ⟨w3.heap.size + 3, 0, none⟩ = some (.int .i64 (i : Int)) := (blk_cell D11.out.2.2.2.2.2.1 0).trans rfl
      have z12 : w11.frozen? ⟨w3.heap.size + 3, 0, none⟩ = false := blk_frozen D11.out.2.2.2.2.2.1 0
      have c0 : w11.cell? ⟨w.heap.size, 0, none⟩ = some (.int .i64 kk) := (blk_cell D11.out.1 0).trans rfl
      have hne0 : ¬ (w3.heap.size + 3 = w.heap.size) := by omega
      have hfr8 : Frm w8 w11 (fun j => j = w6.heap.size ∨ j = b) := (HF2.out.mono (fun k hk _ => .inl hk)).then_ HF11.out (fun k hk _ => .inr (Option.some.inj hk).symm)
      have hRY := Ring_rowy HR11.out
      have h12b : ∀ {j : Nat} {W' : World}, Rowy w11 j → j ≠ w3.heap.size + 3 := fun hj => hj.ne D11.out.2.2.2.2.2.1 (by decide)
      have hokb : okr b := by obtain ⟨_, E, ⟨_, h, _⟩, _⟩ := R8.out; exact h
      have h8sz : w8.heap.size ≤ W2.heap.size := HF2.out.size
      have hTw : ∀ j, T j → j ≠ w6.heap.size ∧ j ≠ b := fun j hj => ⟨fun e => by have := (T8.out j hj).1; omega, fun e => (O8.out b hokb).1 (.inl (e ▸ hj))⟩
      have hokw11 : ∀ j, okw j → w11.heap[j]? = w8.heap[j]? := fun j hj => hfr8.block j ((P8.out j hj).2.celly.lt) (fun h => h.elim (fun e => (P8.out j hj).2.ne X14.out (by decide) e) (fun e => (O8.out b hokb).2.1 (e ▸ hj)))
      have hni : n + i ≤ 100000 := by omega
      have hM : ∀ v, v = Value.int .i64 ((i + 1 : Nat) : Int) → MayI w n room b kk w2.heap.size w3.heap.size (w3.heap.size + 2) (w3.heap.size + 3) (w3.heap.size + 1) (some ad) n9 c9 L T (i + 1) (w11.setCell ⟨w3.heap.size + 3, 0, none⟩ v) := by
        rintro v rfl
        have hset : ∀ j, j ≠ w3.heap.size + 3 → (w11.setCell ⟨w3.heap.size + 3, 0, none⟩ (Value.int .i64 ((i + 1 : Nat) : Int))).heap[j]? = w11.heap[j]? := fun j hj => Below.heap_setCell _ ⟨w3.heap.size + 3, 0, none⟩ _ j hj
        have hnm : ∀ {g t : Nat} {cs : Array Value}, w11.heap[g]? = some (.cells cs t (0, 0)) → g ≠ w3.heap.size + 3 → (w11.setCell ⟨w3.heap.size + 3, 0, none⟩ (Value.int .i64 ((i + 1 : Nat) : Int))).heap[g]? = some (.cells cs t (0, 0)) := fun hg hne => (hset _ hne).trans hg
        have h23 : w2.heap.size < w3.heap.size + 3 := by
          have h1 := blk_lt N3.out.2.2
          omega
        refine ⟨stepS s, fun k => (okr k ∨ W2.heap.size ≤ k) ∧ Rowy w11 k, okw, Good_step (m := n + i) h1 hni G1.out, RingIs_step hRY (fun j hj _ => hset j (h12b (W' := w11) hj.2)), Kd.S_step (Kd.S_step S8.out (fun j hj _ => hokw11 j hj)) (fun j hj _ => hset j (h12b (W' := w11) ((P8.out j hj).2.same (hokw11 j hj)))),
          ⟨hnm D11.out.1 (by omega), hnm D11.out.2.1 (by have := HB3.out.size; omega), hnm D11.out.2.2.1 (by omega), hnm D11.out.2.2.2.1 (by omega), hnm D11.out.2.2.2.2.1 (by omega), by simpa using blk_set D11.out.2.2.2.2.2.1 0 (.int .i64 ((i + 1 : Nat) : Int)), hnm D11.out.2.2.2.2.2.2 (by omega)⟩, ?_, ?_, ?_, fun h => by omega⟩
        · intro j hj
          refine ⟨fun ht => ?_, fun hw => ?_, hj.2.same (hset j (h12b (W' := w11) hj.2))⟩
          · rcases hj.1 with h | h
            · exact (O8.out j h).1 (.inl ht)
            · have h3 := (T8.out j ht).1
              have h5 := H8Z.out
              omega
          · rcases hj.1 with h | h
            · exact (O8.out j h).2.1 hw
            · have h3 := (P8.out j hw).2.celly.lt
              omega
        · intro j hj
          have h3 := (P8.out j hj).2.same (hokw11 j hj)
          exact ⟨fun ht => (P8.out j hj).1 (.inl ht), h3.same (hset j (h12b (W' := w11) h3))⟩
        · have hw6 : w.heap.size ≤ w6.heap.size := by have := B8.out.size; have := G1.out; exact Nat.le_trans (Nat.le_of_lt (blk_lt D6.out.1)) (Nat.le_refl _)
          have h8w : Below w.heap.size w w11 := by
            refine ⟨hfr8.os.trans B8.out.os, hfr8.tape.trans B8.out.tape, hfr8.output.trans B8.out.output, Nat.le_trans B8.out.size hfr8.size, fun j hj => (hfr8.block j (Nat.lt_of_lt_of_le hj B8.out.size) (fun h => ?_)).trans (B8.out.block j hj)⟩
            rcases h with h | h
            · omega
            · have := HBW.out
              omega
          exact below_set (g := w3.heap.size + 3) (j := 0) h8w (by omega)
      have hTp : ∀ v j, T j ∧ w5.heap.size ≤ j → (w11.setCell ⟨w3.heap.size + 3, 0, none⟩ v).heap[j]? = W.heap[j]? := by
        intro v j hj
        have h3 := hTw j hj.1
        exact (Below.heap_setCell _ ⟨w3.heap.size + 3, 0, none⟩ _ j (by show j ≠ w3.heap.size + 3; omega)).trans ((hfr8.block j (Nat.lt_of_lt_of_le (T8.out j hj.1).1 K68.out.size) (fun h => h.elim h3.1 h3.2)).trans (T8.out j hj.1).2)
      have HM := Aside0.mk hM
      have HTP := Aside0.mk hTp
      clear hr11 hf11 d8 hM hTp hnb hfr8 hRY h12b hokb hTw hokw11
      by_cases hik : (i : Int) + 1 = kk
      · have hikb : ((i : Int) + 1 == kk) = true := beq_iff_eq.mpr hik
        have HIK := Aside0.mk hik
        clear hik
        gi_wp2
        refine ⟨HTP.out _, rfl, i + 1, by omega, by omega, by have := HIK.out; omega, ?_⟩
        obtain ⟨s', okr', okw', m1, m2, m3, m4, m5, m6, m7, m8⟩ := HM.out _ rfl
        exact ⟨s', okr', okw', m1, m2, m3, m4, fun j hj => ⟨fun h => h, (m5 j hj).2.1, (m5 j hj).2.2⟩, fun j hj => ⟨fun h => h, (m6 j hj).2⟩, m7, m8⟩
      · have hikb : ((i : Int) + 1 == kk) = false := beq_eq_false_iff_ne.mpr hik
        have HIK := Aside0.mk hik
        clear hik
        gi_wp2
        refine ⟨HTP.out _, HM.out _ rfl, by omega, fun j h1 h2 => ?_⟩
        by_cases hj : j = i + 1
        · rw [hj]
          have := HIK.out
          omega
        · exact GK.out j h1 (by omega)
  case done =>
    rintro D W hD ⟨⟨s, okr, okw, g1, g2, g3, g4, g5, g6, g7, g8⟩, _, hkk⟩ hK
    rw [HLL.out.1] at g1 g4 hkk
    have hI0lt := h0lt
    have hcase : kk < 1 ∨ (1 ≤ kk ∧ (n9 : Int) < kk) := by
      rcases Int.lt_or_le kk 1 with h | h
      · exact .inl h
      · refine .inr ⟨h, ?_⟩
        rcases Int.lt_or_le (n9 : Int) kk with h3 | h3
        · exact h3
        · exact absurd (show ((kk.toNat : Nat) : Int) = kk by omega) (hkk kk.toNat (by omega) (by omega))
    clear hkk
    obtain ⟨gd1, gd2, gd3, gd4, gd5⟩ := g1
    have c0 : W.cell? ⟨w.heap.size, 0, none⟩ = some (.int .i64 kk) := (blk_cell g4.1 0).trans rfl
    have c12 : W.cell? ⟨w3.heap.size + 3, 0, none⟩ = some (.int .i64 (n9 : Int)) := (blk_cell g4.2.2.2.2.2.1 0).trans rfl
    have c9' : W.cell? ⟨w3.heap.size, 0, none⟩ = some (.slice A9 n9 c9) := (blk_cell g4.2.2.2.1 0).trans rfl
    have c8' : W.cell? ⟨w2.heap.size, 0, none⟩ = some (.pointer (some ⟨b, 0, none⟩)) := (blk_cell g4.2.2.1 0).trans rfl
    have hlast : ((s.la : Int) == (n : Int) + (n9 : Int)) = true := beq_iff_eq.mpr (by omega)
    have hla : (s.la : Int) ≤ 2147483647 := by omega
    have HG4 := Aside0.mk g4
    have HG2 := Aside0.mk g2
    have HG7 := Aside0.mk g7
    have HD := Aside0.mk hD
    have HK := Aside0.mk hK
    have HLEN := Aside0.mk gd4
    clear g2 g3 g4 g5 g6 g7 g8 gd1 gd2 gd3 gd4 gd5 hD hK hI0lt
    rcases hcase with hk1 | ⟨hk1, hk2⟩
    all_goals
      go_wp2_with fail
      refine (all_R (p := some b) HG2.out).mono ?_
      rintro e w6 ⟨A6, n6, c6, rfl, hn6, hc6, hs6, hb6⟩
      have HB6 := Aside0.mk hb6
      have HN6 := Aside0.mk hn6
      have n6le : n6 ≤ 64 := by rw [hn6, HLEN.out]; omega
      have k8 : w6.cell? ⟨w2.heap.size, 0, none⟩ = some (.pointer (some ⟨b, 0, none⟩)) := pw_cell_below hb6 c8'
      have k12 : w6.cell? ⟨w3.heap.size + 3, 0, none⟩ = some (.int .i64 (n9 : Int)) := pw_cell_below hb6 c12
      clear hn6 hc6 hs6 hb6
      go_wp2_with fail
      refine (last_R (p := some b) (RingIs_below HG2.out HB6.out)).mono ?_
      rintro e w7 ⟨rfl, ⟨⟨nq, rfl⟩⟩⟩
      have b1 : w6.heap[w.heap.size + 1]? = some (.cells #[.bool false] 4 (0, 0)) := (HB6.out.block _ (blk_lt HG4.out.2.1)).trans HG4.out.2.1
      have c1 : w6.cell? ⟨w.heap.size + 1, 0, none⟩ = some (.bool false) := (blk_cell b1 0).trans rfl
      have z1 : w6.frozen? ⟨w.heap.size + 1, 0, none⟩ = false := blk_frozen b1 0
      have hDK : w6.heap[D]? = some (.deferred (some [])) := (HB6.out.block _ (blk_lt HK.out)).trans HK.out
      have hDge : w3.heap.size + 4 ≤ D := by have := HD.out; omega
      have HDK := Aside0.mk hDK
      have HBL := Aside0.mk (show Below w.heap.size w w6 from below_step HG7.out HB6.out)
      have HC1 := Aside0.mk c1
      clear hDK b1
      have hfin : ∀ wf, wf = (w6.drewN nq).setCell ⟨w.heap.size + 1, 0, none⟩ (.bool true) → wf.heap[D]? = some (.deferred (some [])) ∧ (wf.putObj D (.deferred none)).cell? ⟨w.heap.size + 1, 0, none⟩ = some (.bool true) ∧ Below w.heap.size w (wf.putObj D (.deferred none)) := by
        rintro wf rfl
        have h1 : ((w6.drewN nq).setCell ⟨w.heap.size + 1, 0, none⟩ (.bool true)).heap[D]? = some (.deferred (some [])) := (Below.heap_setCell _ ⟨w.heap.size + 1, 0, none⟩ _ D (by show D ≠ w.heap.size + 1; omega)).trans HDK.out
        have h2 : Below w.heap.size w ((w6.drewN nq).setCell ⟨w.heap.size + 1, 0, none⟩ (.bool true)) := below_set (g := w.heap.size + 1) (j := 0) (pw_below_drewN HBL.out nq) (by omega)
        refine ⟨h1, ?_, h2.grown (grownBy_putObj' _ D _) h2.size (fun r e => by cases e; omega)⟩
        have h3 : ((w6.drewN nq).setCell ⟨w.heap.size + 1, 0, none⟩ (.bool true)).cell? ⟨w.heap.size + 1, 0, none⟩ = some (.bool true) := World.cell?_setCell_same _ _ _ HC1.out
        have h4 : (((w6.drewN nq).setCell ⟨w.heap.size + 1, 0, none⟩ (.bool true)).putObj D (.deferred none)).heap[w.heap.size + 1]? = ((w6.drewN nq).setCell ⟨w.heap.size + 1, 0, none⟩ (.bool true)).heap[w.heap.size + 1]? := World.putObj_heap_other (by omega)
        rw [← h3]
        simp only [World.cell?]
        rw [h4]
      have HFIN := Aside0.mk (hfin _ rfl)
      clear hfin
      by_cases hnr : n + n9 < room
      · have hb2 : ((n6 : Int) == (room : Int)) = false := beq_eq_false_iff_ne.mpr (by have h1 := HN6.out; have h2 := HLEN.out; omega)
        have hb3 : ((n6 : Int) == (n : Int) + (n9 : Int)) = true := beq_iff_eq.mpr (by have h1 := HN6.out; have h2 := HLEN.out; omega)
        go_wp2
        refine ⟨by simp, .inl ⟨_, _, rfl, run_takeDeferred HFIN.out.1, ?_⟩⟩
        exact ⟨_, results_cell1 (x := true) rfl rfl HFIN.out.2.1, rfl, HFIN.out.2.2⟩
      · have hb2 : ((n6 : Int) == (room : Int)) = true := beq_iff_eq.mpr (by have h1 := HN6.out; have h2 := HLEN.out; omega)
        go_wp2
        refine ⟨by simp, .inl ⟨_, _, rfl, run_takeDeferred HFIN.out.1, ?_⟩⟩
        exact ⟨_, results_cell1 (x := true) rfl rfl HFIN.out.2.1, rfl, HFIN.out.2.2⟩
  case stop =>
    rintro D c W hD ⟨rfl, i, hi1, hi2, hik, s, okr, okw, g1, g2, g3, g4, g5, g6, g7, g8⟩ hK
    have hI0lt := h0lt
    subst hik
    obtain ⟨gd1, gd2, gd3, gd4, gd5⟩ := g1
    have c0 : W.cell? ⟨w.heap.size, 0, none⟩ = some (.int .i64 (i : Int)) := (blk_cell g4.1 0).trans rfl
    have c12 : W.cell? ⟨w3.heap.size + 3, 0, none⟩ = some (.int .i64 (i : Int)) := (blk_cell g4.2.2.2.2.2.1 0).trans rfl
    have c9' : W.cell? ⟨w3.heap.size, 0, none⟩ = some (.slice A9 n9 c9) := (blk_cell g4.2.2.2.1 0).trans rfl
    have c8' : W.cell? ⟨w2.heap.size, 0, none⟩ = some (.pointer (some ⟨b, 0, none⟩)) := (blk_cell g4.2.2.1 0).trans rfl
    have hlast : ((s.la : Int) == (n : Int) + (i : Int)) = true := beq_iff_eq.mpr (by omega)
    have hla : (s.la : Int) ≤ 2147483647 := by omega
    have HG4 := Aside0.mk g4
    have HG2 := Aside0.mk g2
    have HG7 := Aside0.mk g7
    have HD := Aside0.mk hD
    have HK := Aside0.mk hK
    have HLEN := Aside0.mk gd4
    clear g2 g3 g4 g5 g6 g7 g8 gd1 gd2 gd3 gd4 gd5 hD hK hI0lt
    all_goals
      go_wp2_with fail
      refine (all_R (p := some b) HG2.out).mono ?_
      rintro e w6 ⟨A6, n6, c6, rfl, hn6, hc6, hs6, hb6⟩
      have HB6 := Aside0.mk hb6
      have HN6 := Aside0.mk hn6
      have n6le : n6 ≤ 64 := by rw [hn6, HLEN.out]; omega
      have k8 : w6.cell? ⟨w2.heap.size, 0, none⟩ = some (.pointer (some ⟨b, 0, none⟩)) := pw_cell_below hb6 c8'
      have k12 : w6.cell? ⟨w3.heap.size + 3, 0, none⟩ = some (.int .i64 (i : Int)) := pw_cell_below hb6 c12
      clear hn6 hc6 hs6 hb6
      go_wp2_with fail
      refine (last_R (p := some b) (RingIs_below HG2.out HB6.out)).mono ?_
      rintro e w7 ⟨rfl, ⟨⟨nq, rfl⟩⟩⟩
      have b1 : w6.heap[w.heap.size + 1]? = some (.cells #[.bool false] 4 (0, 0)) := (HB6.out.block _ (blk_lt HG4.out.2.1)).trans HG4.out.2.1
      have c1 : w6.cell? ⟨w.heap.size + 1, 0, none⟩ = some (.bool false) := (blk_cell b1 0).trans rfl
      have z1 : w6.frozen? ⟨w.heap.size + 1, 0, none⟩ = false := blk_frozen b1 0
      have hDK : w6.heap[D]? = some (.deferred (some [])) := (HB6.out.block _ (blk_lt HK.out)).trans HK.out
      have hDge : w3.heap.size + 4 ≤ D := by have := HD.out; omega
      have HDK := Aside0.mk hDK
      have HBL := Aside0.mk (show Below w.heap.size w w6 from below_step HG7.out HB6.out)
      have HC1 := Aside0.mk c1
      clear hDK b1
      have hfin : ∀ wf, wf = (w6.drewN nq).setCell ⟨w.heap.size + 1, 0, none⟩ (.bool true) → wf.heap[D]? = some (.deferred (some [])) ∧ (wf.putObj D (.deferred none)).cell? ⟨w.heap.size + 1, 0, none⟩ = some (.bool true) ∧ Below w.heap.size w (wf.putObj D (.deferred none)) := by
        rintro wf rfl
        have h1 : ((w6.drewN nq).setCell ⟨w.heap.size + 1, 0, none⟩ (.bool true)).heap[D]? = some (.deferred (some [])) := (Below.heap_setCell _ ⟨w.heap.size + 1, 0, none⟩ _ D (by show D ≠ w.heap.size + 1; omega)).trans HDK.out
        have h2 : Below w.heap.size w ((w6.drewN nq).setCell ⟨w.heap.size + 1, 0, none⟩ (.bool true)) := below_set (g := w.heap.size + 1) (j := 0) (pw_below_drewN HBL.out nq) (by omega)
        refine ⟨h1, ?_, h2.grown (grownBy_putObj' _ D _) h2.size (fun r e => by cases e; omega)⟩
        have h3 : ((w6.drewN nq).setCell ⟨w.heap.size + 1, 0, none⟩ (.bool true)).cell? ⟨w.heap.size + 1, 0, none⟩ = some (.bool true) := World.cell?_setCell_same _ _ _ HC1.out
        have h4 : (((w6.drewN nq).setCell ⟨w.heap.size + 1, 0, none⟩ (.bool true)).putObj D (.deferred none)).heap[w.heap.size + 1]? = ((w6.drewN nq).setCell ⟨w.heap.size + 1, 0, none⟩ (.bool true)).heap[w.heap.size + 1]? := World.putObj_heap_other (by omega)
        rw [← h3]
        simp only [World.cell?]
        rw [h4]
      have HFIN := Aside0.mk (hfin _ rfl)
      clear hfin
      by_cases hnr : n + i < room
      · have hb2 : ((n6 : Int) == (room : Int)) = false := beq_eq_false_iff_ne.mpr (by have h1 := HN6.out; have h2 := HLEN.out; omega)
        have hb3 : ((n6 : Int) == (n : Int) + (i : Int)) = true := beq_iff_eq.mpr (by have h1 := HN6.out; have h2 := HLEN.out; omega)
        go_wp2
        refine ⟨by simp, .inl ⟨_, _, rfl, run_takeDeferred HFIN.out.1, ?_⟩⟩
        exact ⟨_, results_cell1 (x := true) rfl rfl HFIN.out.2.1, rfl, HFIN.out.2.2⟩
      · have hb2 : ((n6 : Int) == (room : Int)) = true := beq_iff_eq.mpr (by have h1 := HN6.out; have h2 := HLEN.out; omega)
        go_wp2
        refine ⟨by simp, .inl ⟨_, _, rfl, run_takeDeferred HFIN.out.1, ?_⟩⟩
        exact ⟨_, results_cell1 (x := true) rfl rfl HFIN.out.2.1, rfl, HFIN.out.2.2⟩
theorem ringMayStop_walk (a0 a1 a2 : Int) (w : World) : Calls Try.prog 3 #[.int .i64 a0, .int .i64 a1, .int .i64 a2] w fun e w' => e = .returned (.bool true) ∧ Below w.heap.size w w' := by
  by_cases h : a0 < 1 ∨ 64 < a0 ∨ a1 < 0 ∨ 150 < a1
  · exact ringMayStop_out a0 a1 a2 w h
  · obtain ⟨room, rfl⟩ : ∃ k : Nat, a0 = k := ⟨a0.toNat, by omega⟩
    obtain ⟨n, rfl⟩ : ∃ k : Nat, a1 = k := ⟨a1.toNat, by omega⟩
    exact ringMayStop_in room n a2 w (by omega) (by omega) (by omega)
end Go.Proofs.Ytcbejpmmlcdhnaa.PW
