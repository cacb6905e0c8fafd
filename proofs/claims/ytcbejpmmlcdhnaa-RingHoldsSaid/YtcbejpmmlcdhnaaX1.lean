/- Words, contracts and walks of the law RingHolds, in one text. -/
import Derived.Test.YtcbejpmmlcdhnaaX0
import Derived.Outline
import Derived.Test.YtcbejpmmlcdhnaaRows
import Derived.WalkKit
import Derived.ProofKit
import Derived.OpenShut
import Derived.ChangeOld
import Derived.Below
import Derived.SizedLaws
import Derived.Deep.Slices
namespace Go.Proofs.Ytcbejpmmlcdhnaa.PW
open Go.RowKit Go.Proofs.YtcbejpmmlcdhnaaW.PrintWords Go.Proofs.YtcbejpmmlcdhnaaW.PrintLast Go.Proofs.YtcbejpmmlcdhnaaW.PrintMore
set_option linter.unusedVariables false
set_option linter.unusedSimpArgs false
attribute [local go_sem] Oper.semAt_some

/-- The elements of a row of entries, each with blocks of its own. -/
theorem S_entries {w : World} {base g n cap : Nat} {ok : Nat → Prop} {L : List S33} (h : Kd.S k33 33 w base ok (.slice (some ⟨g, 0, none⟩) n cap) L) :
    ∃ f : Nat → Nat, ∀ (k : Nat) (y : S33), L[k]? = some y → ∃ A c, (∀ (j : Nat) (v : Value), (cells6 y (.slice A y.f5.length c))[j]? = some v → w.cell? ⟨g, k * 6 + j, none⟩ = some v) ∧
      Kd.R k55 55 w base (fun j => j ≠ g ∧ f j = k ∧ base ≤ j ∧ j < w.heap.size ∧ ok j) (.slice A y.f5.length c) y.f5 := by
  obtain ⟨f, hS⟩ := h
  obtain ⟨h0, inner, ⟨hl, ho⟩, hrl, hr⟩ := Kd.R_bound hS
  refine ⟨f, fun k y hk => ?_⟩
  have hz : L.zipIdx[k]? = some (y, k) := Kd.zip_at hk
  have hM := hr k _ hz
  obtain ⟨v5, hcs, hv⟩ := k33_openM (show k33.M w base _ y _ from hM)
  obtain ⟨A, c, rfl⟩ := Kd.R_slice hv
  rcases ho with ⟨he, _⟩ | ⟨g', cap', cur, he, hb, hh, hnc, hcm, hcs2, hcur⟩
  · cases he
  · injection he with he1 he2 he3
    injection he1 with he1
    injection he1 with he1
    subst he1
    refine ⟨A, c, ?_, Kd.R_mono hv (fun j hj => ⟨fun e => hj.1.2 (by rw [e]; simp [Value.ownBlock]), hj.2, hj.1.1.2.1, hj.1.1.2.2.1, hj.1.1.1⟩)⟩
    intro j v hj
    have hj6 : j < 6 := (List.getElem?_eq_some_iff.1 hj).1
    have h5 : ((inner.drop (k * 6)).take 6)[j]? = some v := by
      rw [show (inner.drop (k * 6)).take 6 = cells6 y (.slice A y.f5.length c) from hcs]
      exact hj
    rw [List.getElem?_take_of_lt hj6, List.getElem?_drop] at h5
    rw [blk_cell hh, ← Array.getElem?_toList]
    rw [← hcur] at h5
    have h6 := (List.getElem?_eq_some_iff.1 h5).1
    rw [List.length_take] at h6
    rw [List.getElem?_take_of_lt (by omega)] at h5
    exact h5
theorem setCells_drawn (g : Nat) : ∀ (vs : List Value) (o : Nat) (w : World), (w.setCells g o vs).drawn = w.drawn
  | [], _, _ => rfl
  | v :: r, o, w => by rw [World.setCells, setCells_drawn g r]; rfl
theorem alloc_full {w : World} {cur : Array Value} {e : TypeId} (vs : List Value) (hs : cur.size = vs.length) : (w.alloc (.cells cur e)).setCells w.heap.size 0 vs = w.alloc (.cells vs.toArray e) := by
  obtain ⟨h1, h2, h3, h4⟩ := setCells_same w.heap.size vs 0 (w.alloc (.cells cur e))
  have hb := blk_full (w := w.alloc (.cells cur e)) (g := w.heap.size) vs (heap_alloc_new w _) hs
  have hh : ((w.alloc (.cells cur e)).setCells w.heap.size 0 vs).heap = (w.alloc (.cells vs.toArray e)).heap := by
    apply Array.ext_getElem?
    intro i
    by_cases hi : i = w.heap.size
    · subst hi
      rw [hb, heap_alloc_new]
    · rw [setCells_far vs 0 i hi]
      simp only [World.alloc]
      rw [Array.getElem?_push, Array.getElem?_push, if_neg hi, if_neg hi]
  have h5 := setCells_drawn w.heap.size vs 0 (w.alloc (.cells cur e))
  cases hA : (w.alloc (.cells cur e)).setCells w.heap.size 0 vs
  rw [hA] at h1 h2 h3 h5 hh
  simp only [World.alloc] at h1 h2 h3 h5 hh ⊢
  subst h1 h2 h3 h5 hh
  rfl
/-- What the iterator itself holds while element k and those behind it are to come. -/
def Mine (T0 : Nat → Prop) (N0 N1 g : Nat) (f : Nat → Nat) (k : Nat) : Nat → Prop := fun j => T0 j ∨ (N0 ≤ j ∧ j < N1 ∧ (j = g ∨ k ≤ f j))
theorem out_all {W : World} {base b nn : Nat} {ok : Nat → Prop} {s : RS} (h : RingIs W base ok (some b) s) (hn : nn = s.l.length) :
    Calls Try.prog 34 #[.pointer (some ⟨b, 0, none⟩), .int .i64 (s.fl : Int), .int .i64 (nn : Int)] W fun e w' => e = .returned (.slice (some ⟨W.heap.size, 0, none⟩) nn nn) ∧ Kd.S k33 33 w' W.heap.size (fun _ => True) (.slice (some ⟨W.heap.size, 0, none⟩) nn nn) s.l ∧ Below W.heap.size W w' := by
  have := out_R h (s.fl : Int) (nn : Int) (.inr ⟨Int.le_refl _, by simp only [RS.la]; omega⟩)
  rw [Int.toNat_natCast, Int.toNat_natCast, Nat.sub_self, List.drop_zero, hn, List.take_length] at this
  rw [hn]
  exact this
def rg33.T1 : Bool × List (List Nat × List Nat) := (true, [([], []), ([], []), ([1], [1]), ([2], [2]), ([3], [3]), ([], []), ([5], [5]), ([6], [6]), ([7], [7]), ([], []), ([9], [9]), ([10], [10]), ([11], [11]), ([8, 12], [8, 12]), ([0, 4, 13], [0, 4, 13]), ([14], [14]), ([], [])])
def rg33.B1 : List Nat := [0, 0, 2, 6, 14, 0, 32, 96, 224, 0, 512, 1536, 3584, 8160, 16383, 32767, 0]
theorem rg33.tab1 : rtab .any (opsOf Try.f33 1) = rg33.T1 := by kernel_rfl
theorem rg33.bits1 : waitsOk rg33.T1.2 rg33.B1 = true := by kernel_rfl
set_option maxHeartbeats 4000000 in
set_option maxRecDepth 100000 in
theorem it33_some (Bn b : Nat) (s : RS) (base : Nat) (ok : Nat → Prop) (W : World) (hbox : W.cell? ⟨Bn, 0, none⟩ = some (.pointer (some ⟨b, 0, none⟩))) (hring : RingIs W base ok (some b) s) : ItRing Try.prog 33 Bn s.l W := by
  intro l J Jx T0 hJ hJx hT0 hY h0
  have HJ := Aside0.mk hJ
  have HY := Aside0.mk hY
  have HT0 := Aside0.mk hT0
  have H0 := Aside0.mk h0
  have HR := Aside0.mk hring
  obtain ⟨⟨r1, r2, r3, r4, r5, r6⟩, E, hR, _⟩ := id hring
  obtain ⟨c1, c2, c3, c4, c5⟩ := RingAt_cells hR
  obtain ⟨nn, hnn⟩ : ∃ nn, nn = s.l.length := ⟨_, rfl⟩
  have hlen : (s.la : Int) - (s.fl : Int) = (nn : Int) := by simp only [RS.la]; omega
  have hn64 : nn ≤ 64 := by omega
  have HNN := Aside0.mk hnn
  have hwr2 : wrap64 (nn : Int) = (nn : Int) := by unfold wrap64; omega
  have hla : (s.la : Int) ≤ 2147483647 := by omega
  have hflla : (s.fl : Int) ≤ (s.la : Int) := by simp only [RS.la]; omega
  have HRR := Aside0.mk (And.intro r1 (And.intro r2 r6))
  have d0 : W.drew.cell? ⟨Bn, 0, none⟩ = some (.pointer (some ⟨b, 0, none⟩)) := hbox
  have d1 : W.drew.cell? ⟨b, 385, none⟩ = some (.int .i64 (s.fl : Int)) := c2
  have d2 : W.drew.cell? ⟨b, 386, none⟩ = some (.int .i64 (s.la : Int)) := c3
  clear hJ hJx hY h0 hT0 hring hR r1 r2 r3 r4 r5 r6 c1 c4 c5 hnn
  go_enter Try.func33, Try.ntmps33
  go_wp2
  refine start_ (n := 17) (S := fun w' => w'.cell? ⟨Bn, 0, none⟩ = some (.pointer (some ⟨b, 0, none⟩)) ∧ w'.cell? ⟨b, 385, none⟩ = some (.int .i64 (s.fl : Int)) ∧ w'.cell? ⟨b, 386, none⟩ = some (.int .i64 (s.la : Int))) (ds := []) #[false, false, false, false, false, false, false, false, false, false, false, false, false, false, false, false, false] (by kernel_rfl) rfl rfl ⟨d0, d1, d2⟩ (fun hHeld => ?_)
  refine with_tabW rg33.tab1 rg33.bits1 (fun HT_ HW_ => ?_)
  refine pure_ (i := 16) (N := some 23) (v := ?_) (a' := ?_) #[false, false, false, false, false, false, false, false, false, false, false, false, false, false, false, false, true] rfl rfl (any_of HT_.out (by kernel_rfl)) (fun _ _ _ h => h) (Or.inl ⟨by rfl, ?_⟩) ?_ ?_
  rotate_left
  · intro w'
    go_simp
    with_reducible rfl
  rotate_left
  · simp only [Act.put, List.setIfInBounds_toArray, List.set_cons_zero, List.set_cons_succ, i64_w, i32_w]
    rfl
  refine take_ (i := 0) (N := some 7) (v := ?_) (a' := ?_) #[true, false, false, false, false, false, false, false, false, false, false, false, false, false, false, false, true] rfl rfl (take_ofW HT_.out HW_.out (by kernel_rfl)) (fun _ _ _ h => h) (Or.inl ⟨by rfl, ?_⟩) hHeld ?_ ?_
  rotate_left
  · rintro w' ⟨s0, s1, s2⟩
    go_simp
    with_reducible rfl
  rotate_left
  · simp only [Act.put, List.setIfInBounds_toArray, List.set_cons_zero, List.set_cons_succ, i64_w, i32_w]
    rfl
  refine take_ (i := 1) (N := some 8) (v := ?_) (a' := ?_) #[true, true, false, false, false, false, false, false, false, false, false, false, false, false, false, false, true] rfl rfl (take_ofW HT_.out HW_.out (by kernel_rfl)) (fun _ _ _ h => h) (Or.inl ⟨by rfl, ?_⟩) hHeld ?_ ?_
  rotate_left
  · rintro w' ⟨s0, s1, s2⟩
    go_simp
    with_reducible rfl
  rotate_left
  · simp only [Act.put, List.setIfInBounds_toArray, List.set_cons_zero, List.set_cons_succ, i64_w, i32_w]
    rfl
  refine pure_ (i := 2) (N := some 9) (v := ?_) (a' := ?_) #[true, true, true, false, false, false, false, false, false, false, false, false, false, false, false, false, true] rfl rfl (any_of HT_.out (by kernel_rfl)) (fun _ _ _ h => h) (Or.inl ⟨by rfl, ?_⟩) ?_ ?_
  rotate_left
  · intro w'
    go_simp
    with_reducible rfl
  rotate_left
  · simp only [Act.put, List.setIfInBounds_toArray, List.set_cons_zero, List.set_cons_succ, i64_w, i32_w]
    rfl
  refine pure_ (i := 3) (N := some 10) (v := ?_) (a' := ?_) #[true, true, true, true, false, false, false, false, false, false, false, false, false, false, false, false, true] rfl rfl (any_of HT_.out (by kernel_rfl)) (fun _ _ _ h => h) (Or.inl ⟨by rfl, ?_⟩) ?_ ?_
  rotate_left
  · intro w'
    go_simp
    with_reducible rfl
  rotate_left
  · simp only [Act.put, List.setIfInBounds_toArray, List.set_cons_zero, List.set_cons_succ, i64_w, i32_w]
    rfl
  refine take_ (i := 4) (N := some 11) (v := ?_) (a' := ?_) #[true, true, true, true, true, false, false, false, false, false, false, false, false, false, false, false, true] rfl rfl (take_ofW HT_.out HW_.out (by kernel_rfl)) (fun _ _ _ h => h) (Or.inl ⟨by rfl, ?_⟩) hHeld ?_ ?_
  rotate_left
  · rintro w' ⟨s0, s1, s2⟩
    go_simp
    with_reducible rfl
  rotate_left
  · simp only [Act.put, List.setIfInBounds_toArray, List.set_cons_zero, List.set_cons_succ, i64_w, i32_w]
    rfl
  refine take_ (i := 5) (N := some 12) (v := ?_) (a' := ?_) #[true, true, true, true, true, true, false, false, false, false, false, false, false, false, false, false, true] rfl rfl (take_ofW HT_.out HW_.out (by kernel_rfl)) (fun _ _ _ h => h) (Or.inl ⟨by rfl, ?_⟩) hHeld ?_ ?_
  rotate_left
  · rintro w' ⟨s0, s1, s2⟩
    go_simp
    with_reducible rfl
  rotate_left
  · simp only [Act.put, List.setIfInBounds_toArray, List.set_cons_zero, List.set_cons_succ, i64_w, i32_w]
    rfl
  refine pure_ (i := 6) (N := some 13) (v := ?_) (a' := ?_) #[true, true, true, true, true, true, true, false, false, false, false, false, false, false, false, false, true] rfl rfl (any_of HT_.out (by kernel_rfl)) (fun _ _ _ h => h) (Or.inl ⟨by rfl, ?_⟩) ?_ ?_
  rotate_left
  · intro w'
    go_simp
    with_reducible rfl
  rotate_left
  · simp only [Act.put, List.setIfInBounds_toArray, List.set_cons_zero, List.set_cons_succ, i64_w, i32_w]
    rfl
  refine pure_ (i := 7) (N := some 14) (v := ?_) (a' := ?_) #[true, true, true, true, true, true, true, true, false, false, false, false, false, false, false, false, true] rfl rfl (any_of HT_.out (by kernel_rfl)) (fun _ _ _ h => h) (Or.inl ⟨by rfl, ?_⟩) ?_ ?_
  rotate_left
  · intro w'
    go_simp
    with_reducible rfl
  rotate_left
  · simp only [Act.put, List.setIfInBounds_toArray, List.set_cons_zero, List.set_cons_succ, i64_w, i32_w]
    rfl
  refine take_ (i := 8) (N := some 15) (v := ?_) (a' := ?_) #[true, true, true, true, true, true, true, true, true, false, false, false, false, false, false, false, true] rfl rfl (take_ofW HT_.out HW_.out (by kernel_rfl)) (fun _ _ _ h => h) (Or.inl ⟨by rfl, ?_⟩) hHeld ?_ ?_
  rotate_left
  · rintro w' ⟨s0, s1, s2⟩
    go_simp
    with_reducible rfl
  rotate_left
  · simp only [Act.put, List.setIfInBounds_toArray, List.set_cons_zero, List.set_cons_succ, i64_w, i32_w]
    rfl
  refine take_ (i := 9) (N := some 16) (v := ?_) (a' := ?_) #[true, true, true, true, true, true, true, true, true, true, false, false, false, false, false, false, true] rfl rfl (take_ofW HT_.out HW_.out (by kernel_rfl)) (fun _ _ _ h => h) (Or.inl ⟨by rfl, ?_⟩) hHeld ?_ ?_
  rotate_left
  · rintro w' ⟨s0, s1, s2⟩
    go_simp
    with_reducible rfl
  rotate_left
  · simp only [Act.put, List.setIfInBounds_toArray, List.set_cons_zero, List.set_cons_succ, i64_w, i32_w]
    rfl
  refine pure_ (i := 10) (N := some 17) (v := ?_) (a' := ?_) #[true, true, true, true, true, true, true, true, true, true, true, false, false, false, false, false, true] rfl rfl (any_of HT_.out (by kernel_rfl)) (fun _ _ _ h => h) (Or.inl ⟨by rfl, ?_⟩) ?_ ?_
  rotate_left
  · intro w'
    go_simp
    with_reducible rfl
  rotate_left
  · simp only [Act.put, List.setIfInBounds_toArray, List.set_cons_zero, List.set_cons_succ, i64_w, i32_w]
    rfl
  refine pure_ (i := 11) (N := some 18) (v := ?_) (a' := ?_) #[true, true, true, true, true, true, true, true, true, true, true, true, false, false, false, false, true] rfl rfl (any_of HT_.out (by kernel_rfl)) (fun _ _ _ h => h) (Or.inl ⟨by rfl, ?_⟩) ?_ ?_
  rotate_left
  · intro w'
    go_simp
    with_reducible rfl
  rotate_left
  · simp only [Act.put, List.setIfInBounds_toArray, List.set_cons_zero, List.set_cons_succ, i64_w, i32_w]
    rfl
  refine take_ (i := 12) (N := some 19) (v := ?_) (a' := ?_) #[true, true, true, true, true, true, true, true, true, true, true, true, true, false, false, false, true] rfl rfl (take_ofW HT_.out HW_.out (by kernel_rfl)) (fun _ _ _ h => h) (Or.inl ⟨by rfl, ?_⟩) hHeld ?_ ?_
  rotate_left
  · rintro w' ⟨s0, s1, s2⟩
    go_simp
    with_reducible rfl
  rotate_left
  · simp only [Act.put, List.setIfInBounds_toArray, List.set_cons_zero, List.set_cons_succ, i64_w, i32_w]
    rfl
  refine pure_ (i := 13) (N := some 20) (v := ?_) (a' := ?_) #[true, true, true, true, true, true, true, true, true, true, true, true, true, true, false, false, true] rfl rfl (any_of HT_.out (by kernel_rfl)) (fun _ _ _ h => h) (Or.inl ⟨by rfl, ?_⟩) ?_ ?_
  rotate_left
  · intro w'
    go_simp
    with_reducible rfl
  rotate_left
  · simp only [Act.put, List.setIfInBounds_toArray, List.set_cons_zero, List.set_cons_succ, i64_w, i32_w]
    rfl
  refine one_ (i := 14) (N := some 21) #[true, true, true, true, true, true, true, true, true, true, true, true, true, true, true, false, true] rfl rfl (one_of HT_.out (by kernel_rfl)) (by decide) (fun K hK => ?_)
  refine goes_ Try.func34 (by kernel_rfl) rfl #[.pointer (some ⟨b, 0, none⟩), .int .i64 (s.fl : Int), .int .i64 (wrap64 (nn : Int))] (by rfl) rfl rfl (by simp only [List.map_toArray, List.map_cons, List.map_nil]; rfl) ?_
  rw [hwr2]
  with_reducible refine (out_all (RingIs_below HR.out (below_drew (Below.refl W.heap.size W))) HNN.out).mono ?_
  rintro e w3 ⟨rfl, hs3, hb3⟩
  refine ⟨_, rfl, ?_⟩
  refine hK.out _ _ ⟨(pw_cell_below hb3 d0), (pw_cell_below hb3 d1), (pw_cell_below hb3 d2)⟩ (fun hHeld => ?_)
  clear hK K
  refine norm_ (a' := ?_) ?_ ?_
  rotate_left
  · show Act.put _ (some 21) _ = _
    simp only [Act.put, List.setIfInBounds_toArray, List.set_cons_zero, List.set_cons_succ, i64_w, i32_w]
    rfl
  refine pure_ (i := 15) (N := some 22) (v := ?_) (a' := ?_) #[true, true, true, true, true, true, true, true, true, true, true, true, true, true, true, true, true] rfl rfl (any_of HT_.out (by kernel_rfl)) (fun _ _ _ h => h) (Or.inl ⟨by rfl, ?_⟩) ?_ ?_
  rotate_left
  · intro w'
    go_simp
    with_reducible rfl
  rotate_left
  · simp only [Act.put, List.setIfInBounds_toArray, List.set_cons_zero, List.set_cons_succ, i64_w, i32_w]
    rfl
  refine done_ (done_of HT_.out (by kernel_rfl)) ?_
  obtain ⟨f, hf⟩ := S_entries hs3
  have HSE := Aside0.mk hf
  have HB3 := Aside0.mk (show Below W.heap.size W w3 from below_then (below_drew (Below.refl W.heap.size W)) (Nat.le_refl _) hb3)
  have hg3 : W.heap.size < w3.heap.size := by
    have := Kd.S_lt hs3 W.heap.size (by simp [Value.ownBlock])
    exact this
  have HG3 := Aside0.mk hg3
  have HJ3 := Aside0.mk (show J (Mine T0 W.heap.size w3.heap.size W.heap.size f 0) 0 w3 from HJ.out T0 0 W w3 none _ H0.out (grown_of_below HB3.out none) (fun r e => by cases e) (fun k hk => hk.imp_right (fun h => ⟨h.1, h.2.1⟩)))
  clear hs3 hb3 hf hg3 d0 d1 d2
  go_wp2
  go_loopg [4, 23] nn (fun kq v4 v23 wr => ∃ k : Nat, k ≤ nn ∧ Aside0 (nn - k = kq) ∧ v23 = .int .i64 (k : Int) ∧ Aside0 (J (Mine T0 W.heap.size w3.heap.size W.heap.size f k) k wr) ∧ Aside0 (∀ j, W.heap.size ≤ j → j < w3.heap.size → (j = W.heap.size ∨ k ≤ f j) → wr.heap[j]? = w3.heap[j]?))
  case atStart => exact ⟨0, Nat.zero_le _, ⟨rfl⟩, rfl, HJ3, ⟨fun _ _ _ _ => rfl⟩⟩
  case round =>
    obtain ⟨k, hk, HKQ, rfl, HJK, HKP⟩ := hrel
    by_cases hlt : k < nn
    · have hd : decide ((k : Int) < (nn : Int)) = true := decide_eq_true (by omega)
      have hx := List.getElem?_eq_getElem (show k < s.l.length by rw [← HNN.out]; exact hlt)
      obtain ⟨y, hy⟩ : ∃ y, y = s.l[k]'(by rw [← HNN.out]; exact hlt) := ⟨_, rfl⟩
      rw [← hy] at hx
      obtain ⟨A, c, hcell, hrow⟩ := HSE.out k y hx
      have hgb : wr.heap[W.heap.size]? = w3.heap[W.heap.size]? := HKP.out _ (Nat.le_refl _) HG3.out (.inl rfl)
      have hcell2 : ∀ (j : Nat) (v : Value), (cells6 y (.slice A y.f5.length c))[j]? = some v → wr.cell? ⟨W.heap.size, k * 6 + j, none⟩ = some v := fun j v hj => by
        rw [show wr.cell? ⟨W.heap.size, k * 6 + j, none⟩ = w3.cell? ⟨W.heap.size, k * 6 + j, none⟩ by simp only [World.cell?]; rw [hgb]]
        exact hcell j v hj
      obtain ⟨m5, hm5⟩ : ∃ m5, m5 = y.f5.length := ⟨_, rfl⟩
      rw [← hm5] at hcell2 hrow
      have v0 : wr.cell? ⟨W.heap.size, k * 6, none⟩ = some (.int .i64 y.f0) := hcell2 0 _ rfl
      have v1 : wr.cell? ⟨W.heap.size, k * 6 + 1, none⟩ = some (.int .i64 y.f1) := hcell2 1 _ rfl
      have v2 : wr.cell? ⟨W.heap.size, k * 6 + 2, none⟩ = some (.int .i64 y.f2) := hcell2 2 _ rfl
      have v3 : wr.cell? ⟨W.heap.size, k * 6 + 3, none⟩ = some (.int .i64 y.f3) := hcell2 3 _ rfl
      have v4 : wr.cell? ⟨W.heap.size, k * 6 + 4, none⟩ = some (.int .i64 y.f4) := hcell2 4 _ rfl
      have v5 : wr.cell? ⟨W.heap.size, k * 6 + 5, none⟩ = some (.slice A m5 c) := hcell2 5 _ rfl
      have hnew : (wr.alloc (.cells zeroCells 33)).heap[wr.heap.size]? = some (.cells zeroCells 33) := heap_alloc_new _ _
      have HX := Aside0.mk hx
      have HM := Aside0.mk hm5
      have HROW := Aside0.mk hrow
      have HNEW := Aside0.mk hnew
      clear hx hy hcell hcell2 hgb hrow hm5 hnew
      go_wp2_with (with_reducible refine stop_store rfl ?_)
      refine wpList_store rfl rfl 33 (.tmp 4) (.tmp 26) rfl (.agg #[.int .i64 y.f0, .int .i64 y.f1, .int .i64 y.f2, .int .i64 y.f3, .int .i64 y.f4, .slice A m5 c]) (cells6 y (.slice A m5 c)) rfl rfl HNEW.out rfl size33 (by show 0 + 6 ≤ 6; omega) (by simp [cells6, Value.oneCell']) ?_
      rw [alloc_full (w := wr) (cur := zeroCells) (e := 33) (cells6 y (.slice A m5 c)) rfl]
      have hb2 : (wr.alloc (.cells (cells6 y (.slice A m5 c)).toArray 33)).heap[wr.heap.size]? = some (.cells (cells6 y (.slice A m5 c)).toArray 33) := heap_alloc_new _ _
      have hJ2 : J (fun j => Mine T0 W.heap.size w3.heap.size W.heap.size f (k + 1) j ∨ (j ≠ W.heap.size ∧ f j = k ∧ W.heap.size ≤ j ∧ j < w3.heap.size)) k (wr.alloc (.cells (cells6 y (.slice A m5 c)).toArray 33)) := by
        refine TOwn.less HJ.out (HJ.out.alloc (T' := Mine T0 W.heap.size w3.heap.size W.heap.size f k) _ HJK.out (fun j hj => .inl hj)) (fun j hj => ?_)
        rcases hj with (h | ⟨h1, h2, h3⟩) | ⟨h1, h2, h3, h4⟩
        · exact .inl h
        · exact .inr ⟨h1, h2, h3.imp_right (fun h => by omega)⟩
        · exact .inr ⟨h3, h4, .inr (by omega)⟩
      have hbel : Below wr.heap.size wr (wr.alloc (.cells (cells6 y (.slice A m5 c)).toArray 33)) := below_alloc (Below.refl _ _) _
      obtain ⟨wx, hwx⟩ : ∃ wx, wx = wr.alloc (.cells (cells6 y (.slice A m5 c)).toArray 33) := ⟨_, rfl⟩
      rw [← hwx] at hb2 hJ2 hbel ⊢
      have hkeep : ∀ j, W.heap.size ≤ j → j < w3.heap.size → (j = W.heap.size ∨ k ≤ f j) → wx.heap[j]? = w3.heap[j]? := fun j h1 h2 h3 => by
        have h4 := HKP.out j h1 h2 h3
        have h5 : j < wr.heap.size := by
          rw [Array.getElem?_eq_getElem h2] at h4
          exact (Array.getElem?_eq_some_iff.1 h4).1
        exact (hbel.block j h5).trans h4
      have hhand : Handed W.heap.size (Mine T0 W.heap.size w3.heap.size W.heap.size f (k + 1)) y A c (fun j => j ≠ W.heap.size ∧ f j = k ∧ W.heap.size ≤ j ∧ j < w3.heap.size) wx := by
        refine ⟨?_, fun j hj => ⟨fun hm => ?_, hj.2.2.1, ?_⟩⟩
        · rw [← HM.out]
          exact Kd.R_step (Kd.R_mono HROW.out (fun j hj => ⟨hj.1, hj.2.1, hj.2.2.1, hj.2.2.2.1⟩)) (fun j hj _ => hkeep j hj.2.2.1 hj.2.2.2 (.inr (by omega)))
        · rcases hm with hm | ⟨_, _, hm⟩
          · have := HT0.out j hm
            omega
          · rcases hm with hm | hm
            · exact hj.1 hm
            · omega
        · have h4 := hkeep j hj.2.2.1 hj.2.2.2 (.inr (by omega))
          rw [Array.getElem?_eq_getElem hj.2.2.2] at h4
          exact (Array.getElem?_eq_some_iff.1 h4).1
      have u0 : wx.cell? ⟨wr.heap.size, 0, none⟩ = some (.int .i64 y.f0) := (blk_cell hb2 0).trans rfl
      have u1 : wx.cell? ⟨wr.heap.size, 1, none⟩ = some (.int .i64 y.f1) := (blk_cell hb2 1).trans rfl
      have u2 : wx.cell? ⟨wr.heap.size, 2, none⟩ = some (.int .i64 y.f2) := (blk_cell hb2 2).trans rfl
      have u3 : wx.cell? ⟨wr.heap.size, 3, none⟩ = some (.int .i64 y.f3) := (blk_cell hb2 3).trans rfl
      have u4 : wx.cell? ⟨wr.heap.size, 4, none⟩ = some (.int .i64 y.f4) := (blk_cell hb2 4).trans rfl
      have u5 : wx.cell? ⟨wr.heap.size, 5, none⟩ = some (.slice A m5 c) := (blk_cell hb2 5).trans rfl
      have hTlt : ∀ j, Mine T0 W.heap.size w3.heap.size W.heap.size f (k + 1) j → j < wx.heap.size := by
        have hg := hkeep W.heap.size (Nat.le_refl _) HG3.out (.inl rfl)
        rw [Array.getElem?_eq_getElem HG3.out] at hg
        have hglt : W.heap.size < wx.heap.size := (Array.getElem?_eq_some_iff.1 hg).1
        intro j hj
        rcases hj with hj | ⟨h1, h2, h3⟩
        · have := HT0.out j hj
          omega
        · have h4 := hkeep j h1 h2 (h3.imp_right (fun h => by omega))
          rw [Array.getElem?_eq_getElem h2] at h4
          exact (Array.getElem?_eq_some_iff.1 h4).1
      have hYA := HY.out _ k y A c _ wx (fun j hj => .inl hj) hTlt HX.out hJ2 hhand
      rw [← HM.out] at hYA
      have HYA := Aside0.mk hYA
      have HKE := Aside0.mk hkeep
      have HTL := Aside0.mk hTlt
      have HBX := Aside0.mk hb2
      clear hYA hkeep hTlt hJ2 hhand hbel hb2 hwx
      refine wpList_nil ?_
      refine ‹∀ (a : Act) (w : World), Code.wp Try.prog _ _ a w → _› _ _ ?_
      refine wp_seq ?_
      refine (wpIn_wide (n := 0)).1 ?_
      refine wpIn_region_lit ?_
      refine listIn_value (r := none) (W1 := wx) (v := .func (.yield l) #[] #[]) rfl (by simp) (by rfl) ?_
      refine listIn_value (r := none) (W1 := wx) (v := .agg #[.int .i64 y.f0, .int .i64 y.f1, .int .i64 y.f2, .int .i64 y.f3, .int .i64 y.f4, .slice A m5 c]) rfl (by simp) ?_ ?_
      · go_simp
      refine listIn_yield (r := none) (.tmp 27) (.tmp 28) _ rfl rfl (by rfl) (by rfl) HYA.out ?_ (by rintro c W' ⟨(⟨h, _⟩ | ⟨h, _⟩), _⟩ <;> cases h) (by rintro W' ⟨(⟨h, _⟩ | ⟨h, _⟩), _⟩ <;> cases h)
      rintro v W' ⟨(⟨h, hj'⟩ | ⟨h, hjx⟩), hTk⟩
      · cases h
        have HJ' := Aside0.mk hj'
        have HK' := Aside0.mk (show ∀ j, W.heap.size ≤ j → j < w3.heap.size → (j = W.heap.size ∨ k + 1 ≤ f j) → W'.heap[j]? = w3.heap[j]? from fun j h1 h2 h3 => (hTk j (.inr ⟨h1, h2, h3⟩) h1 (HTL.out j (.inr ⟨h1, h2, h3⟩))).trans (HKE.out j h1 h2 (h3.imp_right (fun h => by omega))))
        clear hj' hTk u0 u1 u2 u3 u4 u5 v0 v1 v2 v3 v4 v5
        refine listIn_value (r := none) rfl (by simp) (by rfl) ?_
        refine wpListIn_nil ?_
        go_wp2
        go_roundg (nn - (k + 1))
        case measure => have := HKQ.out; omega
        case rel => exact ⟨k + 1, by omega, ⟨rfl⟩, by go_num, HJ', HK'⟩
      · cases h
        have HJX := Aside0.mk hjx
        clear hjx hTk u0 u1 u2 u3 u4 u5 v0 v1 v2 v3 v4 v5
        refine listIn_value (r := none) rfl (by simp) (by rfl) ?_
        refine wpListIn_nil ?_
        go_wp2
        refine bodyPost_ret (results_none rfl _ _ _) rfl ?_
        exact ⟨⟨_, rfl⟩, .inr HJX.out⟩
    · have hd : decide ((k : Int) < (nn : Int)) = false := decide_eq_false (by omega)
      have hkn : k = nn := by omega
      have HJF := Aside0.mk (TOwn.less HJ.out (hkn ▸ HJK.out) (fun j hj => (.inl hj : Mine T0 W.heap.size w3.heap.size W.heap.size f nn j)))
      rw [HNN.out] at HJF
      clear hkn
      go_wp2
      go_end0
      exact ⟨⟨_, rfl⟩, .inl HJF.out⟩
set_option maxRecDepth 100000 in
theorem it33 (Bn : Nat) (p : Option Nat) (s : RS) (base : Nat) (ok : Nat → Prop) (W : World) (hbox : W.cell? ⟨Bn, 0, none⟩ = some (ptr p)) (hring : RingIs W base ok p s) : ItRing Try.prog 33 Bn s.l W := by
  cases p with
  | some b => exact it33_some Bn b s base ok W hbox hring
  | none =>
    intro l J Jx T0 hJ hJx hT0 hY h0
    obtain ⟨_, rfl⟩ := hring
    have HZ := Aside0.mk h0
    have hb : W.cell? ⟨Bn, 0, none⟩ = some (.pointer none) := hbox
    clear hJ hJx hT0 hY h0 hbox
    go_enter Try.func33, Try.ntmps33
    go_wp2
    refine bodyPost_ret (results_none rfl _ _ _) rfl ?_
    exact ⟨⟨_, rfl⟩, .inl HZ.out⟩
end Go.Proofs.Ytcbejpmmlcdhnaa.PW
namespace Go.Proofs.Ytcbejpmmlcdhnaa.PW
open Go.RowKit Go.Proofs.YtcbejpmmlcdhnaaW.PrintWords Go.Proofs.YtcbejpmmlcdhnaaW.PrintLast Go.Proofs.YtcbejpmmlcdhnaaW.PrintMore
set_option linter.unusedVariables false
set_option linter.unusedSimpArgs false
attribute [local go_sem] Oper.semAt_some

/-- A block of cells. -/
def Celly (W : World) (j : Nat) : Prop := ∃ cs q, W.heap[j]? = some (.cells cs q (0, 0))
theorem Celly.lt {W : World} {j : Nat} (h : Celly W j) : j < W.heap.size := by obtain ⟨cs, q, h⟩ := h; exact blk_lt h
theorem S_celly {α : Type} {d : Kd α} {e base : Nat} {ok : Nat → Prop} {w : World} {v : Value} {xs : List α} (h : Kd.S d e w base ok v xs) : Kd.S d e w base (fun k => ok k ∧ base ≤ k ∧ Celly w k) v xs :=
  Kd.S_mono (Kd.S_bound h) (fun k hk => ⟨hk.1, hk.2.1, by obtain ⟨q, _, cs, hc⟩ := hk.2.2.2; exact ⟨cs, q, hc⟩⟩)
theorem R_celly {α : Type} {d : Kd α} {e base : Nat} {ok : Nat → Prop} {w : World} {v : Value} {xs : List α} (h : d.R e w base ok v xs) : d.R e w base (fun k => ok k ∧ base ≤ k ∧ Celly w k) v xs :=
  Kd.R_mono (Kd.R_bound h) (fun k hk => ⟨hk.1, hk.2.1, by obtain ⟨q, _, cs, hc⟩ := hk.2.2.2; exact ⟨cs, q, hc⟩⟩)
/-- What a turn of a block that is no cells, or new blocks, leave alone. -/
theorem celly_grown {W W' : World} {row : Option Nat} {j B : Nat} (hc : Celly W j) (hg : W.grownBy W' row) (hr : ∀ r, row = some r → B ≤ r ∧ ∃ o : Obj, W.heap[r]? = some o ∧ o.isCells = false) : W'.heap[j]? = W.heap[j]? := by
  obtain ⟨cs, q, h⟩ := hc
  refine hg.block j (blk_lt h) (fun e => ?_)
  obtain ⟨_, o, ho, hc⟩ := hr j e.symm
  rw [h] at ho
  cases ho
  cases hc
theorem Celly.grown {W W' : World} {row : Option Nat} {j B : Nat} (hc : Celly W j) (hg : W.grownBy W' row) (hr : ∀ r, row = some r → B ≤ r ∧ ∃ o : Obj, W.heap[r]? = some o ∧ o.isCells = false) : Celly W' j := by
  have := celly_grown hc hg hr
  obtain ⟨cs, q, h⟩ := hc
  exact ⟨cs, q, this.trans h⟩
theorem blk_celly {W W' : World} {row : Option Nat} {j B : Nat} {cs : Array Value} {q : TypeId} (h : W.heap[j]? = some (.cells cs q (0, 0))) (hg : W.grownBy W' row) (hr : ∀ r, row = some r → B ≤ r ∧ ∃ o : Obj, W.heap[r]? = some o ∧ o.isCells = false) : W'.heap[j]? = some (.cells cs q (0, 0)) := (celly_grown ⟨cs, q, h⟩ hg hr).trans h
/-- All: a closure over the ring's pointer. -/
theorem All_C (p : Option Nat) (w : World) : Calls Try.prog 13 #[ptr p] w fun e w' => e = .returned (.func (.func 33) #[] #[.pointer (some ⟨w.heap.size, 0, none⟩)]) ∧ w' = w.alloc (.cells #[ptr p] 23) := by
  unfold ptr
  go_enter Try.func13, Try.ntmps13
  go_wp2
  go_ret
  exact ⟨rfl, rfl⟩
/-- While entries are collected: L.take k in the row at block n0 + 2. -/
def AllI (w0 : World) (p : Option Nat) (L : List S33) (T : Nat → Prop) (k : Nat) (W : World) : Prop :=
  ∃ v okr, Kd.S k33 33 W w0.heap.size okr v (L.take k) ∧ W.heap[w0.heap.size]? = some (.cells #[.slice none 0 0] 25 (0, 0)) ∧ W.heap[w0.heap.size + 1]? = some (.cells #[.bool false] 4 (0, 0)) ∧ W.heap[w0.heap.size + 2]? = some (.cells #[v] 25 (0, 0)) ∧ W.heap[w0.heap.size + 3]? = some (.cells #[ptr p] 23 (0, 0)) ∧
    (∀ j, okr j → w0.heap.size + 4 ≤ j ∧ ¬ T j ∧ Celly W j) ∧ Below w0.heap.size w0 W
theorem AllI_own (w0 : World) (p : Option Nat) (L : List S33) (hB : w0.heap.size ≤ w0.heap.size + 4) : TOwn (w0.heap.size + 4) (AllI w0 p L) := by
  rintro T k W W' row T' ⟨v, okr, h1, h2, h3, h4, h5, h6, h7⟩ hg hr hT
  refine ⟨v, okr, Kd.S_step h1 (fun j hj _ => celly_grown (h6 j hj).2.2 hg hr), blk_celly h2 hg hr, blk_celly h3 hg hr, blk_celly h4 hg hr, blk_celly h5 hg hr, fun j hj => ⟨(h6 j hj).1, fun hx => ?_, (h6 j hj).2.2.grown hg hr⟩, h7.grown hg h7.size (fun r e => by have := (hr r e).1; omega)⟩
  rcases hT j hx with h | h
  · exact (h6 j hj).2.1 h
  · have := (h6 j hj).2.2.lt
    omega
end Go.Proofs.Ytcbejpmmlcdhnaa.PW
namespace Go.Proofs.Ytcbejpmmlcdhnaa.PW
open Go.RowKit Go.Proofs.YtcbejpmmlcdhnaaW.PrintWords Go.Proofs.YtcbejpmmlcdhnaaW.PrintLast Go.Proofs.YtcbejpmmlcdhnaaW.PrintMore
set_option linter.unusedVariables false
set_option linter.unusedSimpArgs false
attribute [local go_sem] Oper.semAt_some

theorem results_25_4 {fn : Func} {p q : Tmp} (h : fn.results = #[.cell p 25, .cell q 4]) (tmps : Array Value) (w : World) (g1 g2 n c : Nat) (A : Option Addr) (b : Bool)
    (hp : tmps.getD p undef = .pointer (some ⟨g1, 0, none⟩)) (hq : tmps.getD q undef = .pointer (some ⟨g2, 0, none⟩)) (c1 : w.cell? ⟨g1, 0, none⟩ = some (.slice A n c)) (c2 : w.cell? ⟨g2, 0, none⟩ = some (.bool b)) :
    (results fn tmps).run Try.prog w = .ok (.tuple #[.slice A n c, .bool b]) w := by
  have hp' : tmps[p]?.getD undef = .pointer (some ⟨g1, 0, none⟩) := by simpa using hp
  have hq' : tmps[q]?.getD undef = .pointer (some ⟨g2, 0, none⟩) := by simpa using hq
  have l1 : (loadVar 25 ⟨g1, 0, none⟩).run Try.prog w = .ok (.slice A n c) w := by go_simp
  have l2 : (loadVar 4 ⟨g2, 0, none⟩).run Try.prog w = .ok (.bool b) w := by go_simp
  simp [results, h, hp', hq', asAddr, l1, l2]
theorem blk4 (w : World) (o0 o1 o2 o3 : Obj) {W : World} (hW : W = (((w.alloc o0).alloc o1).alloc o2).alloc o3) : W.heap[w.heap.size]? = some o0 ∧ W.heap[w.heap.size + 1]? = some o1 ∧ W.heap[w.heap.size + 2]? = some o2 ∧ W.heap[w.heap.size + 3]? = some o3 ∧ W.heap.size = w.heap.size + 4 ∧ Below w.heap.size w W := by
  subst hW
  have s1 := szA w o0
  have s2 := szA (w.alloc o0) o1
  have s3 := szA ((w.alloc o0).alloc o1) o2
  have s4 := szA (((w.alloc o0).alloc o1).alloc o2) o3
  have n0 := heap_alloc_new w o0
  have n1 := heap_alloc_new (w.alloc o0) o1
  have n2 := heap_alloc_new ((w.alloc o0).alloc o1) o2
  have n3 := heap_alloc_new (((w.alloc o0).alloc o1).alloc o2) o3
  have b2 : Below (w.alloc o0).heap.size (w.alloc o0) ((w.alloc o0).alloc o1) := below_alloc (Below.refl _ _) _
  have b3 : Below ((w.alloc o0).alloc o1).heap.size ((w.alloc o0).alloc o1) (((w.alloc o0).alloc o1).alloc o2) := below_alloc (Below.refl _ _) _
  have b4 : Below (((w.alloc o0).alloc o1).alloc o2).heap.size (((w.alloc o0).alloc o1).alloc o2) ((((w.alloc o0).alloc o1).alloc o2).alloc o3) := below_alloc (Below.refl _ _) _
  rw [s1] at n1
  rw [s2, s1] at n2
  rw [s3, s2, s1] at n3
  refine ⟨?_, ?_, ?_, ?_, by omega, below_alloc (below_alloc (below_alloc (below_alloc (Below.refl _ _) _) _) _) _⟩
  · exact (b4.block _ (by omega)).trans ((b3.block _ (by omega)).trans ((b2.block _ (by omega)).trans n0))
  · exact (b4.block _ (by omega)).trans ((b3.block _ (by omega)).trans n1)
  · exact (b4.block _ (by omega)).trans n2
  · exact n3
theorem eq29 (f : FuncId) (xs : Array Value) : ∀ W : World, (binOp .eql 29 (.func (.func f) #[] xs) .nilFunc).run Try.prog W = .ok (.bool false) W := fun W => by kernel_rfl
set_option maxHeartbeats 8000000 in
set_option maxRecDepth 100000 in
theorem all_R {w : World} {base : Nat} {ok : Nat → Prop} {p : Option Nat} {s : RS} (h : RingIs w base ok p s) :
    Calls Try.prog 12 #[ptr p] w fun e w' => ∃ A n c, e = .returned (.tuple #[.slice A n c, .bool true]) ∧ n = s.l.length ∧ n ≤ c ∧ Kd.S k33 33 w' w.heap.size (fun _ => True) (.slice A n c) s.l ∧ Below w.heap.size w w' := by
  have H := Aside0.mk h
  have hlen : s.l.length ≤ 64 := Nat.le_trans h.1.2.1 h.1.1
  have HLEN := Aside0.mk hlen
  clear h hlen
  refine (callsIn_wide (n := 0)).1 (callsIn_of_wp_marks Try.func12 rfl trivial ?_)
  refine (wpIn_wide (n := 0)).2 ?_
  simp only [Try.ntmps12, List.size_toArray, List.length_cons, List.length_nil, Nat.reduceAdd, Nat.reduceSub, Array.replicate_succ, Array.replicate_zero, List.push_toArray, List.append_toArray, List.nil_append, List.cons_append]
  go_wp2_with fail
  refine (All_C p _).mono ?_
  rintro e w1 ⟨rfl, rfl⟩
  obtain ⟨w1, hw1⟩ : ∃ w1, w1 = (((w.alloc (.cells #[.slice none 0 0] 25)).alloc (.cells #[.bool false] 4)).alloc (.cells #[.slice none 0 0] 25)).alloc (.cells #[ptr p] 23) := ⟨_, rfl⟩
  have hsz : (((w.alloc (.cells #[.slice none 0 0] 25)).alloc (.cells #[.bool false] 4)).alloc (.cells #[.slice none 0 0] 25)).heap.size = w.heap.size + 3 := by rw [szA, szA, szA]
  obtain ⟨b0, b1, b2, b3, b4, b5⟩ := blk4 w _ _ _ _ hw1
  rw [← hw1, hsz]
  have HB := Aside0.mk (And.intro b0 (And.intro b1 (And.intro b2 (And.intro b3 (And.intro b4 b5)))))
  have he := eq29 33 #[.pointer (some ⟨w.heap.size + 3, 0, none⟩)]
  have e2 : w.heap.size + 1 + 1 = w.heap.size + 2 := rfl
  rw [e2]
  clear hw1 hsz b0 b1 b2 b3 b4 b5 e2
  go_wp2
  have hI0 : AllI w p s.l (fun _ => False) 0 w1 := ⟨.slice none 0 0, fun _ => False, Kd.S_nil _ _ _ _ _, HB.out.1, HB.out.2.1, HB.out.2.2.1, HB.out.2.2.2.1, fun j hj => hj.elim, HB.out.2.2.2.2.2⟩
  refine rangeRing (gf := 33) (Bn := w.heap.size + 3) 6 s.l rfl (enters_ Try.func33 (by kernel_rfl) rfl) rfl (AllI w p s.l) (fun _ _ => False) (fun _ => False) ?hI ?hIx ?h0 ?hT0 ?hit ?assign ?body ?done ?stop
  case hI => exact TOwn.weak (AllI_own w p s.l (by omega)) (by have := HB.out.2.2.2.2.1; omega)
  case hIx => exact fun c s A B row hs hg hr => hs
  case h0 => exact hI0
  case hT0 => exact fun j hj => hj.elim
  case hit =>
    rintro T W ⟨v, okr, h1, h2, h3, h4, h5, h6, h7⟩
    exact it33 _ p s base ok W (blk_cell h5 0) (RingIs_below H.out h7)
  case assign =>
    intro l y A c W K hK
    simp only [List.zip_toArray, List.zip_cons_cons, List.zip_nil_left, List.zip_nil_right, List.foldl_toArray, List.foldl_toArray', List.foldl_cons, List.foldl_nil, List.setIfInBounds_toArray, List.set_cons_zero, List.set_cons_succ] at hK ⊢
    refine region_round l (by rintro ⟨a, w, h⟩; exact h) (by simp) ?_
    obtain ⟨m5, hm5⟩ : ∃ m5, m5 = y.f5.length := ⟨_, rfl⟩
    rw [← hm5] at hK ⊢
    have HK := Aside0.mk hK
    have HNEW := Aside0.mk (heap_alloc_new W (.cells zeroCells 33))
    clear hK hm5
    unfold entV at *
    go_wp2_with (with_reducible refine stop_store rfl ?_)
    refine wpList_store rfl rfl 33 (.tmp 6) (.tmp 12) rfl (.agg #[.int .i64 y.f0, .int .i64 y.f1, .int .i64 y.f2, .int .i64 y.f3, .int .i64 y.f4, .slice A m5 c]) (cells6 y (.slice A m5 c)) rfl rfl HNEW.out rfl size33 (by show 0 + 6 ≤ 6; omega) (by simp [cells6, Value.oneCell']) ?_
    rw [alloc_full (w := W) (cur := zeroCells) (e := 33) (cells6 y (.slice A m5 c)) rfl]
    exact wpList_nil HK.out
  case body =>
    rintro T l k y A c okx B W hT hTlt hTl hle hloop hy ⟨v, okr, h1, h2, h3, h4, h5, h6, h7⟩ ⟨hR, hokx⟩ hBle hbx
    have hs4 : w1.heap.size = w.heap.size + 4 := HB.out.2.2.2.2.1
    rw [hs4] at hle hR hokx hBle
    simp only [List.zip_toArray, List.zip_cons_cons, List.zip_nil_left, List.zip_nil_right, List.foldl_toArray, List.foldl_toArray', List.foldl_cons, List.foldl_nil, List.setIfInBounds_toArray, List.set_cons_zero, List.set_cons_succ]
    obtain ⟨m5, hm5⟩ : ∃ m5, m5 = y.f5.length := ⟨_, rfl⟩
    rw [← hm5] at hR hbx ⊢
    unfold entV
    have c4 : W.cell? ⟨w.heap.size + 2, 0, none⟩ = some v := (blk_cell h4 0).trans rfl
    have z4 : W.frozen? ⟨w.heap.size + 2, 0, none⟩ = false := blk_frozen h4 0
    have u0 : W.cell? ⟨B, 0, none⟩ = some (.int .i64 y.f0) := (blk_cell hbx 0).trans rfl
    have u1 : W.cell? ⟨B, 1, none⟩ = some (.int .i64 y.f1) := (blk_cell hbx 1).trans rfl
    have u2 : W.cell? ⟨B, 2, none⟩ = some (.int .i64 y.f2) := (blk_cell hbx 2).trans rfl
    have u3 : W.cell? ⟨B, 3, none⟩ = some (.int .i64 y.f3) := (blk_cell hbx 3).trans rfl
    have u4 : W.cell? ⟨B, 4, none⟩ = some (.int .i64 y.f4) := (blk_cell hbx 4).trans rfl
    have u5 : W.cell? ⟨B, 5, none⟩ = some (.slice A m5 c) := (blk_cell hbx 5).trans rfl
    have hkl : k < s.l.length := (List.getElem?_eq_some_iff.1 hy).1
    have htk : s.l.take (k + 1) = s.l.take k ++ [y] := by
      rw [List.take_add_one, hy]
      rfl
    have F1 := Aside0.mk h1
    have F2 := Aside0.mk h2
    have F3 := Aside0.mk h3
    have F4 := Aside0.mk h4
    have F5 := Aside0.mk h5
    have F6 := Aside0.mk h6
    have F7 := Aside0.mk h7
    have FR := Aside0.mk hR
    have FX := Aside0.mk hokx
    have FT := Aside0.mk hTlt
    have FM := Aside0.mk hm5
    have FK := Aside0.mk hkl
    have FTK := Aside0.mk htk
    clear h1 h2 h3 h4 h5 h6 h7 hR hokx hTlt hm5 hkl htk hbx hy hs4 hloop hI0
    refine wpIn_block ?_
    refine wpIn_seq ?_
    refine region_round l (by rintro ⟨a, w, h⟩; exact h) (by simp) ?_
    go_wp2_with (with_reducible refine stop_append rfl ?_)
    refine Kd.S_append k33 (w0 := w) w.heap.size rfl (.tmp 13) (.tmp 15) 25 33 (.agg #[(.int .i64 0), (.int .i64 0), (.int .i64 0), (.int .i64 0), (.int .i64 0), (.slice none 0 0)]) 64 rfl Try.underlying25 info33 rfl (by decide) (by omega) v (s.l.take k) y (cells6 y (.slice A m5 c)) (fun j => okr j ∨ okx j ∨ W.heap.size ≤ j) okx rfl rfl
      (k33_mkM _ _ _ _ (Kd.R_lower FR.out (by omega))) (fun j hj => ⟨.inr (.inl hj), fun e => (F6.out j ((Kd.S_R F1.out).1 j e.symm)).2.1 (.inr hj)⟩) (fun j hj => .inr (.inr hj)) (Kd.S_mono F1.out (fun j hj => ⟨.inl hj, fun hx => (F6.out j hj).2.1 (.inr hx)⟩)) F7.out F7.out.size (by rw [List.length_take]; have := HLEN.out; omega) ?_
    intro v1 w2 ho hb hg hat
    rw [← FTK.out] at ho
    obtain ⟨A1, c1, rfl⟩ := Kd.S_slice ho
    obtain ⟨nn, hnn⟩ : ∃ nn, nn = (s.l.take (k + 1)).length := ⟨_, rfl⟩
    have hnn64 : nn ≤ 64 := by rw [hnn, List.length_take]; have := HLEN.out; omega
    rw [← hnn] at ho ⊢
    have hne : ∀ i, i < 4 → some (w.heap.size + i) ≠ v.ownBlock := fun i hi e => by
      have := (F6.out _ ((Kd.S_R F1.out).1 _ e.symm)).1
      omega
    have hb4 := blk_grown F4.out hg (hne 2 (by omega))
    have c61 : w2.cell? ⟨w.heap.size + 2, 0, none⟩ = some v := (blk_cell hb4 0).trans rfl
    have z61 := blk_frozen hb4 0
    have G1 := Aside0.mk ho
    have G2 := Aside0.mk hg
    have G3 := Aside0.mk hb4
    have G4 := Aside0.mk (And.intro (blk_grown F2.out hg (hne 0 (by omega))) (And.intro (blk_grown F3.out hg (hne 1 (by omega))) (blk_grown F5.out hg (hne 3 (by omega)))))
    have G5 := Aside0.mk hb
    have GN := Aside0.mk hnn
    clear ho hb hg hat hb4 c4 z4 u0 u1 u2 u3 u4 u5 hnn hne
    go_wp2
    obtain ⟨W2, hW2⟩ : ∃ W2, W2 = w2.setCell ⟨w.heap.size + 2, 0, none⟩ (.slice A1 nn c1) := ⟨_, rfl⟩
    rw [← hW2]
    have hb5 : W2.heap[w.heap.size + 2]? = some (.cells #[.slice A1 nn c1] 25 (0, 0)) := by rw [hW2]; simpa using blk_set G3.out 0 (.slice A1 nn c1)
    have hfar : ∀ j, j ≠ w.heap.size + 2 → W2.heap[j]? = w2.heap[j]? := fun j hj => by rw [hW2]; exact Below.heap_setCell w2 _ _ j hj
    have hI : AllI w p s.l T (k + 1) W2 := by
      refine ⟨_, fun j => (okr j ∨ okx j ∨ W.heap.size ≤ j) ∧ Celly w2 j ∧ j ≠ w.heap.size + 2 ∧ w.heap.size + 4 ≤ j, ?_, (hfar _ (by omega)).trans G4.out.1, (hfar _ (by omega)).trans G4.out.2.1, hb5, (hfar _ (by omega)).trans G4.out.2.2, ?_, ?_⟩
      · refine Kd.S_step (Kd.S_mono (S_celly G1.out) (fun j hj => ⟨hj.1, hj.2.2, ?_, ?_⟩)) (fun j hj _ => hfar j hj.2.2.1)
        · rcases hj.1 with h | h | h
          · have := (F6.out j h).1
            omega
          · have := (FX.out j h).2.1
            omega
          · have := F5.out
            have := blk_lt F5.out
            omega
        · rcases hj.1 with h | h | h
          · exact (F6.out j h).1
          · exact (FX.out j h).2.1
          · have := blk_lt F5.out
            omega
      · intro j hj
        refine ⟨hj.2.2.2, fun hT => ?_, ?_⟩
        · rcases hj.1 with h | h | h
          · exact (F6.out j h).2.1 (.inl hT)
          · exact (FX.out j h).1 hT
          · have := FT.out j hT
            omega
        · obtain ⟨cs, q, hc⟩ := hj.2.1
          exact ⟨cs, q, (hfar j hj.2.2.1).trans hc⟩
      · rw [hW2]
        exact below_set G5.out (by show w.heap.size ≤ w.heap.size + 2; omega)
    have hTk : ∀ j, T j ∧ w1.heap.size ≤ j → W2.heap[j]? = W.heap[j]? := fun j hj => by
      have h4 := HB.out.2.2.2.2.1
      exact (hfar j (by omega)).trans (G2.out.block j (FT.out j hj.1) (fun e => (F6.out j ((Kd.S_R F1.out).1 j e.symm)).2.1 (.inl hj.1)))
    have c62 : W2.cell? ⟨w.heap.size + 2, 0, none⟩ = some (.slice A1 nn c1) := (blk_cell hb5 0).trans rfl
    have HI := Aside0.mk hI
    have HTK := Aside0.mk hTk
    clear hW2 hb5 hfar hI hTk c61 z61
    gi_wp2
    exact ⟨HTK.out, HI.out⟩
  case done =>
    rintro D W hD ⟨v, okr, h1, h2, h3, h4, h5, h6, h7⟩ hK
    rw [List.take_length] at h1
    obtain ⟨A1, c1, rfl⟩ := Kd.S_slice h1
    obtain ⟨nn, hnn⟩ : ∃ nn, nn = s.l.length := ⟨_, rfl⟩
    rw [← hnn] at h1 h4
    have c4 : W.cell? ⟨w.heap.size + 2, 0, none⟩ = some (.slice A1 nn c1) := (blk_cell h4 0).trans rfl
    have F1 := Aside0.mk h1
    have F2 := Aside0.mk h2
    have F3 := Aside0.mk h3
    have F6 := Aside0.mk h6
    have F7 := Aside0.mk h7
    have FN := Aside0.mk hnn
    have c2 : W.cell? ⟨w.heap.size, 0, none⟩ = some (.slice none 0 0) := (blk_cell h2 0).trans rfl
    have z2 : W.frozen? ⟨w.heap.size, 0, none⟩ = false := blk_frozen h2 0
    have c3 : W.cell? ⟨w.heap.size + 1, 0, none⟩ = some (.bool false) := (blk_cell h3 0).trans rfl
    have z3 : W.frozen? ⟨w.heap.size + 1, 0, none⟩ = false := blk_frozen h3 0
    clear h1 h2 h3 h4 h5 h6 h7 hnn hI0
    have hdf : ((W.setCell ⟨w.heap.size, 0, none⟩ (.slice A1 nn c1)).setCell ⟨w.heap.size + 1, 0, none⟩ (.bool true)).heap[D]? = some (.deferred (some [])) := by
      have h4 := HB.out.2.2.2.2.1
      exact (Below.heap_setCell _ _ _ D (by show D ≠ w.heap.size + 1; omega)).trans ((Below.heap_setCell _ _ _ D (by show D ≠ w.heap.size; omega)).trans hK)
    have HDF := Aside0.mk hdf
    have HDD := Aside0.mk hD
    clear hK hdf hD
    go_wp2
    obtain ⟨Wf, hWf⟩ : ∃ Wf, Wf = (W.setCell ⟨w.heap.size, 0, none⟩ (.slice A1 nn c1)).setCell ⟨w.heap.size + 1, 0, none⟩ (.bool true) := ⟨_, rfl⟩
    rw [← hWf] at HDF ⊢
    refine ⟨by simp, .inl ⟨_, _, rfl, run_takeDeferred HDF.out, ?_⟩⟩
    have hDne : w.heap.size + 4 ≤ D := by have h4 := HB.out.2.2.2.2.1; have := HDD.out; omega
    have b2 : (Wf.putObj D (.deferred none)).heap[w.heap.size]? = some (.cells #[.slice A1 nn c1] 25 (0, 0)) := by
      rw [World.putObj_heap_other (by omega), hWf]
      refine blk_far ?_ (by show w.heap.size ≠ w.heap.size + 1; omega) _
      simpa using blk_set F2.out 0 (.slice A1 nn c1)
    have b3 : (Wf.putObj D (.deferred none)).heap[w.heap.size + 1]? = some (.cells #[.bool true] 4 (0, 0)) := by
      rw [World.putObj_heap_other (by omega), hWf]
      have := blk_set (w := W.setCell ⟨w.heap.size, 0, none⟩ (.slice A1 nn c1)) (blk_far F3.out (by show w.heap.size + 1 ≠ w.heap.size; omega) _) 0 (.bool true)
      simpa using this
    refine ⟨_, results_25_4 (fn := Try.f12) rfl _ _ w.heap.size (w.heap.size + 1) nn c1 A1 true rfl rfl ((blk_cell b2 0).trans rfl) ((blk_cell b3 0).trans rfl), A1, nn, c1, rfl, FN.out, ?_, ?_, ?_⟩
    · rw [FN.out]
      rw [FN.out] at F1
      exact (Kd.S_reads' F1.out).2.1
    · refine Kd.S_mono (Kd.S_step F1.out (fun j hj _ => ?_)) (fun _ _ => trivial)
      have h6 := F6.out j hj
      rw [hWf]
      have hne : j ≠ D := fun e => by
        obtain ⟨cs, q, hc⟩ := h6.2.2
        have h7 := HDF.out
        rw [hWf, ← e] at h7
        rw [Below.heap_setCell _ ⟨w.heap.size + 1, 0, none⟩ _ j (by show j ≠ w.heap.size + 1; omega), Below.heap_setCell _ ⟨w.heap.size, 0, none⟩ _ j (by show j ≠ w.heap.size; omega), hc] at h7
        cases h7
      exact (World.putObj_heap_other (by omega)).trans ((Below.heap_setCell _ ⟨w.heap.size + 1, 0, none⟩ _ j (by show j ≠ w.heap.size + 1; omega)).trans (Below.heap_setCell _ ⟨w.heap.size, 0, none⟩ _ j (by show j ≠ w.heap.size; omega)))
    · rw [hWf]
      have := below_set (g := w.heap.size + 1) (j := 0) (v := .bool true) (below_set (g := w.heap.size) (j := 0) (v := .slice A1 nn c1) F7.out (Nat.le_refl _)) (by omega)
      exact this.grown (grownBy_putObj' _ D _) this.size (fun r e => by cases e; omega)
  case stop => exact fun D c W _ h _ => h.elim
end Go.Proofs.Ytcbejpmmlcdhnaa.PW
namespace Go.Proofs.Ytcbejpmmlcdhnaa.PW
open Go.RowKit Go.Proofs.YtcbejpmmlcdhnaaW.PrintWords Go.Proofs.YtcbejpmmlcdhnaaW.PrintLast Go.Proofs.YtcbejpmmlcdhnaaW.PrintMore
set_option linter.unusedVariables false
set_option linter.unusedSimpArgs false

/-- The next entry, and the ring with it, held. -/
def nxt (s : RS) : S33 := ⟨(s.la : Int) + 1, s.lv, 0, 9, 0, []⟩
def stepS (s : RS) : RS := (s.app (nxt s)).hold ((s.la : Int) + 1)
def Good (room m : Nat) (s : RS) : Prop := s.room = room ∧ s.ho = s.la ∧ s.la = m ∧ s.l.length = min m room ∧ isB s.lv = true
theorem RS.lv_snoc (s : RS) (l : List S33) (x : S33) (h : s.l = l ++ [x]) : s.lv = x.f1 := by
  unfold RS.lv
  rw [h, List.getLast?_append]
  simp
theorem Good_step {room m : Nat} {s : RS} (h1 : 1 ≤ room) (hm : m ≤ 100000) (h : Good room m s) : Good room (m + 1) (stepS s) := by
  obtain ⟨g1, g2, g3, g4, g5⟩ := h
  have hac : s.acode (nxt s) = 0 := by
    unfold RS.acode
    have hb : isB (nxt s).f1 = true := g5
    rw [hb, if_neg (by simp; omega), if_neg (by simp [nxt]), if_neg (by show ¬ s.lv < s.lv; omega), if_neg]
    rintro ⟨h2, h3⟩
    have : s.la = s.fl + s.l.length := rfl
    omega
  have happ : s.app (nxt s) = s.push (nxt s) := by unfold RS.app; rw [if_pos hac]
  have hla : s.la = s.fl + s.l.length := rfl
  have key : (s.push (nxt s)).room = room ∧ (s.push (nxt s)).ho = s.la ∧ (s.push (nxt s)).la = m + 1 ∧ (s.push (nxt s)).l.length = min (m + 1) room ∧ (s.push (nxt s)).lv = s.lv := by
    unfold RS.push
    by_cases hf : s.l.length = s.room
    · rw [if_pos hf]
      refine ⟨g1, g2, ?_, ?_, (RS.lv_snoc _ _ (nxt s) rfl).trans rfl⟩
      · show s.fl + 1 + (s.l.drop 1 ++ [nxt s]).length = m + 1
        rw [List.length_append, List.length_drop, List.length_singleton]
        omega
      · show (s.l.drop 1 ++ [nxt s]).length = _
        rw [List.length_append, List.length_drop, List.length_singleton]
        omega
    · rw [if_neg hf]
      refine ⟨g1, g2, ?_, ?_, (RS.lv_snoc _ _ (nxt s) rfl).trans rfl⟩
      · show s.fl + (s.l ++ [nxt s]).length = m + 1
        rw [List.length_append, List.length_singleton]
        omega
      · show (s.l ++ [nxt s]).length = _
        rw [List.length_append, List.length_singleton]
        omega
  obtain ⟨k1, k2, k3, k4, k5⟩ := key
  have hc : (s.push (nxt s)).code ((s.la : Int) + 1) = 0 := by
    unfold RS.code
    rw [btw_zero, k2, k3]
    omega
  unfold stepS
  rw [happ]
  unfold RS.hold
  rw [if_pos hc]
  refine ⟨k1, ?_, k3, k4, by show isB (s.push (nxt s)).lv = true; rw [k5]; exact g5⟩
  show ((s.la : Int) + 1).toNat = (s.push (nxt s)).la
  rw [k3]
  omega
theorem Good_fill (room n : Nat) (h1 : 1 ≤ room) (hn : n ≤ 200) : Good room n (fillS room n) := by
  refine ⟨rfl, ?_, fillS_la _ _, fillS_len _ _, ?_⟩
  · rw [fillS_la]; rfl
  · rw [fillS_lv _ _ h1]
    exact decide_eq_true (by omega)
/-- A block of the kinds that a ring, a list of entries, a list of ops lie in. -/
def Rowy (W : World) (j : Nat) : Prop := ∃ cs q, W.heap[j]? = some (.cells cs q (0, 0)) ∧ (q = 66 ∨ q = 55 ∨ q = 33)
theorem Rowy.celly {W : World} {j : Nat} (h : Rowy W j) : Celly W j := by obtain ⟨cs, q, h, _⟩ := h; exact ⟨cs, q, h⟩
theorem Rowy.ne {W : World} {j g t : Nat} {cs : Array Value} (h : Rowy W j) (hg : W.heap[g]? = some (.cells cs t (0, 0))) (ht : t ≠ 66 ∧ t ≠ 55 ∧ t ≠ 33) : j ≠ g := by
  obtain ⟨cs', q, h, hq⟩ := h
  rintro rfl
  rw [h] at hg
  injection hg with hg
  injection hg with _ hg
  rcases hq with h | h | h <;> simp_all
theorem Rowy.same {W W' : World} {j : Nat} (h : Rowy W j) (he : W'.heap[j]? = W.heap[j]?) : Rowy W' j := by obtain ⟨cs, q, h, hq⟩ := h; exact ⟨cs, q, he.trans h, hq⟩
theorem R55_rowy {w : World} {base : Nat} {ok : Nat → Prop} {v : Value} {l : List S55} (h : Kd.R k55 55 w base ok v l) : Kd.R k55 55 w base (fun k => ok k ∧ Rowy w k) v l :=
  Kd.R_mono (Kd.R_bound h) (fun k hk => ⟨hk.1, by
    obtain ⟨q, hq, cs, hc⟩ := hk.2.2.2
    refine ⟨cs, q, hc, .inr (.inl ?_)⟩
    simpa [k55, Kd.iso, Kd.pair, Kd.int, Kd.scalar, Kd.string] using hq⟩)
theorem S33_rowy {w : World} {base : Nat} {ok : Nat → Prop} {v : Value} {l : List S33} (h : Kd.S k33 33 w base ok v l) : Kd.S k33 33 w base (fun k => ok k ∧ Rowy w k) v l :=
  Kd.S_mono (Kd.S_bound h) (fun k hk => ⟨hk.1, by
    obtain ⟨q, hq, cs, hc⟩ := hk.2.2.2
    refine ⟨cs, q, hc, ?_⟩
    have : q = 33 ∨ q = 55 := by simpa [k33, k55, Kd.iso, Kd.pair, Kd.int, Kd.scalar, Kd.string, Kd.slice] using hq
    rcases this with h | h
    · exact .inr (.inr h)
    · exact .inr (.inl h)⟩)
theorem Ring_rowy {W : World} {base b : Nat} {ok : Nat → Prop} {s : RS} (h : RingIs W base ok (some b) s) : RingIs W base (fun k => ok k ∧ Rowy W k) (some b) s := by
  obtain ⟨h0, E, ⟨h1, h2, C, h3, h4, h5, h6, h7, h8, h9, h10⟩, hE⟩ := h
  refine ⟨h0, E, ⟨h1, ⟨h2, C, 66, h3, .inl rfl⟩, C, h3, h4, h5, h6, h7, h8, h9, fun k hk' => ?_⟩, hE⟩
  obtain ⟨e1, e2, e3, e4, e5, v, e6, e7⟩ := h10 k hk'
  exact ⟨e1, e2, e3, e4, e5, v, e6, Kd.R_mono (R55_rowy e7) (fun j hj => ⟨⟨hj.1.1, hj.2⟩, hj.1.2⟩)⟩
theorem Ring_old {W : World} {base b : Nat} {ok : Nat → Prop} {s : RS} (h : RingIs W base ok (some b) s) : RingIs W base (fun k => ok k ∧ k < W.heap.size) (some b) s := by
  obtain ⟨h0, E, h1, hE⟩ := h
  exact ⟨h0, E, RingAt_old h1, hE⟩
theorem Ring_lower {W : World} {base base' b : Nat} {ok : Nat → Prop} {s : RS} (h : RingIs W base ok (some b) s) (hb : base' ≤ base) : RingIs W base' ok (some b) s := by
  obtain ⟨h0, E, ⟨h1, h2, C, h3, h4, h5, h6, h7, h8, h9, h10⟩, hE⟩ := h
  refine ⟨h0, E, ⟨Nat.le_trans hb h1, h2, C, h3, h4, h5, h6, h7, h8, h9, fun k hk' => ?_⟩, hE⟩
  obtain ⟨e1, e2, e3, e4, e5, v, e6, e7⟩ := h10 k hk'
  exact ⟨e1, e2, e3, e4, e5, v, e6, Kd.R_lower e7 hb⟩
/-- The law's own boxes. -/
def Named (p : Nat) (kk : Int) (B8 B9 B11 B12 Bn b : Nat) (v9 : Value) (i : Nat) (W : World) : Prop :=
  W.heap[p]? = some (.cells #[.int .i64 kk] 3 (0, 0)) ∧ W.heap[p + 1]? = some (.cells #[.bool false] 4 (0, 0)) ∧ W.heap[B8]? = some (.cells #[.pointer (some ⟨b, 0, none⟩)] 23 (0, 0)) ∧ W.heap[B9]? = some (.cells #[v9] 25 (0, 0)) ∧
    W.heap[B11]? = some (.cells #[.func (.func 33) #[] #[.pointer (some ⟨Bn, 0, none⟩)]] 29 (0, 0)) ∧ W.heap[B12]? = some (.cells #[.int .i64 (i : Int)] 3 (0, 0)) ∧ W.heap[Bn]? = some (.cells #[ptr (some b)] 23 (0, 0))
theorem Named_step {p B8 B9 B11 B12 Bn b i : Nat} {kk : Int} {v9 : Value} {W W' : World} (h : Named p kk B8 B9 B11 B12 Bn b v9 i W) (hm : ∀ j, Celly W j → (¬ Rowy W j) → W'.heap[j]? = W.heap[j]?) : Named p kk B8 B9 B11 B12 Bn b v9 i W' := by
  have key : ∀ {j : Nat} {cs : Array Value} {q : TypeId}, W.heap[j]? = some (.cells cs q (0, 0)) → (q ≠ 66 ∧ q ≠ 55 ∧ q ≠ 33) → W'.heap[j]? = some (.cells cs q (0, 0)) := fun {j cs q} hj hq => (hm j ⟨cs, q, hj⟩ (fun hr => hr.ne hj hq rfl)).trans hj
  obtain ⟨h1, h2, h3, h4, h5, h6, h7⟩ := h
  exact ⟨key h1 (by decide), key h2 (by decide), key h3 (by decide), key h4 (by decide), key h5 (by decide), key h6 (by decide), key h7 (by decide)⟩
/-- While the entries L are gone through: i of them have come. -/
def MayI (w0 : World) (n room b : Nat) (kk : Int) (B8 B9 B11 B12 Bn : Nat) (A9 : Option Addr) (n9 c9 : Nat) (L : List S33) (T : Nat → Prop) (i : Nat) (W : World) : Prop :=
  ∃ (s : RS) (okr okw : Nat → Prop), Good room (n + i) s ∧ RingIs W w0.heap.size okr (some b) s ∧ Kd.S k33 33 W w0.heap.size okw (.slice A9 n9 c9) L ∧ Named w0.heap.size kk B8 B9 B11 B12 Bn b (.slice A9 n9 c9) i W ∧
    (∀ j, okr j → ¬ T j ∧ ¬ okw j ∧ Rowy W j) ∧ (∀ j, okw j → ¬ T j ∧ Rowy W j) ∧ Below w0.heap.size w0 W ∧ (i = 0 → s.l = L)
theorem MayI_own {w0 : World} {n room b : Nat} {kk : Int} {B8 B9 B11 B12 Bn : Nat} {A9 : Option Addr} {n9 c9 : Nat} {L : List S33} {B : Nat} (hB : w0.heap.size ≤ B) : TOwn B (MayI w0 n room b kk B8 B9 B11 B12 Bn A9 n9 c9 L) := by
  rintro T i W W' row T' ⟨s, okr, okw, h1, h2, h3, h4, h5, h6, h7, h8⟩ hg hr hT
  have hnew : ∀ j, Celly W j → T' j → T j := fun j hj ht => (hT j ht).resolve_right (fun h => by have := hj.lt; omega)
  exact ⟨s, okr, okw, h1, RingIs_step h2 (fun j hj _ => celly_grown (h5 j hj).2.2.celly hg hr), Kd.S_step h3 (fun j hj _ => celly_grown (h6 j hj).2.celly hg hr), Named_step h4 (fun j hj _ => celly_grown hj hg hr),
    fun j hj => ⟨fun hx => (h5 j hj).1 (hnew j (h5 j hj).2.2.celly hx), (h5 j hj).2.1, (h5 j hj).2.2.same (celly_grown (h5 j hj).2.2.celly hg hr)⟩,
    fun j hj => ⟨fun hx => (h6 j hj).1 (hnew j (h6 j hj).2.celly hx), (h6 j hj).2.same (celly_grown (h6 j hj).2.celly hg hr)⟩, h7.grown hg h7.size (fun r e => by have := (hr r e).1; omega), h8⟩
end Go.Proofs.Ytcbejpmmlcdhnaa.PW
namespace Go.Proofs.Ytcbejpmmlcdhnaa.PW
open Go.RowKit Go.Proofs.YtcbejpmmlcdhnaaW.PrintWords Go.Proofs.YtcbejpmmlcdhnaaW.PrintLast Go.Proofs.YtcbejpmmlcdhnaaW.PrintMore
set_option linter.unusedVariables false
set_option linter.unusedSimpArgs false

/-- An act of a script. -/
structure S47 where
  k : Int
  n : Int
  m : Int
  e : S33
def actV (a : S47) (v : Value) : Value := .agg #[.int .i64 a.k, .int .i64 a.n, .int .i64 a.m, .int .i64 a.e.f0, .int .i64 a.e.f1, .int .i64 a.e.f2, .int .i64 a.e.f3, .int .i64 a.e.f4, v]
/-- The entry of an Append near. -/
def setE (e : S33) (x y : Int) : S33 := { e with f0 := x, f1 := y }
theorem setE_f5 (e : S33) (x y : Int) : (setE e x y).f5 = e.f5 := rfl
def nearE (la : Nat) (lv : Int) (a : S47) : S33 := setE a.e (wrap64 (wrap64 ((la : Int) + 1) + a.n)) (wrap64 (lv + a.m))
theorem nearE_f5 (la : Nat) (lv : Int) (a : S47) : (nearE la lv a).f5 = a.e.f5 := by unfold nearE; exact setE_f5 _ _ _
theorem blk3 (w : World) (o0 o1 o2 : Obj) {W : World} (hW : W = ((w.alloc o0).alloc o1).alloc o2) : W.heap[w.heap.size]? = some o0 ∧ W.heap[w.heap.size + 1]? = some o1 ∧ W.heap[w.heap.size + 1 + 1]? = some o2 ∧ W.heap.size = w.heap.size + 3 ∧ Below w.heap.size w W := by
  subst hW
  have s1 := szA w o0
  have s2 := szA (w.alloc o0) o1
  have s3 := szA ((w.alloc o0).alloc o1) o2
  have n0 := heap_alloc_new w o0
  have n1 := heap_alloc_new (w.alloc o0) o1
  have n2 := heap_alloc_new ((w.alloc o0).alloc o1) o2
  have b2 : Below (w.alloc o0).heap.size (w.alloc o0) ((w.alloc o0).alloc o1) := below_alloc (Below.refl _ _) _
  have b3 : Below ((w.alloc o0).alloc o1).heap.size ((w.alloc o0).alloc o1) (((w.alloc o0).alloc o1).alloc o2) := below_alloc (Below.refl _ _) _
  rw [s1] at n1
  rw [s2, s1] at n2
  refine ⟨?_, ?_, ?_, by omega, below_alloc (below_alloc (below_alloc (Below.refl _ _) _) _) _⟩
  · exact (b3.block _ (by omega)).trans ((b2.block _ (by omega)).trans n0)
  · exact (b3.block _ (by omega)).trans n1
  · exact n2
set_option maxHeartbeats 4000000 in
set_option maxRecDepth 100000 in
theorem near_C (la : Nat) (lv : Int) (a : S47) (A : Option Addr) (n c : Nat) (W : World) :
    Calls Try.prog 40 #[.int .i64 (la : Int), .int .i64 lv, actV a (.slice A n c)] W fun e w' => e = .returned (entV (nearE la lv a) (.slice A n c)) ∧ Below W.heap.size W w' := by
  unfold actV entV
  go_enter Try.func40, Try.ntmps40
  go_wp2_with (with_reducible refine stop_store rfl ?_)
  obtain ⟨b0, b1, b2, bs, hB0⟩ := blk3 W (.cells #[.int .i64 a.k, .int .i64 a.n, .int .i64 a.m, .int .i64 a.e.f0, .int .i64 a.e.f1, .int .i64 a.e.f2, .int .i64 a.e.f3, .int .i64 a.e.f4, .slice A n c] 47) (.cells zeroCells 33) (.cells zeroCells 33) rfl
  refine wpList_store rfl rfl 33 (.tmp 7) (.tmp 9) rfl (entV a.e (.slice A n c)) [.int .i64 a.e.f0, .int .i64 a.e.f1, .int .i64 a.e.f2, .int .i64 a.e.f3, .int .i64 a.e.f4, .slice A n c] rfl rfl b2 rfl size33 (by show 0 + 6 ≤ 6; omega) (by simp [Value.oneCell']) ?_
  obtain ⟨w3, hw3⟩ : ∃ w3, w3 = (((W.alloc (.cells #[.int .i64 a.k, .int .i64 a.n, .int .i64 a.m, .int .i64 a.e.f0, .int .i64 a.e.f1, .int .i64 a.e.f2, .int .i64 a.e.f3, .int .i64 a.e.f4, .slice A n c] 47)).alloc (.cells zeroCells 33)).alloc (.cells zeroCells 33)).setCells (W.heap.size + 1 + 1) 0 [.int .i64 a.e.f0, .int .i64 a.e.f1, .int .i64 a.e.f2, .int .i64 a.e.f3, .int .i64 a.e.f4, .slice A n c] := ⟨_, rfl⟩
  have g2 : w3.heap[W.heap.size + 1 + 1]? = some (.cells #[.int .i64 a.e.f0, .int .i64 a.e.f1, .int .i64 a.e.f2, .int .i64 a.e.f3, .int .i64 a.e.f4, .slice A n c] 33 (0, 0)) := by rw [hw3]; exact blk_full [.int .i64 a.e.f0, .int .i64 a.e.f1, .int .i64 a.e.f2, .int .i64 a.e.f3, .int .i64 a.e.f4, .slice A n c] b2 rfl
  have g0 : w3.heap[W.heap.size]? = some (.cells #[.int .i64 a.k, .int .i64 a.n, .int .i64 a.m, .int .i64 a.e.f0, .int .i64 a.e.f1, .int .i64 a.e.f2, .int .i64 a.e.f3, .int .i64 a.e.f4, .slice A n c] 47 (0, 0)) := by rw [hw3]; exact (setCells_far _ _ _ (by omega)).trans b0
  have g1 : w3.heap[W.heap.size + 1]? = some (.cells zeroCells 33 (0, 0)) := by rw [hw3]; exact (setCells_far _ _ _ (by omega)).trans b1
  have hf : Frm W w3 (fun _ => False) := by rw [hw3]; exact (Frm.of_below hB0 _).setCells (.inr (by omega)) _ _
  rw [← hw3]
  have m1 : w3.cell? ⟨W.heap.size, 1, none⟩ = some (.int .i64 a.n) := (blk_cell g0 1).trans rfl
  have m2 : w3.cell? ⟨W.heap.size, 2, none⟩ = some (.int .i64 a.m) := (blk_cell g0 2).trans rfl
  have e0 : w3.cell? ⟨W.heap.size + 1 + 1, 0, none⟩ = some (.int .i64 a.e.f0) := (blk_cell g2 0).trans rfl
  have e1 : w3.cell? ⟨W.heap.size + 1 + 1, 1, none⟩ = some (.int .i64 a.e.f1) := (blk_cell g2 1).trans rfl
  have e2 : w3.cell? ⟨W.heap.size + 1 + 1, 2, none⟩ = some (.int .i64 a.e.f2) := (blk_cell g2 2).trans rfl
  have e3 : w3.cell? ⟨W.heap.size + 1 + 1, 3, none⟩ = some (.int .i64 a.e.f3) := (blk_cell g2 3).trans rfl
  have e4 : w3.cell? ⟨W.heap.size + 1 + 1, 4, none⟩ = some (.int .i64 a.e.f4) := (blk_cell g2 4).trans rfl
  have e5 : w3.cell? ⟨W.heap.size + 1 + 1, 5, none⟩ = some (.slice A n c) := (blk_cell g2 5).trans rfl
  have z0 : w3.frozen? ⟨W.heap.size + 1 + 1, 0, none⟩ = false := blk_frozen g2 0
  have z1 : w3.frozen? ⟨W.heap.size + 1 + 1, 1, none⟩ = false := blk_frozen g2 1
  have G1 := Aside0.mk g1
  have HF := Aside0.mk hf
  clear hw3 g0 g1 g2 b0 b1 b2 bs hB0 hf
  go_wp2_with (with_reducible refine stop_store (t := 33) rfl ?_)
  obtain ⟨x0, hx0⟩ : ∃ x0, Aside0 (wrap64 (wrap64 ((la : Int) + 1) + a.n) = x0) := ⟨_, .mk rfl⟩
  obtain ⟨x1, hx1⟩ : ∃ x1, Aside0 (wrap64 (lv + a.m) = x1) := ⟨_, .mk rfl⟩
  rw [hx0.out, hx1.out]
  have g1' : ((w3.setCell ⟨W.heap.size + 1 + 1, 0, none⟩ (.int .i64 x0)).setCell ⟨W.heap.size + 1 + 1, 1, none⟩ (.int .i64 x1)).heap[W.heap.size + 1]? = some (.cells zeroCells 33 (0, 0)) :=
    (Below.heap_setCell _ _ _ _ (show W.heap.size + 1 ≠ W.heap.size + 1 + 1 by omega)).trans ((Below.heap_setCell _ _ _ _ (show W.heap.size + 1 ≠ W.heap.size + 1 + 1 by omega)).trans G1.out)
  have HF2 := Aside0.mk (((HF.out.set_ (p := ⟨W.heap.size + 1 + 1, 0, none⟩) (.inr (by show W.heap.size ≤ W.heap.size + 1 + 1; omega)) (.int .i64 x0)).set_ (p := ⟨W.heap.size + 1 + 1, 1, none⟩) (.inr (by show W.heap.size ≤ W.heap.size + 1 + 1; omega)) (.int .i64 x1)).setCells (g := W.heap.size + 1) (.inr (by omega)) 0 [.int .i64 x0, .int .i64 x1, .int .i64 a.e.f2, .int .i64 a.e.f3, .int .i64 a.e.f4, .slice A n c])
  refine wpList_store rfl rfl 33 (.tmp 6) (.tmp 21) rfl (entV (setE a.e x0 x1) (.slice A n c)) [.int .i64 x0, .int .i64 x1, .int .i64 a.e.f2, .int .i64 a.e.f3, .int .i64 a.e.f4, .slice A n c] rfl rfl g1' rfl size33 (by show 0 + 6 ≤ 6; omega) (by simp [Value.oneCell']) ?_
  have g3 := Aside0.mk (blk_full [.int .i64 x0, .int .i64 x1, .int .i64 a.e.f2, .int .i64 a.e.f3, .int .i64 a.e.f4, .slice A n c] g1' rfl)
  clear m1 m2 e0 e1 e2 e3 e4 e5 z0 z1 g1'
  go_wp2
  refine bodyPost_ret (results_cell_row rfl _ _ (W.heap.size + 1) 33 _ (0, 0) _ rfl g3.out Try.underlying33 rfl (by kernel_rfl)) rfl ?_
  exact ⟨by rw [show nearE la lv a = setE a.e x0 x1 by unfold nearE; rw [hx0.out, hx1.out]]; rfl, HF2.out.below (fun k hk _ => hk.elim) (Nat.le_refl _)⟩
end Go.Proofs.Ytcbejpmmlcdhnaa.PW
namespace Go.Proofs.Ytcbejpmmlcdhnaa.PW
open Go.RowKit Go.Proofs.YtcbejpmmlcdhnaaW.PrintWords Go.Proofs.YtcbejpmmlcdhnaaW.PrintLast Go.Proofs.YtcbejpmmlcdhnaaW.PrintMore
set_option linter.unusedVariables false
set_option linter.unusedSimpArgs false

/-- What the hold is said to be behind a Hold. -/
def RS.keep (s : RS) (x held : Int) : Int := if s.code x = 0 then x else held
theorem Live.step {W W1 : World} {p : Option Nat} {A : Option Addr} {n : Nat} {l : List S55} (h : Live W p A n l) (hf : Frm W W1 (own1 p)) : Live W1 p A n l := fun W' hw => h W' (hf.then_ hw (fun _ hk _ => hk))
theorem Live.of_R {W w1 : World} {base : Nat} {ok : Nat → Prop} {p : Option Nat} {s : RS} {A : Option Addr} {n c : Nat} {l : List S55} (h : RingIs W base ok p s) (hn : l.length = n) (hv : Kd.R k55 55 w1 W.heap.size (fun _ => True) (.slice A n c) l) : Live w1 p A n l := by
  intro W' hf
  have hv1 := R_frm (ok := fun k => W.heap.size ≤ k) (Kd.R_mono (Kd.R_bound hv) (fun k hk => hk.2.1)) hf (fun k hk hS => by
    cases p with
    | none => cases hS
    | some b =>
      obtain rfl : b = k := Option.some.inj hS
      obtain ⟨_, E, hR, _⟩ := h
      exact absurd (World.block_lt_of_cell? W ⟨b, 384, none⟩ (RingAt_cells hR).1) (by show ¬ b < _; omega))
  obtain ⟨A', c', e, _, hC⟩ := Kd.R_reads hv1
  injection e with e1 e2 e3
  rw [e1, ← hn]
  exact hC
section
variable {W : World} {base : Nat} {ok : Nat → Prop} {p : Option Nat} {s : RS}
set_option maxHeartbeats 4000000 in
set_option maxRecDepth 100000 in
theorem did_none (h : RingIs W base ok p s) (a : S47) (v : Value) (hfresh : ∀ k, W.heap.size ≤ k → ok k) (held : Int) (k1 : (a.k == 1) = false) (k2 : (a.k == 2) = false) (k3 : (a.k == 3) = false) (k4 : (a.k == 4) = false) (k5 : (a.k == 5) = false) (k6 : (a.k == 6) = false) :
    Calls Try.prog 19 #[ptr p, actV a v, .int .i64 held] W fun e w' => e = .returned (.tuple #[.bool false, .int .i64 held]) ∧ RingIs w' base ok p s ∧ Frm W w' (own1 p) := by
  have H := Aside0.mk h
  have HF := Aside0.mk hfresh
  clear h hfresh
  unfold actV
  go_enter Try.func19, Try.ntmps19
  go_wp2_with fail
  refine (last_R (RingIs_below H.out (below_alloc (Below.refl _ _) _))).mono ?_
  rintro e w1 ⟨rfl, ⟨⟨n1, rfl⟩⟩⟩
  go_wp2
  go_ret2
  exact ⟨rfl, RingIs_below H.out (pw_below_drewN (below_alloc (Below.refl _ _) _) _), (Frm.refl W _).alloc _ |>.drewN _⟩
set_option maxHeartbeats 4000000 in
set_option maxRecDepth 100000 in
theorem did_cut (h : RingIs W base ok p s) (a : S47) (v : Value) (hfresh : ∀ k, W.heap.size ≤ k → ok k) (held : Int) (k1 : (a.k == 1) = false) (k2 : (a.k == 2) = false) (k3 : (a.k == 3) = false) (k4 : (a.k == 4) = false) (k5 : (a.k == 5) = false) (k6 : (a.k == 6) = true) :
    Calls Try.prog 19 #[ptr p, actV a v, .int .i64 held] W fun e w' => e = .returned (.tuple #[.bool (s.code a.n == 0), .int .i64 held]) ∧ RingIs w' base ok p (s.cut a.n) ∧ Frm W w' (own1 p) := by
  have H := Aside0.mk h
  have HF := Aside0.mk hfresh
  clear h hfresh
  unfold actV
  go_enter Try.func19, Try.ntmps19
  go_wp2_with fail
  refine (last_R (RingIs_below H.out (below_alloc (Below.refl _ _) _))).mono ?_
  rintro e w1 ⟨rfl, ⟨⟨n1, rfl⟩⟩⟩
  have HB := Aside0.mk (RingIs_below H.out (pw_below_drewN (below_alloc (Below.refl W.heap.size W) (.cells #[.int .i64 a.k, .int .i64 a.n, .int .i64 a.m, .int .i64 a.e.f0, .int .i64 a.e.f1, .int .i64 a.e.f2, .int .i64 a.e.f3, .int .i64 a.e.f4, v] 47)) n1))
  go_wp2_with fail
  refine (cut_R a.n HB.out).mono ?_
  rintro e w2 ⟨rfl, hr, hf⟩
  have HR := Aside0.mk hr
  have HF2 := Aside0.mk (Frm.then_ ((((Frm.refl W (own1 p)).alloc _).drewN n1)) hf (fun _ hk _ => hk))
  clear hr hf
  go_wp2
  go_ret2
  exact ⟨rfl, HR.out, HF2.out⟩
set_option maxHeartbeats 4000000 in
set_option maxRecDepth 100000 in
theorem did_cutn (h : RingIs W base ok p s) (a : S47) (v : Value) (hfresh : ∀ k, W.heap.size ≤ k → ok k) (held : Int) (k1 : (a.k == 1) = false) (k2 : (a.k == 2) = false) (k3 : (a.k == 3) = false) (k4 : (a.k == 4) = false) (k5 : (a.k == 5) = true) :
    Calls Try.prog 19 #[ptr p, actV a v, .int .i64 held] W fun e w' => e = .returned (.tuple #[.bool (s.code (wrap64 ((s.la : Int) - a.n)) == 0), .int .i64 held]) ∧ RingIs w' base ok p (s.cut (wrap64 ((s.la : Int) - a.n))) ∧ Frm W w' (own1 p) := by
  obtain ⟨x0, hx0⟩ : ∃ x0, x0 = wrap64 ((s.la : Int) - a.n) := ⟨_, rfl⟩
  rw [← hx0]
  have HX := Aside0.mk hx0.symm
  clear hx0
  have H := Aside0.mk h
  have HF := Aside0.mk hfresh
  clear h hfresh
  unfold actV
  go_enter Try.func19, Try.ntmps19
  go_wp2_with fail
  refine (last_R (RingIs_below H.out (below_alloc (Below.refl _ _) _))).mono ?_
  rintro e w1 ⟨rfl, ⟨⟨n1, rfl⟩⟩⟩
  have HB := Aside0.mk (RingIs_below H.out (pw_below_drewN (below_alloc (Below.refl W.heap.size W) (.cells #[.int .i64 a.k, .int .i64 a.n, .int .i64 a.m, .int .i64 a.e.f0, .int .i64 a.e.f1, .int .i64 a.e.f2, .int .i64 a.e.f3, .int .i64 a.e.f4, v] 47)) n1))
  go_wp2_with fail
  rw [HX.out]
  refine (cut_R x0 HB.out).mono ?_
  rintro e w2 ⟨rfl, hr, hf⟩
  have HR := Aside0.mk hr
  have HF2 := Aside0.mk (Frm.then_ ((((Frm.refl W (own1 p)).alloc _).drewN n1)) hf (fun _ hk _ => hk))
  clear hr hf
  go_wp2
  go_ret2
  exact ⟨rfl, HR.out, HF2.out⟩
set_option maxHeartbeats 4000000 in
set_option maxRecDepth 100000 in
theorem did_hold (h : RingIs W base ok p s) (a : S47) (v : Value) (hfresh : ∀ k, W.heap.size ≤ k → ok k) (held : Int) (k1 : (a.k == 1) = false) (k2 : (a.k == 2) = false) (k3 : (a.k == 3) = false) (k4 : (a.k == 4) = true) :
    Calls Try.prog 19 #[ptr p, actV a v, .int .i64 held] W fun e w' => e = .returned (.tuple #[.bool (s.code a.n == 0), .int .i64 (s.keep a.n held)]) ∧ RingIs w' base ok p (s.hold a.n) ∧ Frm W w' (own1 p) := by
  have H := Aside0.mk h
  have HF := Aside0.mk hfresh
  clear h hfresh
  unfold actV
  go_enter Try.func19, Try.ntmps19
  go_wp2_with fail
  refine (last_R (RingIs_below H.out (below_alloc (Below.refl _ _) _))).mono ?_
  rintro e w1 ⟨rfl, ⟨⟨n1, rfl⟩⟩⟩
  have HB := Aside0.mk (RingIs_below H.out (pw_below_drewN (below_alloc (Below.refl W.heap.size W) (.cells #[.int .i64 a.k, .int .i64 a.n, .int .i64 a.m, .int .i64 a.e.f0, .int .i64 a.e.f1, .int .i64 a.e.f2, .int .i64 a.e.f3, .int .i64 a.e.f4, v] 47)) n1))
  go_wp2_with fail
  refine (hold_R a.n HB.out).mono ?_
  rintro e w2 ⟨rfl, hr, hf⟩
  have HR := Aside0.mk hr
  have HF2 := Aside0.mk (Frm.then_ ((((Frm.refl W (own1 p)).alloc _).drewN n1)) hf (fun _ hk _ => hk))
  clear hr hf
  by_cases hz : s.code a.n = 0
  · have hz2 : (s.code a.n == 0) = true := beq_iff_eq.mpr hz
    have HZ := Aside0.mk hz
    clear hz
    go_wp2
    go_ret2
    rw [show s.keep a.n held = a.n from if_pos HZ.out]
    try rw [show (s.code a.n == 0) = true from beq_iff_eq.mpr HZ.out]
    exact ⟨rfl, HR.out, HF2.out⟩
  · have hz2 : (s.code a.n == 0) = false := beq_eq_false_iff_ne.mpr hz
    have HZ := Aside0.mk hz
    clear hz
    go_wp2
    go_ret2
    rw [show s.keep a.n held = held from if_neg HZ.out]
    try rw [show (s.code a.n == 0) = false from beq_eq_false_iff_ne.mpr HZ.out]
    exact ⟨rfl, HR.out, HF2.out⟩
set_option maxHeartbeats 4000000 in
set_option maxRecDepth 100000 in
theorem did_holdn (h : RingIs W base ok p s) (a : S47) (v : Value) (hfresh : ∀ k, W.heap.size ≤ k → ok k) (held : Int) (k1 : (a.k == 1) = false) (k2 : (a.k == 2) = false) (k3 : (a.k == 3) = true) :
    Calls Try.prog 19 #[ptr p, actV a v, .int .i64 held] W fun e w' => e = .returned (.tuple #[.bool (s.code (wrap64 (held + a.n)) == 0), .int .i64 (s.keep (wrap64 (held + a.n)) held)]) ∧ RingIs w' base ok p (s.hold (wrap64 (held + a.n))) ∧ Frm W w' (own1 p) := by
  obtain ⟨x0, hx0⟩ : ∃ x0, x0 = wrap64 (held + a.n) := ⟨_, rfl⟩
  rw [← hx0]
  have HX := Aside0.mk hx0.symm
  clear hx0
  have H := Aside0.mk h
  have HF := Aside0.mk hfresh
  clear h hfresh
  unfold actV
  go_enter Try.func19, Try.ntmps19
  go_wp2_with fail
  refine (last_R (RingIs_below H.out (below_alloc (Below.refl _ _) _))).mono ?_
  rintro e w1 ⟨rfl, ⟨⟨n1, rfl⟩⟩⟩
  have HB := Aside0.mk (RingIs_below H.out (pw_below_drewN (below_alloc (Below.refl W.heap.size W) (.cells #[.int .i64 a.k, .int .i64 a.n, .int .i64 a.m, .int .i64 a.e.f0, .int .i64 a.e.f1, .int .i64 a.e.f2, .int .i64 a.e.f3, .int .i64 a.e.f4, v] 47)) n1))
  go_wp2_with fail
  rw [HX.out]
  refine (hold_R x0 HB.out).mono ?_
  rintro e w2 ⟨rfl, hr, hf⟩
  have HR := Aside0.mk hr
  have HF2 := Aside0.mk (Frm.then_ ((((Frm.refl W (own1 p)).alloc _).drewN n1)) hf (fun _ hk _ => hk))
  clear hr hf
  by_cases hz : s.code x0 = 0
  · have hz2 : (s.code x0 == 0) = true := beq_iff_eq.mpr hz
    have HZ := Aside0.mk hz
    clear hz
    go_wp2
    go_ret2
    rw [show s.keep x0 held = x0 from if_pos HZ.out]
    try rw [show (s.code x0 == 0) = true from beq_iff_eq.mpr HZ.out]
    exact ⟨rfl, HR.out, HF2.out⟩
  · have hz2 : (s.code x0 == 0) = false := beq_eq_false_iff_ne.mpr hz
    have HZ := Aside0.mk hz
    clear hz
    go_wp2
    go_ret2
    rw [show s.keep x0 held = held from if_neg HZ.out]
    try rw [show (s.code x0 == 0) = false from beq_eq_false_iff_ne.mpr HZ.out]
    exact ⟨rfl, HR.out, HF2.out⟩
set_option maxHeartbeats 4000000 in
set_option maxRecDepth 100000 in
theorem did_app (h : RingIs W base ok p s) (a : S47) (A : Option Addr) (n c : Nat) (hn : a.e.f5.length = n) (hC : Live W p A n a.e.f5) (hnc : n ≤ c) (hm : opsOk a.e) (hfresh : ∀ k, W.heap.size ≤ k → ok k) (held : Int) (k1 : (a.k == 1) = false) (k2 : (a.k == 2) = true) :
    Calls Try.prog 19 #[ptr p, actV a (.slice A n c), .int .i64 held] W fun e w' => e = .returned (.tuple #[.bool (s.acode a.e == 0), .int .i64 held]) ∧ RingIs w' base ok p (s.app a.e) ∧ Frm W w' (own1 p) := by
  have HC := Aside0.mk hC
  have HN := Aside0.mk hn
  have HNC := Aside0.mk hnc
  have HM := Aside0.mk hm
  clear hC hn hnc hm
  have H := Aside0.mk h
  have HF := Aside0.mk hfresh
  clear h hfresh
  unfold actV
  go_enter Try.func19, Try.ntmps19
  go_wp2_with fail
  refine (last_R (RingIs_below H.out (below_alloc (Below.refl _ _) _))).mono ?_
  rintro e w1 ⟨rfl, ⟨⟨n1, rfl⟩⟩⟩
  have HB := Aside0.mk (RingIs_below H.out (pw_below_drewN (below_alloc (Below.refl W.heap.size W) (.cells #[.int .i64 a.k, .int .i64 a.n, .int .i64 a.m, .int .i64 a.e.f0, .int .i64 a.e.f1, .int .i64 a.e.f2, .int .i64 a.e.f3, .int .i64 a.e.f4, .slice A n c] 47)) n1))
  have HF1 := Aside0.mk (((Frm.refl W (own1 p)).alloc (.cells #[.int .i64 a.k, .int .i64 a.n, .int .i64 a.m, .int .i64 a.e.f0, .int .i64 a.e.f1, .int .i64 a.e.f2, .int .i64 a.e.f3, .int .i64 a.e.f4, .slice A n c] 47)).drewN n1)
  have HSZ := Aside0.mk HF1.out.size
  go_wp2_with fail
  refine (twin_R a.e A n c _ HN.out HM.out ((HC.out.step HF1.out) _ (Frm.refl _ _)) HNC.out).mono ?_
  rintro e w2 ⟨A2, c2, rfl, hv2, hl2, hb2⟩
  have HR2 := Aside0.mk (RingIs_below HB.out hb2)
  have HV2 := Aside0.mk hv2
  have HB2 := Aside0.mk hb2
  clear hv2 hl2 hb2
  go_wp2_with fail
  refine (append_R HR2.out a.e A2 n c2 HN.out (Live.of_R HB.out HN.out HV2.out) HM.out (fun k hk => HF.out k (Nat.le_trans (Nat.le_trans HSZ.out HB2.out.size) hk))).mono ?_
  rintro e w3 ⟨rfl, hr3, hf3⟩
  have HR3 := Aside0.mk hr3
  have HF3 := Aside0.mk (Frm.then_ (HF1.out.step HB2.out) hf3 (fun _ hk _ => hk))
  clear hr3 hf3
  go_wp2
  go_ret2
  exact ⟨rfl, HR3.out, HF3.out⟩
set_option maxHeartbeats 4000000 in
set_option maxRecDepth 100000 in
theorem did_near (h : RingIs W base ok p s) (a : S47) (A : Option Addr) (n c : Nat) (hn : a.e.f5.length = n) (hC : Live W p A n a.e.f5) (hnc : n ≤ c) (hm : opsOk a.e) (hfresh : ∀ k, W.heap.size ≤ k → ok k) (held : Int) (k1 : (a.k == 1) = true) :
    Calls Try.prog 19 #[ptr p, actV a (.slice A n c), .int .i64 held] W fun e w' => e = .returned (.tuple #[.bool (s.acode (nearE s.la s.lv a) == 0), .int .i64 held]) ∧ RingIs w' base ok p (s.app (nearE s.la s.lv a)) ∧ Frm W w' (own1 p) := by
  have HC := Aside0.mk hC
  have HN := Aside0.mk hn
  have HNC := Aside0.mk hnc
  have HM := Aside0.mk hm
  clear hC hn hnc hm
  have H := Aside0.mk h
  have HF := Aside0.mk hfresh
  clear h hfresh
  unfold actV
  go_enter Try.func19, Try.ntmps19
  go_wp2_with fail
  refine (last_R (RingIs_below H.out (below_alloc (Below.refl _ _) _))).mono ?_
  rintro e w1 ⟨rfl, ⟨⟨n1, rfl⟩⟩⟩
  have HB := Aside0.mk (RingIs_below H.out (pw_below_drewN (below_alloc (Below.refl W.heap.size W) (.cells #[.int .i64 a.k, .int .i64 a.n, .int .i64 a.m, .int .i64 a.e.f0, .int .i64 a.e.f1, .int .i64 a.e.f2, .int .i64 a.e.f3, .int .i64 a.e.f4, .slice A n c] 47)) n1))
  have HF1 := Aside0.mk (((Frm.refl W (own1 p)).alloc (.cells #[.int .i64 a.k, .int .i64 a.n, .int .i64 a.m, .int .i64 a.e.f0, .int .i64 a.e.f1, .int .i64 a.e.f2, .int .i64 a.e.f3, .int .i64 a.e.f4, .slice A n c] 47)).drewN n1)
  have HSZ := Aside0.mk HF1.out.size
  go_wp2_with fail
  refine (near_C s.la s.lv a A n c _).mono ?_
  rintro e w2 ⟨rfl, hb2⟩
  have HR2 := Aside0.mk (RingIs_below HB.out hb2)
  have HB2 := Aside0.mk hb2
  have HF2 := Aside0.mk (HF1.out.step hb2)
  clear hb2
  go_wp2_with (with_reducible refine stop_store (t := 33) rfl ?_)
  obtain ⟨x, hx⟩ : ∃ x, Aside0 (nearE s.la s.lv a = x) := ⟨_, .mk rfl⟩
  have hxn : x.f5.length = n := by rw [← hx.out, nearE_f5]; exact HN.out
  have hxm : opsOk x := by unfold opsOk; rw [← hx.out, nearE_f5]; exact HM.out
  have hxc : Live W p A n x.f5 := by rw [← hx.out, nearE_f5]; exact HC.out
  have HXN := Aside0.mk hxn
  have HXM := Aside0.mk hxm
  have HXC := Aside0.mk hxc
  clear hxn hxm hxc
  rw [hx.out]
  refine wpList_store rfl rfl 33 (.tmp 10) (.tmp 25) rfl (entV x (.slice A n c)) [.int .i64 x.f0, .int .i64 x.f1, .int .i64 x.f2, .int .i64 x.f3, .int .i64 x.f4, .slice A n c] rfl rfl (heap_alloc_new w2 _) rfl size33 (by show 0 + 6 ≤ 6; omega) (by simp [Value.oneCell']) ?_
  rw [alloc_full (w := w2) (cur := zeroCells) (e := 33) [.int .i64 x.f0, .int .i64 x.f1, .int .i64 x.f2, .int .i64 x.f3, .int .i64 x.f4, .slice A n c] rfl]
  have HF3 := Aside0.mk (HF2.out.alloc (.cells #[.int .i64 x.f0, .int .i64 x.f1, .int .i64 x.f2, .int .i64 x.f3, .int .i64 x.f4, .slice A n c] 33))
  have HR3 := Aside0.mk (RingIs_below HR2.out (below_alloc (Below.refl _ _) (.cells #[.int .i64 x.f0, .int .i64 x.f1, .int .i64 x.f2, .int .i64 x.f3, .int .i64 x.f4, .slice A n c] 33)))
  have HSZ3 := Aside0.mk (Nat.le_trans HF1.out.size (Nat.le_trans HB2.out.size (by rw [szA]; omega : w2.heap.size ≤ (w2.alloc (.cells #[.int .i64 x.f0, .int .i64 x.f1, .int .i64 x.f2, .int .i64 x.f3, .int .i64 x.f4, .slice A n c] 33)).heap.size)))
  go_wp2_with fail
  refine (twin_R x A n c _ HXN.out HXM.out ((HXC.out.step HF3.out) _ (Frm.refl _ _)) HNC.out).mono ?_
  rintro e w4 ⟨A2, c2, rfl, hv2, hl2, hb4⟩
  have HR4 := Aside0.mk (RingIs_below HR3.out hb4)
  have HV2 := Aside0.mk hv2
  have HB4 := Aside0.mk hb4
  clear hv2 hl2 hb4
  go_wp2_with fail
  refine (append_R HR4.out x A2 n c2 HXN.out (Live.of_R HR3.out HXN.out HV2.out) HXM.out (fun k hk => HF.out k (Nat.le_trans (Nat.le_trans HSZ3.out HB4.out.size) hk))).mono ?_
  rintro e w5 ⟨rfl, hr5, hf5⟩
  have HR5 := Aside0.mk hr5
  have HF5 := Aside0.mk (Frm.then_ (HF3.out.step HB4.out) hf5 (fun _ hk _ => hk))
  clear hr5 hf5
  go_wp2
  go_ret2
  rw [hx.out]
  exact ⟨rfl, HR5.out, HF5.out⟩
end
end Go.Proofs.Ytcbejpmmlcdhnaa.PW
namespace Go.Proofs.Ytcbejpmmlcdhnaa.PW
open Go.RowKit Go.Proofs.YtcbejpmmlcdhnaaW.PrintWords Go.Proofs.YtcbejpmmlcdhnaaW.PrintLast Go.Proofs.YtcbejpmmlcdhnaaW.PrintMore
set_option linter.unusedVariables false
set_option linter.unusedSimpArgs false

/-- The ring behind an act; was it taken; what is said to be held. -/
def RS.did (s : RS) (a : S47) (held : Int) : RS × Bool × Int :=
  bif a.k == 1 then (s.app (nearE s.la s.lv a), s.acode (nearE s.la s.lv a) == 0, held)
  else bif a.k == 2 then (s.app a.e, s.acode a.e == 0, held)
  else bif a.k == 3 then (s.hold (wrap64 (held + a.n)), s.code (wrap64 (held + a.n)) == 0, s.keep (wrap64 (held + a.n)) held)
  else bif a.k == 4 then (s.hold a.n, s.code a.n == 0, s.keep a.n held)
  else bif a.k == 5 then (s.cut (wrap64 ((s.la : Int) - a.n)), s.code (wrap64 ((s.la : Int) - a.n)) == 0, held)
  else bif a.k == 6 then (s.cut a.n, s.code a.n == 0, held)
  else (s, false, held)
theorem did_R {W : World} {base : Nat} {ok : Nat → Prop} {p : Option Nat} {s : RS} (h : RingIs W base ok p s) (a : S47) (A : Option Addr) (n c : Nat) (hn : a.e.f5.length = n) (hC : Live W p A n a.e.f5) (hnc : n ≤ c) (hm : opsOk a.e) (hfresh : ∀ k, W.heap.size ≤ k → ok k) (held : Int) :
    Calls Try.prog 19 #[ptr p, actV a (.slice A n c), .int .i64 held] W fun e w' => e = .returned (.tuple #[.bool (s.did a held).2.1, .int .i64 (s.did a held).2.2]) ∧ RingIs w' base ok p (s.did a held).1 ∧ Frm W w' (own1 p) := by
  unfold RS.did
  cases k1 : a.k == 1 with
  | true =>
    simp only [cond_true]
    exact did_near h a A n c hn hC hnc hm hfresh held k1
  | false =>
  cases k2 : a.k == 2 with
  | true =>
    simp only [cond_true, cond_false]
    exact did_app h a A n c hn hC hnc hm hfresh held k1 k2
  | false =>
  cases k3 : a.k == 3 with
  | true =>
    simp only [cond_true, cond_false]
    exact did_holdn h a _ hfresh held k1 k2 k3
  | false =>
  cases k4 : a.k == 4 with
  | true =>
    simp only [cond_true, cond_false]
    exact did_hold h a _ hfresh held k1 k2 k3 k4
  | false =>
  cases k5 : a.k == 5 with
  | true =>
    simp only [cond_true, cond_false]
    exact did_cutn h a _ hfresh held k1 k2 k3 k4 k5
  | false =>
  cases k6 : a.k == 6 with
  | true =>
    simp only [cond_true, cond_false]
    exact did_cut h a _ hfresh held k1 k2 k3 k4 k5 k6
  | false =>
    simp only [cond_false]
    exact did_none h a _ hfresh held k1 k2 k3 k4 k5 k6
end Go.Proofs.Ytcbejpmmlcdhnaa.PW
namespace Go.Proofs.Ytcbejpmmlcdhnaa.PW
open Go.RowKit
set_option linter.unusedVariables false
set_option linter.unusedSimpArgs false

/-- H: all entries that ever were, by their stamps. -/
def Hist (H : Nat → S33) (s : RS) : Prop := 1 ≤ s.room ∧ s.fl ≤ s.ho ∧ s.ho ≤ s.la ∧ s.o = (H s.fl).f1 ∧ ∀ i, i < s.l.length → s.l[i]? = some (H (s.fl + 1 + i))
theorem Hist.lv {H : Nat → S33} {s : RS} (h : Hist H s) : s.lv = (H s.la).f1 := by
  obtain ⟨h1, h2, h3, h4, h5⟩ := h
  by_cases hn : s.l = []
  · have hla : s.la = s.fl := by simp [RS.la, hn]
    have hlv : s.lv = s.o := by simp [RS.lv, hn]
    rw [hla, hlv, h4]
  · obtain ⟨x, hx1, hx2, hx3⟩ := RS.last_of hn
    have hpos : 0 < s.l.length := List.length_pos_iff.2 hn
    have h6 := h5 (s.l.length - 1) (by omega)
    rw [hx2] at h6
    rw [hx3, Option.some.inj h6]
    congr 2
    simp only [RS.la]
    omega
def Twins (s t : RS) : Prop := s.la = t.la ∧ s.ho = t.ho ∧ ∃ H, Hist H s ∧ Hist H t
theorem Hist.hold {H : Nat → S33} {s : RS} (h : Hist H s) (n : Int) : Hist H (s.hold n) ∧ (s.hold n).la = s.la ∧ (s.hold n).ho = if s.code n = 0 then n.toNat else s.ho := by
  unfold RS.hold
  split
  · rename_i hz
    obtain ⟨h6, h7⟩ := btw_zero.1 hz
    obtain ⟨h1, h2, h3, h4, h5⟩ := h
    have h3' : n.toNat ≤ s.la := by omega
    refine ⟨⟨h1, ?_, ?_, h4, h5⟩, rfl, rfl⟩
    · show s.fl ≤ n.toNat
      omega
    · show n.toNat ≤ s.la
      exact h3'
  · exact ⟨h, rfl, rfl⟩
theorem Hist.cut {H : Nat → S33} {s : RS} (h : Hist H s) (n : Int) : Hist H (s.cut n) ∧ (s.cut n).la = (if s.code n = 0 then n.toNat else s.la) ∧ (s.cut n).ho = s.ho := by
  unfold RS.cut
  split
  · rename_i hz
    obtain ⟨h6, h7⟩ := btw_zero.1 hz
    obtain ⟨h1, h2, h3, h4, h5⟩ := h
    have hla : s.la = s.fl + s.l.length := rfl
    have hnew : s.fl + (s.l.take (n.toNat - s.fl)).length = n.toNat := by rw [List.length_take]; omega
    refine ⟨⟨h1, h2, ?_, h4, fun i hi => ?_⟩, hnew, rfl⟩
    · show s.ho ≤ s.fl + (s.l.take (n.toNat - s.fl)).length
      omega
    · have hi' : i < (s.l.take (n.toNat - s.fl)).length := hi
      rw [List.length_take] at hi'
      show (s.l.take (n.toNat - s.fl))[i]? = _
      rw [List.getElem?_take_of_lt (by omega)]
      exact h5 i (by omega)
  · exact ⟨h, rfl, rfl⟩
theorem Hist.push {H : Nat → S33} {s : RS} (h : Hist H s) (x : S33) (hfull : ¬ (s.l.length = s.room ∧ s.ho ≤ s.fl)) : Hist (fun j => if j = s.la + 1 then x else H j) (s.push x) ∧ (s.push x).la = s.la + 1 ∧ (s.push x).ho = s.ho := by
  obtain ⟨h1, h2, h3, h4, h5⟩ := h
  have hla : s.la = s.fl + s.l.length := rfl
  unfold RS.push
  split
  · rename_i hl
    have hpos : 0 < s.l.length := by omega
    have h0 := h5 0 hpos
    have hd : s.l.getD 0 z33 = H (s.fl + 1) := by rw [List.getD_eq_getElem?_getD, h0]; rfl
    have hlen : (s.l.drop 1 ++ [x]).length = s.l.length := by rw [List.length_append, List.length_drop]; simp only [List.length_singleton]; omega
    have hnl : (s.fl + 1) + (s.l.drop 1 ++ [x]).length = s.la + 1 := by rw [hlen]; omega
    refine ⟨⟨h1, ?_, ?_, ?_, fun i hi => ?_⟩, hnl, rfl⟩
    · show s.fl + 1 ≤ s.ho
      omega
    · show s.ho ≤ (s.fl + 1) + (s.l.drop 1 ++ [x]).length
      omega
    · show (s.l.getD 0 z33).f1 = (if s.fl + 1 = s.la + 1 then x else H (s.fl + 1)).f1
      rw [if_neg (by omega), hd]
    · have hi' : i < (s.l.drop 1 ++ [x]).length := hi
      rw [hlen] at hi'
      show (s.l.drop 1 ++ [x])[i]? = some (if s.fl + 1 + 1 + i = s.la + 1 then x else H (s.fl + 1 + 1 + i))
      by_cases he : i = s.l.length - 1
      · rw [List.getElem?_append_right (by rw [List.length_drop]; omega), if_pos (by omega), List.length_drop, he, Nat.sub_self]
        rfl
      · rw [List.getElem?_append_left (by rw [List.length_drop]; omega), if_neg (by omega), List.getElem?_drop, h5 (1 + i) (by omega)]
        congr 2
        omega
  · rename_i hl
    have hnl : s.fl + (s.l ++ [x]).length = s.la + 1 := by rw [List.length_append]; simp only [List.length_singleton]; omega
    refine ⟨⟨h1, h2, ?_, ?_, fun i hi => ?_⟩, hnl, rfl⟩
    · show s.ho ≤ s.fl + (s.l ++ [x]).length
      omega
    · show s.o = (if s.fl = s.la + 1 then x else H s.fl).f1
      rw [if_neg (by omega)]
      exact h4
    · have hi' : i < (s.l ++ [x]).length := hi
      rw [List.length_append, List.length_singleton] at hi'
      show (s.l ++ [x])[i]? = some (if s.fl + 1 + i = s.la + 1 then x else H (s.fl + 1 + i))
      by_cases he : i = s.l.length
      · rw [List.getElem?_append_right (by omega), if_pos (by omega), he, Nat.sub_self]
        rfl
      · rw [List.getElem?_append_left (by omega), if_neg (by omega)]
        exact h5 i (by omega)
section
variable {s t : RS}
theorem Twins.hold (h : Twins s t) (n : Int) : s.code n = t.code n ∧ Twins (s.hold n) (t.hold n) := by
  obtain ⟨h1, h2, H, h3, h4⟩ := h
  have hc : s.code n = t.code n := by unfold RS.code; rw [h1, h2]
  obtain ⟨k1, k2, k3⟩ := h3.hold n
  obtain ⟨l1, l2, l3⟩ := h4.hold n
  exact ⟨hc, by rw [k2, l2, h1], by rw [k3, l3, hc, h2], H, k1, l1⟩
theorem Twins.cut (h : Twins s t) (n : Int) : s.code n = t.code n ∧ Twins (s.cut n) (t.cut n) := by
  obtain ⟨h1, h2, H, h3, h4⟩ := h
  have hc : s.code n = t.code n := by unfold RS.code; rw [h1, h2]
  obtain ⟨k1, k2, k3⟩ := h3.cut n
  obtain ⟨l1, l2, l3⟩ := h4.cut n
  exact ⟨hc, by rw [k2, l2, hc, h1], by rw [k3, l3, h2], H, k1, l1⟩
theorem acode_full {s : RS} {x : S33} (h : s.acode x = 0) : ¬ (s.l.length = s.room ∧ s.ho ≤ s.fl) := by
  intro hf
  unfold RS.acode at h
  rw [if_pos hf] at h
  repeat' split at h
  all_goals simp at h
theorem Twins.app (h : Twins s t) (x : S33) (hc : (s.acode x == 0) = (t.acode x == 0)) : Twins (s.app x) (t.app x) := by
  obtain ⟨h1, h2, H, h3, h4⟩ := h
  by_cases h5 : s.acode x = 0
  · have h6 : t.acode x = 0 := by rw [h5] at hc; exact beq_iff_eq.1 hc.symm
    obtain ⟨k1, k2, k3⟩ := h3.push x (acode_full h5)
    obtain ⟨l1, l2, l3⟩ := h4.push x (acode_full h6)
    unfold RS.app
    rw [if_pos h5, if_pos h6]
    exact ⟨by rw [k2, l2, h1], by rw [k3, l3, h2], _, k1, by rw [h1]; exact l1⟩
  · have h6 : ¬ t.acode x = 0 := fun e => h5 (by rw [e] at hc; exact beq_iff_eq.1 hc)
    unfold RS.app
    rw [if_neg h5, if_neg h6]
    exact ⟨h1, h2, H, h3, h4⟩
theorem Twins.lv (h : Twins s t) : s.lv = t.lv := by
  obtain ⟨h1, h2, H, h3, h4⟩ := h
  rw [h3.lv, h4.lv, h1]
theorem Twins.did (h : Twins s t) (a : S47) (held : Int) : ((s.did a held).2.1 = (t.did a held).2.1 ∨ (a.k == 1) = true ∨ (a.k == 2) = true) ∧ ((s.did a held).2.1 = (t.did a held).2.1 → (s.did a held).2.2 = (t.did a held).2.2 ∧ Twins (s.did a held).1 (t.did a held).1) := by
  have h1 : s.la = t.la := h.1
  have h2 := h.lv
  unfold RS.did
  cases k1 : a.k == 1 with
  | true =>
    simp only [cond_true]
    rw [h1, h2]
    exact ⟨.inr (.inl trivial), fun e => ⟨trivial, h.app _ e⟩⟩
  | false =>
  cases k2 : a.k == 2 with
  | true =>
    simp only [cond_true, cond_false]
    exact ⟨.inr (.inr trivial), fun e => ⟨trivial, h.app _ e⟩⟩
  | false =>
  cases k3 : a.k == 3 with
  | true =>
    simp only [cond_true, cond_false]
    obtain ⟨c1, c2⟩ := h.hold (wrap64 (held + a.n))
    unfold RS.keep
    rw [c1]
    exact ⟨.inl rfl, fun _ => ⟨rfl, c2⟩⟩
  | false =>
  cases k4 : a.k == 4 with
  | true =>
    simp only [cond_true, cond_false]
    obtain ⟨c1, c2⟩ := h.hold a.n
    unfold RS.keep
    rw [c1]
    exact ⟨.inl rfl, fun _ => ⟨rfl, c2⟩⟩
  | false =>
  cases k5 : a.k == 5 with
  | true =>
    simp only [cond_true, cond_false]
    rw [h1]
    obtain ⟨c1, c2⟩ := h.cut (wrap64 ((t.la : Int) - a.n))
    rw [c1]
    exact ⟨.inl rfl, fun _ => ⟨trivial, c2⟩⟩
  | false =>
  cases k6 : a.k == 6 with
  | true =>
    simp only [cond_true, cond_false]
    obtain ⟨c1, c2⟩ := h.cut a.n
    rw [c1]
    exact ⟨.inl rfl, fun _ => ⟨trivial, c2⟩⟩
  | false =>
    simp only [cond_false]
    exact ⟨.inl trivial, fun _ => ⟨trivial, h⟩⟩
theorem Twins.tail (h : Twins s t) (n : Nat) (h1 : n ≤ s.l.length) (h2 : n ≤ t.l.length) : s.l.drop (s.l.length - n) = t.l.drop (t.l.length - n) := by
  obtain ⟨e1, e2, H, ⟨a1, a2, a3, a4, a5⟩, b1, b2, b3, b4, b5⟩ := h
  have f1 : s.la = s.fl + s.l.length := rfl
  have f2 : t.la = t.fl + t.l.length := rfl
  apply List.ext_getElem?
  intro i
  rw [List.getElem?_drop, List.getElem?_drop]
  by_cases hi : i < n
  · rw [a5 _ (by omega), b5 _ (by omega)]
    congr 2
    omega
  · rw [List.getElem?_eq_none (by omega), List.getElem?_eq_none (by omega)]
theorem Twins.new (r1 r2 fl : Nat) (o : Int) (h1 : 1 ≤ r1) (h2 : 1 ≤ r2) : Twins (RS.new r1 fl o) (RS.new r2 fl o) :=
  ⟨rfl, rfl, fun _ => ⟨0, o, 0, 0, 0, []⟩, ⟨h1, Nat.le_refl _, Nat.le_refl _, rfl, fun i hi => by simp [RS.new] at hi⟩, ⟨h2, Nat.le_refl _, Nat.le_refl _, rfl, fun i hi => by simp [RS.new] at hi⟩⟩
end
end Go.Proofs.Ytcbejpmmlcdhnaa.PW
namespace Go.Proofs.Ytcbejpmmlcdhnaa.PW
open Go.RowKit Go.Proofs.YtcbejpmmlcdhnaaW.PrintWords Go.Proofs.YtcbejpmmlcdhnaaW.PrintLast Go.Proofs.YtcbejpmmlcdhnaaW.PrintMore
set_option linter.unusedVariables false
set_option linter.unusedSimpArgs false

def z47 : S47 := ⟨0, 0, 0, z33⟩
def k47 : Kd S47 := Kd.iso (Kd.pair (Kd.int .i64) (Kd.pair (Kd.int .i64) (Kd.pair (Kd.int .i64) k33))) (fun x : S47 => (x.k, x.n, x.m, x.e))
theorem k47_open {w : World} {x : S47} {cs : List Value} (h : k47.K w x cs) : ∃ A c, cs = [.int .i64 x.k, .int .i64 x.n, .int .i64 x.m, .int .i64 x.e.f0, .int .i64 x.e.f1, .int .i64 x.e.f2, .int .i64 x.e.f3, .int .i64 x.e.f4, .slice A x.e.f5.length c] ∧ x.e.f5.length ≤ c ∧ k55.C w A x.e.f5.length x.e.f5 := by
  obtain ⟨_, _, rfl, rfl, ⟨_, _, rfl, rfl, ⟨_, _, rfl, rfl, h3⟩⟩⟩ := h
  obtain ⟨A, c, h4, h5, h6⟩ := k33_open h3
  exact ⟨A, c, by rw [h4]; rfl, h5, h6⟩
def rd_T47 (xs : List S47) (i : Int) : S47 := xs.getD i.toNat z47
theorem at_T47 {w : World} {A : Option Addr} {n : Nat} {xs : List S47} (h : Kd.C k47 w A n xs) (i : Nat) (h1 : i < n) : ∃ ad A5 c5, A = some ad ∧
    (w.cell? (ad.add (i * 9)) = some (.int .i64 (rd_T47 xs i).k) ∧ w.cell? ⟨(ad.add (i * 9)).block, (ad.add (i * 9)).off + 1, none⟩ = some (.int .i64 (rd_T47 xs i).n) ∧ w.cell? ⟨(ad.add (i * 9)).block, (ad.add (i * 9)).off + 2, none⟩ = some (.int .i64 (rd_T47 xs i).m) ∧
    w.cell? ⟨(ad.add (i * 9)).block, (ad.add (i * 9)).off + 3, none⟩ = some (.int .i64 (rd_T47 xs i).e.f0) ∧ w.cell? ⟨(ad.add (i * 9)).block, (ad.add (i * 9)).off + 4, none⟩ = some (.int .i64 (rd_T47 xs i).e.f1) ∧ w.cell? ⟨(ad.add (i * 9)).block, (ad.add (i * 9)).off + 5, none⟩ = some (.int .i64 (rd_T47 xs i).e.f2) ∧
    w.cell? ⟨(ad.add (i * 9)).block, (ad.add (i * 9)).off + 6, none⟩ = some (.int .i64 (rd_T47 xs i).e.f3) ∧ w.cell? ⟨(ad.add (i * 9)).block, (ad.add (i * 9)).off + 7, none⟩ = some (.int .i64 (rd_T47 xs i).e.f4) ∧ w.cell? ⟨(ad.add (i * 9)).block, (ad.add (i * 9)).off + 8, none⟩ = some (.slice A5 (rd_T47 xs i).e.f5.length c5)) ∧
    (rd_T47 xs i).e.f5.length ≤ c5 ∧ k55.C w A5 (rd_T47 xs i).e.f5.length (rd_T47 xs i).e.f5 := by
  obtain ⟨ad, c, e, _, hK, hc0⟩ := Kd.C_get h z47 (i : Int) (by omega) (by omega)
  rw [Int.toNat_natCast] at hc0
  have hc : ∀ j u, c[j]? = some u → w.cell? (ad.add (i * 9 + j)) = some u := hc0
  obtain ⟨A5, c5, rfl, l5, g5⟩ := k47_open hK
  refine ⟨ad, A5, c5, e, ⟨hc 0 _ rfl, ?_, ?_, ?_, ?_, ?_, ?_, ?_, ?_⟩, l5, g5⟩
  · rw [← add_field _ _ 1 (by omega)]; exact hc 1 _ rfl
  · rw [← add_field _ _ 2 (by omega)]; exact hc 2 _ rfl
  · rw [← add_field _ _ 3 (by omega)]; exact hc 3 _ rfl
  · rw [← add_field _ _ 4 (by omega)]; exact hc 4 _ rfl
  · rw [← add_field _ _ 5 (by omega)]; exact hc 5 _ rfl
  · rw [← add_field _ _ 6 (by omega)]; exact hc 6 _ rfl
  · rw [← add_field _ _ 7 (by omega)]; exact hc 7 _ rfl
  · rw [← add_field _ _ 8 (by omega)]; exact hc 8 _ rfl
theorem rd_T47_mem {xs : List S47} {i : Nat} (h : i < xs.length) : rd_T47 xs (i : Int) ∈ xs := by
  unfold rd_T47
  rw [Int.toNat_natCast, List.getD_eq_getElem?_getD, List.getElem?_eq_getElem h]
  exact List.getElem_mem h
theorem Live.of_C {w W : World} {b : Nat} {A : Option Addr} {n : Nat} {l : List S55} (hC : Kd.C k55 w A n l) (hB : Below w.heap.size w W) (hb : w.heap.size ≤ b) : Live W (some b) A n l := fun W' hf =>
  Kd.C_below hC (hB.trans (hf.below (B := w.heap.size) (fun k hk _ => by obtain rfl : b = k := Option.some.inj hk; exact hb) hB.size))
theorem new_no (room fl o : Int) (w : World) (h : ¬ (1 ≤ room ∧ room ≤ 64 ∧ isB fl = true ∧ isB o = true)) : Calls Try.prog 18 #[.int .i64 room, .int .i64 fl, .int .i64 o] w fun e w' => ∃ c : Int, (c != 0) = true ∧ e = .returned (.tuple #[.pointer none, .int .i64 c]) ∧ w' = w := by
  by_cases hr : 1 ≤ room ∧ room ≤ 64
  · refine (new_num room fl o w hr.1 hr.2 ?_).mono ?_
    · cases h1 : isB fl with
      | false => rfl
      | true =>
        cases h2 : isB o with
        | false => rfl
        | true => exact absurd ⟨hr.1, hr.2, h1, h2⟩ h
    · rintro e w' ⟨rfl, rfl⟩
      exact ⟨3, by decide, rfl, rfl⟩
  · refine (new_room room fl o w (by omega)).mono ?_
    rintro e w' ⟨rfl, rfl⟩
    exact ⟨1, by decide, rfl, rfl⟩
end Go.Proofs.Ytcbejpmmlcdhnaa.PW
namespace Go.Proofs.Ytcbejpmmlcdhnaa.PW
open Go.RowKit
set_option linter.unusedVariables false
set_option linter.unusedSimpArgs false

/-- A history whose stamps follow one another and whose views never fall. -/
def HistF (H : Nat → S33) (s : RS) : Prop := Hist H s ∧ (∀ j, s.fl < j → j ≤ s.la → (H j).f0 = (j : Int)) ∧ (∀ j, s.fl ≤ j → j < s.la → (H j).f1 ≤ (H (j + 1)).f1)
/-- What an act brings about. -/
def Went (H : Nat → S33) (s s' : RS) : Prop := ∃ H', HistF H' s' ∧ (∀ j, j ≤ s.ho → H' j = H j) ∧ s.ho ≤ s'.ho ∧ s.fl ≤ s'.fl ∧ s'.room = s.room
section
variable {H : Nat → S33} {s : RS}
theorem HistF.stay (h : HistF H s) : Went H s s := ⟨H, h, fun _ _ => rfl, Nat.le_refl _, Nat.le_refl _, rfl⟩
theorem HistF.hold (h : HistF H s) (n : Int) : Went H s (s.hold n) ∧ s.keep n s.ho = ((s.hold n).ho : Int) := by
  obtain ⟨h1, h2, h3⟩ := h
  obtain ⟨k1, k2, k3⟩ := h1.hold n
  have hfl : (s.hold n).fl = s.fl := by unfold RS.hold; split <;> rfl
  have hro : (s.hold n).room = s.room := by unfold RS.hold; split <;> rfl
  refine ⟨⟨H, ⟨k1, by rw [hfl, k2]; exact h2, by rw [hfl, k2]; exact h3⟩, fun _ _ => rfl, ?_, Nat.le_of_eq hfl.symm, hro⟩, ?_⟩
  · rw [k3]
    split
    · rename_i hz
      have := btw_zero.1 hz
      omega
    · exact Nat.le_refl _
  · unfold RS.keep
    rw [k3]
    split
    · rename_i hz
      have := btw_zero.1 hz
      omega
    · rfl
theorem HistF.cut (h : HistF H s) (n : Int) : Went H s (s.cut n) ∧ (s.cut n).ho = s.ho := by
  obtain ⟨h1, h2, h3⟩ := h
  obtain ⟨k1, k2, k3⟩ := h1.cut n
  have hfl : (s.cut n).fl = s.fl := by unfold RS.cut; split <;> rfl
  have hro : (s.cut n).room = s.room := by unfold RS.cut; split <;> rfl
  have hla : (s.cut n).la ≤ s.la := by
    rw [k2]
    split
    · rename_i hz
      have := btw_zero.1 hz
      omega
    · exact Nat.le_refl _
  exact ⟨⟨H, ⟨k1, fun j hj1 hj2 => h2 j (by omega) (by omega), fun j hj1 hj2 => h3 j (by omega) (by omega)⟩, fun _ _ => rfl, Nat.le_of_eq k3.symm, Nat.le_of_eq hfl.symm, hro⟩, k3⟩
theorem acode_zero {x : S33} (h : s.acode x = 0) : x.f0 = (s.la : Int) + 1 ∧ s.lv ≤ x.f1 := by
  unfold RS.acode at h
  split at h
  · simp at h
  · split at h
    · simp at h
    · rename_i h0
      split at h
      · simp at h
      · rename_i h1
        exact ⟨Classical.not_not.1 h0, by omega⟩
theorem HistF.app (h : HistF H s) (x : S33) : Went H s (s.app x) ∧ (s.app x).ho = s.ho := by
  unfold RS.app
  split
  · rename_i hz
    obtain ⟨h1, h2, h3⟩ := h
    obtain ⟨e1, e2⟩ := acode_zero hz
    have hlv := h1.lv
    obtain ⟨k1, k2, k3⟩ := h1.push x (acode_full hz)
    have hfl : s.fl ≤ (s.push x).fl := by
      unfold RS.push
      split
      · exact Nat.le_succ _
      · exact Nat.le_refl _
    have hro : (s.push x).room = s.room := by unfold RS.push; split <;> rfl
    have hho : s.ho ≤ s.la := h1.2.2.1
    refine ⟨⟨_, ⟨k1, fun j hj1 hj2 => ?_, fun j hj1 hj2 => ?_⟩, fun j hj => if_neg (by omega), Nat.le_of_eq k3.symm, hfl, hro⟩, k3⟩
    · show (if j = s.la + 1 then x else H j).f0 = _
      by_cases hj : j = s.la + 1
      · rw [if_pos hj, e1, hj]
        omega
      · rw [if_neg hj]
        exact h2 j (by omega) (by omega)
    · show (if j = s.la + 1 then x else H j).f1 ≤ (if j + 1 = s.la + 1 then x else H (j + 1)).f1
      rw [if_neg (by omega)]
      by_cases hj : j + 1 = s.la + 1
      · rw [if_pos hj, show j = s.la by omega, ← hlv]
        exact e2
      · rw [if_neg hj]
        exact h3 j (by omega) (by omega)
  · exact ⟨h.stay, rfl⟩
theorem HistF.did (h : HistF H s) (a : S47) : Went H s (s.did a s.ho).1 ∧ (s.did a s.ho).2.2 = ((s.did a s.ho).1.ho : Int) := by
  unfold RS.did
  cases k1 : a.k == 1 with
  | true =>
    simp only [cond_true]
    obtain ⟨g1, g2⟩ := h.app (nearE s.la s.lv a)
    exact ⟨g1, by rw [g2]⟩
  | false =>
  cases k2 : a.k == 2 with
  | true =>
    simp only [cond_true, cond_false]
    obtain ⟨g1, g2⟩ := h.app a.e
    exact ⟨g1, by rw [g2]⟩
  | false =>
  cases k3 : a.k == 3 with
  | true =>
    simp only [cond_true, cond_false]
    exact h.hold _
  | false =>
  cases k4 : a.k == 4 with
  | true =>
    simp only [cond_true, cond_false]
    exact h.hold _
  | false =>
  cases k5 : a.k == 5 with
  | true =>
    simp only [cond_true, cond_false]
    obtain ⟨g1, g2⟩ := h.cut (wrap64 ((s.la : Int) - a.n))
    exact ⟨g1, by rw [g2]⟩
  | false =>
  cases k6 : a.k == 6 with
  | true =>
    simp only [cond_true, cond_false]
    obtain ⟨g1, g2⟩ := h.cut a.n
    exact ⟨g1, by rw [g2]⟩
  | false =>
    simp only [cond_false]
    exact ⟨h.stay, trivial⟩
end
theorem HistF.new (r fl : Nat) (o : Int) (h1 : 1 ≤ r) : HistF (fun _ => ⟨0, o, 0, 0, 0, []⟩) (RS.new r fl o) :=
  ⟨⟨h1, Nat.le_refl _, Nat.le_refl _, rfl, fun i hi => by simp [RS.new] at hi⟩, fun j h1 h2 => by simp [RS.new, RS.la] at h1 h2; omega, fun j h1 h2 => by simp [RS.new, RS.la] at h1 h2; omega⟩
/-- What is sure: entries of the history up to the hold. -/
def Sure (H : Nat → S33) (ho : Nat) (l : List S33) : Prop := ∀ x ∈ l, opsOk x ∧ ∃ j : Nat, x = H j ∧ x.f0 = (j : Int) ∧ j ≤ ho
theorem Sure.step {H H' : Nat → S33} {ho ho' : Nat} {l : List S33} (h : Sure H ho l) (h1 : ∀ j, j ≤ ho → H' j = H j) (h2 : ho ≤ ho') : Sure H' ho' l := fun x hx => by
  obtain ⟨h3, j, h4, h5, h6⟩ := h x hx
  exact ⟨h3, j, by rw [h1 j h6]; exact h4, h5, by omega⟩
end Go.Proofs.Ytcbejpmmlcdhnaa.PW
namespace Go.Proofs.Ytcbejpmmlcdhnaa.PW
open Go.RowKit Go.Proofs.YtcbejpmmlcdhnaaW.PrintWords Go.Proofs.YtcbejpmmlcdhnaaW.PrintLast Go.Proofs.YtcbejpmmlcdhnaaW.PrintMore
set_option linter.unusedVariables false
set_option linter.unusedSimpArgs false
def rg4.T34 : Bool × List (List Nat × List Nat) := (true, [([], []), ([0], [0]), ([1], [1]), ([2], [2]), ([2], [2]), ([4, 2], [2, 4]), ([3, 5, 2], [2, 3, 5]), ([6, 2, 2], [2, 6]), ([7], [7]), ([7], [7]), ([8, 9, 7], [7, 8, 9]), ([10, 7], [7, 10]), ([7], [7]), ([7], [7]), ([12, 13, 7], [7, 12, 13]), ([14, 7], [7, 14]), ([11, 15, 7, 7], [7, 11, 15]), ([16, 7], [7, 16]), ([7, 17, 2], [2, 7, 17]), ([2, 18], [2, 18])])
def rg4.B34 : List Nat := [0, 1, 3, 7, 7, 23, 63, 127, 255, 255, 1023, 2047, 255, 255, 12543, 28927, 65535, 131071, 262143, 524287]
theorem rg4.tab34 : rtab .any (opsOf Try.f4 34) = rg4.T34 := by kernel_rfl
theorem rg4.bits34 : waitsOk rg4.T34.2 rg4.B34 = true := by kernel_rfl

theorem RingIs.lt4 {W : World} {base b : Nat} {ok : Nat → Prop} {s : RS} (h : RingIs W base ok (some b) s) : b < W.heap.size := by
  obtain ⟨_, E, hR, _⟩ := h
  exact World.block_lt_of_cell? W ⟨b, 384, none⟩ (RingAt_cells hR).1

set_option maxHeartbeats 16000000 in
set_option maxRecDepth 100000 in
theorem ringHolds_no (a0 a2 a3 : Int) (v : Value) (w : World) (h : ¬ (1 ≤ a0 ∧ a0 ≤ 64 ∧ isB a2 = true ∧ isB a3 = true)) :
    Calls Try.prog 4 #[.int .i64 a0, .int .i64 a2, .int .i64 a3, v] w fun e w' => e = .returned (.bool true) ∧ Below w.heap.size w w' := by
  have H := Aside0.mk h
  clear h
  go_enter Try.func4, Try.ntmps4
  go_wp2_with fail
  refine (begins_R w).mono ?_
  rintro e w1 ⟨rfl, hb⟩
  have HB := Aside0.mk hb
  clear hb
  go_wp2_with fail
  refine (new_no a0 a2 a3 w1 H.out).mono ?_
  rintro e w2 ⟨c1, hc1, rfl, rfl⟩
  go_wp2
  go_ret
  exact ⟨rfl, HB.out⟩
set_option maxHeartbeats 32000000 in
set_option maxRecDepth 100000 in
theorem ringHolds_in (r fl : Nat) (o : Int) (A : Option Addr) (n c : Nat) (L : List S47) (w : World) (h1 : 1 ≤ r) (h2 : r ≤ 64) (hfl : fl ≤ 2147483647) (ho : isB o = true)
    (hn : L.length = n) (hC : Kd.C k47 w A n L) (hnc : n ≤ c) (hok : ∀ a ∈ L, opsOk a.e) :
    Calls Try.prog 4 #[.int .i64 (r : Int), .int .i64 (fl : Int), .int .i64 o, .slice A n c] w fun e w' => e = .returned (.bool true) ∧ Below w.heap.size w w' := by
  have HC := Aside0.mk hC
  have HN := Aside0.mk hn
  have HO := Aside0.mk ho
  have HOK := Aside0.mk hok
  clear hC hn ho hok
  go_enter Try.func4, Try.ntmps4
  go_wp2_with fail
  refine (begins_R w).mono ?_
  rintro e w1 ⟨rfl, hb⟩
  have HB := Aside0.mk hb
  clear hb
  go_wp2_with fail
  refine (new_R (base := w.heap.size) (ok := fun _ => True) r fl o h1 h2 hfl HO.out HB.out.size trivial).mono ?_
  rintro e w2 ⟨rfl, hr, hb⟩
  have HS := Aside0.mk hr
  have HB2 := Aside0.mk (below_step HB.out hb)
  have HW1 := Aside0.mk HB.out.size
  have HH := Aside0.mk (HistF.new r fl o h1)
  have HSU := Aside0.mk (show Sure (fun _ => ⟨0, o, 0, 0, 0, []⟩) fl [] from fun x hx => by simp at hx)
  obtain ⟨b1, hb1⟩ : ∃ b1, b1 = w1.heap.size := ⟨_, rfl⟩
  rw [← hb1] at HS HW1
  rw [← hb1]
  clear hr hb hb1
  go_wp2
  go_loopw [12, 13, 14, 15, 16, 17, 18, 19, 20, 21, 22, 23, 24, 25, 26, 27, 28] (fun v12 v13 v14 v15 _ _ _ _ _ _ _ _ _ _ _ _ _ wr => ∃ (k : Nat) (s : RS) (H : Nat → S33) (l : List S33) (A4 : Option Addr) (n4 c4 : Nat), k ≤ n ∧ v15 = .int .i64 (k : Int) ∧ v12 = .int .i64 (s.ho : Int) ∧ v13 = .int .i64 (s.fl : Int) ∧ v14 = .slice A4 n4 c4 ∧ n4 ≤ 64 ∧
    Aside0 (HistF H s) ∧ Aside0 (s.room = r) ∧ Aside0 (RingIs wr w.heap.size (fun _ => True) (some b1) s) ∧ Aside0 (Sure H s.ho l) ∧ Aside0 (Kd.S k33 33 wr w.heap.size (fun k => k ≠ b1) (.slice A4 n4 c4) l) ∧ Aside0 (Below w.heap.size w wr)) (fun _ _ _ v15 _ _ _ _ _ _ _ _ _ _ _ _ _ _ => n - (intOf v15).toNat)
  case atStart => exact ⟨0, _, _, [], none, 0, 0, Nat.zero_le _, rfl, rfl, rfl, rfl, Nat.zero_le _, HH, ⟨rfl⟩, HS, HSU, ⟨Kd.S_nil _ _ _ _ _⟩, HB2⟩
  case round =>
    obtain ⟨k, s, H, l, A4, n4, c4, hk, rfl, rfl, rfl, rfl, hn4, HH, HRM, HS, HSU, HL, HW⟩ := hrel
    by_cases hlt : k < n
    · have hd : decide ((k : Int) < (n : Int)) = true := decide_eq_true (by omega)
      by_cases hlt2 : k < 120
      · have hd2 : decide ((k : Int) < 120) = true := decide_eq_true (by omega)
        obtain ⟨ad, A5, c5, hA, hcells, hxl, hxc⟩ := at_T47 HC.out k hlt
        subst hA
        obtain ⟨a, ha⟩ : ∃ a, a = rd_T47 L (k : Int) := ⟨_, rfl⟩
        rw [← ha] at hcells hxl hxc
        have hopa : opsOk a.e := by rw [ha]; exact HOK.out _ (rd_T47_mem (by rw [HN.out]; exact hlt))
        have HOP := Aside0.mk hopa
        obtain ⟨m5, hm5⟩ : ∃ m5, a.e.f5.length = m5 := ⟨_, rfl⟩
        rw [hm5] at hxl hxc hcells
        have HXL := Aside0.mk hxl
        have HXC := Aside0.mk hxc
        have HM5 := Aside0.mk hm5
        obtain ⟨x0, x1, x2, x3, x4, x5, x6, x7, x8⟩ := hcells
        replace x0 := pw_cell_below HW.out x0
        replace x1 := pw_cell_below HW.out x1
        replace x2 := pw_cell_below HW.out x2
        replace x3 := pw_cell_below HW.out x3
        replace x4 := pw_cell_below HW.out x4
        replace x5 := pw_cell_below HW.out x5
        replace x6 := pw_cell_below HW.out x6
        replace x7 := pw_cell_below HW.out x7
        replace x8 := pw_cell_below HW.out x8
        clear ha hxl hxc hopa hm5
        go_wp2_with fail
        refine (did_R (p := some b1) HS.out a A5 m5 c5 HM5.out (Live.of_C HXC.out HW.out HW1.out) HXL.out HOP.out (fun _ _ => trivial) (s.ho : Int)).mono ?_
        rintro e w4 ⟨rfl, hr4, hf4⟩
        obtain ⟨hwent, hkeep⟩ := HH.out.did a
        obtain ⟨xb, hxb⟩ : ∃ xb, (s.did a s.ho).2.1 = xb := ⟨_, rfl⟩
        obtain ⟨s1, hs1⟩ : ∃ s1, (s.did a s.ho).1 = s1 := ⟨_, rfl⟩
        rw [hs1] at hr4 hwent hkeep
        rw [hxb, hkeep]
        obtain ⟨H1, hh1, hold, hho, hfl1, hroom⟩ := hwent
        have HS4 := Aside0.mk hr4
        have HW4 := Aside0.mk (show Below w.heap.size w w4 from HW.out.trans (hf4.below (B := w.heap.size) (fun k hk _ => by obtain rfl : b1 = k := Option.some.inj hk; exact HW1.out) HW.out.size))
        have HL4 := Aside0.mk (S_frm HL.out hf4 (fun k hk hS => hk (Option.some.inj hS).symm))
        have HSU4 := Aside0.mk (HSU.out.step hold hho)
        have HH4 := Aside0.mk hh1
        have HRM4 := Aside0.mk (show s1.room = r by rw [hroom]; exact HRM.out)
        have hb14 := HS4.out.lt4
        have t1 : s.fl ≤ s1.fl := hfl1
        have t2 : s.ho ≤ s1.ho := hho
        clear x0 x1 x2 x3 x4 x5 x6 x7 x8 hxb hs1 hr4 hf4 hh1 hold hho hfl1 hroom hkeep HS HL HSU HH HW HRM
        go_wp2_with fail
        refine (floor_R (p := some b1) HS4.out).mono ?_
        rintro e w5 ⟨rfl, ⟨⟨n5, rfl⟩⟩⟩
        go_wp2_with fail
        refine (last_R (p := some b1) (RingIs_below HS4.out (pw_below_drewN (Below.refl _ _) n5))).mono ?_
        rintro e w6 ⟨rfl, ⟨⟨n6, rfl⟩⟩⟩
        have hb46 : Below w4.heap.size w4 ((w4.drewN n5).drewN n6) := pw_below_drewN (pw_below_drewN (Below.refl _ _) n5) n6
        obtain ⟨w6, hw6⟩ : ∃ w6, w6 = (w4.drewN n5).drewN n6 := ⟨_, rfl⟩
        rw [← hw6] at hb46 ⊢
        have HS6 := Aside0.mk (RingIs_below HS4.out hb46)
        have HL6 := Aside0.mk (Kd.S_step HL4.out (fun j _ hj => hb46.block j hj))
        have HW6 := Aside0.mk (below_step HW4.out hb46)
        have hb16 : b1 < w6.heap.size := Nat.lt_of_lt_of_le hb14 hb46.size
        clear hw6 hb46 HS4 HL4 HW4 hb14
        go_wp2_with fail
        refine (all_R (p := some b1) HS6.out).mono ?_
        rintro e w7 ⟨A1, m1, c1, rfl, hm1, hc1, hs1, hb7⟩
        have HS7 := Aside0.mk (RingIs_below HS6.out hb7)
        have HL7 := Aside0.mk (Kd.S_step HL6.out (fun j _ hj => hb7.block j hj))
        have HW7 := Aside0.mk (below_step HW6.out hb7)
        have HM1 := Aside0.mk hm1
        have HRD := Aside0.mk (show Kd.C k33 w7 A1 m1 s1.l by obtain ⟨q1, q2, q3⟩ := Kd.S_reads' hs1; rw [← q1] at q3; exact q3)
        have hm1l : m1 ≤ 64 := by have h1 := HS7.out.1.1; have h2 := HS7.out.1.2.1; omega
        have hb17 : b1 < w7.heap.size := Nat.lt_of_lt_of_le hb16 hb7.size
        have hla : s1.la = s1.fl + m1 := by rw [hm1]; rfl
        have hlab : s1.la ≤ 2147483647 := HS7.out.1.2.2.2.2.1
        have t3 : s1.fl ≤ s1.ho := HH4.out.1.2.1
        have t4 : s1.ho ≤ s1.la := HH4.out.1.2.2.1
        have t5 : (s1.la : Int) - (s1.fl : Int) = (m1 : Int) := by omega
        have t6 : m1 ≤ r := by have h2 := HS7.out.1.2.1; have h3 := HRM4.out; omega
        have t1d : decide (s1.fl < s.fl) = false := decide_eq_false (by omega)
        have t2d : decide (s1.ho < s.ho) = false := decide_eq_false (by omega)
        have t3d : decide (s1.ho < s1.fl) = false := decide_eq_false (by omega)
        have t4d : decide (s1.la < s1.ho) = false := decide_eq_false (by omega)
        have t6d : decide (r < m1) = false := decide_eq_false (by omega)
        have HLA := Aside0.mk hla
        have hflb : s1.fl ≤ 2147483647 := by omega
        clear hm1 hs1 hb7 hla HS6 HL6 HW6 hb16
        go_wp2
        go_loopw [20, 25] (fun v20 v25 wr => ∃ i : Nat, i ≤ m1 ∧ v25 = .int .i64 (i : Int) ∧ v20 = .int .i64 (H1 (s1.fl + i)).f1 ∧ w7 = wr) (fun _ v25 _ => m1 - (intOf v25).toNat)
        case atStart => exact ⟨0, Nat.zero_le _, rfl, by rw [Nat.add_zero, ← HH4.out.1.2.2.2.1], rfl⟩
        case round =>
          obtain ⟨i, hi, rfl, rfl, rfl⟩ := hrel
          by_cases hil : i < m1
          · have hid : decide ((i : Int) < (m1 : Int)) = true := decide_eq_true (by omega)
            obtain ⟨ad1, A7, c7, hA, x0, x1, _⟩ := at_T33 HRD.out (i : Int) (by omega) (by omega)
            subst hA
            have hrd : rd_T33 s1.l (i : Int) = H1 (s1.fl + 1 + i) := by
              unfold rd_T33
              rw [Int.toNat_natCast, List.getD_eq_getElem?_getD, HH4.out.1.2.2.2.2 i (by have := HLA.out; have h9 : s1.la = s1.fl + s1.l.length := rfl; omega)]
              rfl
            rw [hrd, Int.toNat_natCast] at x0 x1
            rw [HH4.out.2.1 (s1.fl + 1 + i) (by omega) (by have := HLA.out; omega), show ((s1.fl + 1 + i : Nat) : Int) = (s1.fl : Int) + 1 + (i : Int) by omega] at x0
            have hv := HH4.out.2.2 (s1.fl + i) (by omega) (by have := HLA.out; omega)
            obtain ⟨yv, hyv⟩ : ∃ yv, (H1 (s1.fl + 1 + i)).f1 = yv := ⟨_, rfl⟩
            obtain ⟨pv, hpv⟩ : ∃ pv, (H1 (s1.fl + i)).f1 = pv := ⟨_, rfl⟩
            rw [show s1.fl + i + 1 = s1.fl + 1 + i by omega, hyv, hpv] at hv
            rw [hyv] at x1
            rw [hpv]
            have hvd : decide (yv < pv) = false := decide_eq_false (by omega)
            have HYV := Aside0.mk hyv
            have hi64 : i ≤ 64 := by omega
            clear hrd hyv hpv hv
            go_wp2
            go_roundw
            case rel => exact ⟨i + 1, by omega, by go_num, by rw [show s1.fl + (i + 1) = s1.fl + 1 + i by omega, HYV.out], by first | rfl | trivial⟩
            case measure => simp [intOf]; omega
          · have hid : decide ((i : Int) < (m1 : Int)) = false := decide_eq_false (by omega)
            obtain rfl : i = m1 := by omega
            have hlv : (H1 (s1.fl + i)).f1 = s1.lv := by rw [← HLA.out]; exact HH4.out.1.lv.symm
            rw [hlv]
            clear hlv
            go_wp2
            have hq4 := Kd.S_reads' HL7.out
            have hl4 : l.length = n4 := hq4.1.symm
            have HRL := Aside0.mk (show Kd.C k33 w7 A4 n4 l by have h9 := hq4.2.2; rw [hl4] at h9; exact h9)
            have HL4N := Aside0.mk hl4
            clear hq4 hl4
            go_loopw [26, 27] (fun v26 _ wr => ∃ g : Nat, g ≤ n4 ∧ v26 = .int .i64 (g : Int) ∧ Aside0 (Below w7.heap.size w7 wr)) (fun v26 _ _ => n4 - (intOf v26).toNat)
            case atStart => exact ⟨0, Nat.zero_le _, rfl, ⟨Below.refl _ _⟩⟩
            case round =>
              obtain ⟨g, hg, rfl, HG⟩ := hrel
              by_cases hgl : g < n4
              · have hgd : decide ((g : Int) < (n4 : Int)) = true := decide_eq_true (by omega)
                obtain ⟨ad2, A8, c8, hA2, y0, y1, y2, y3, y4, y5, yl, yc⟩ := at_T33 HRL.out (g : Int) (by omega) (by omega)
                subst hA2
                have hmem : rd_T33 l (g : Int) ∈ l := by
                  unfold rd_T33
                  rw [Int.toNat_natCast, List.getD_eq_getElem?_getD, List.getElem?_eq_getElem (by rw [HL4N.out]; exact hgl)]
                  exact List.getElem_mem _
                obtain ⟨hyo, jj, hyj, hyf, hjj⟩ := HSU4.out _ hmem
                obtain ⟨y, hy⟩ : ∃ y, y = rd_T33 l (g : Int) := ⟨_, rfl⟩
                rw [← hy] at y0 y1 y2 y3 y4 y5 yl yc hyo hyj hyf
                rw [hyf] at y0
                rw [Int.toNat_natCast] at y0 y1 y2 y3 y4 y5
                have hj31 : jj ≤ 2147483647 := by omega
                obtain ⟨my, hmy⟩ : ∃ my, y.f5.length = my := ⟨_, rfl⟩
                rw [hmy] at y5 yl yc
                have HMY := Aside0.mk hmy
                have HYO := Aside0.mk hyo
                have HYJ := Aside0.mk hyj
                have HYF := Aside0.mk hyf
                replace y0 := pw_cell_below HG.out y0
                replace y1 := pw_cell_below HG.out y1
                replace y2 := pw_cell_below HG.out y2
                replace y3 := pw_cell_below HG.out y3
                replace y4 := pw_cell_below HG.out y4
                replace y5 := pw_cell_below HG.out y5
                have HYC := Aside0.mk (Kd.C_below yc HG.out)
                clear hy hmem hmy hyo hyj hyf yc
                by_cases hin : s1.fl + 1 ≤ jj
                · obtain ⟨q, hq⟩ : ∃ q, jj = s1.fl + 1 + q := ⟨jj - s1.fl - 1, by omega⟩
                  have hqs : ((jj : Int) - (s1.fl : Int)) - 1 = (q : Int) := by omega
                  have hqm : q < i := by have := HLA.out; omega
                  have hqd : decide ((i : Int) ≤ (q : Int)) = false := decide_eq_false (by omega)
                  have hqn : decide (i ≤ q) = false := decide_eq_false (by omega)
                  have HYO2 := Aside0.mk (show opsOk ⟨(jj : Int), y.f1, y.f2, y.f3, y.f4, y.f5⟩ from HYO.out)
                  obtain ⟨ad1, A7, c7, hA, z0, z1, z2, z3, z4, z5, zl, zc⟩ := at_T33 HRD.out (q : Int) (by omega) (by omega)
                  subst hA
                  have hrd : rd_T33 s1.l (q : Int) = y := by
                    unfold rd_T33
                    rw [Int.toNat_natCast, List.getD_eq_getElem?_getD, HH4.out.1.2.2.2.2 q (by have := HLA.out; have h9 : s1.la = s1.fl + s1.l.length := rfl; omega), HYJ.out, hq]
                    rfl
                  rw [hrd] at z0 z1 z2 z3 z4 z5 zl zc
                  rw [HYF.out] at z0
                  rw [HMY.out] at z5 zl zc
                  rw [Int.toNat_natCast] at z0 z1 z2 z3 z4 z5
                  replace z0 := pw_cell_below HG.out z0
                  replace z1 := pw_cell_below HG.out z1
                  replace z2 := pw_cell_below HG.out z2
                  replace z3 := pw_cell_below HG.out z3
                  replace z4 := pw_cell_below HG.out z4
                  replace z5 := pw_cell_below HG.out z5
                  have HZC := Aside0.mk (Kd.C_below zc HG.out)
                  have HQ := Aside0.mk hq
                  clear hrd zc hq hin
                  go_wp2
                  refine start_ (n := 20) (S := fun w' => w'.cell? (ad1.add (q * 6)) = some (.int .i64 (jj : Int)) ∧ w'.cell? ⟨(ad1.add (q * 6)).block, (ad1.add (q * 6)).off + 1, none⟩ = some (.int .i64 y.f1) ∧ w'.cell? ⟨(ad1.add (q * 6)).block, (ad1.add (q * 6)).off + 2, none⟩ = some (.int .i64 y.f2) ∧ w'.cell? ⟨(ad1.add (q * 6)).block, (ad1.add (q * 6)).off + 3, none⟩ = some (.int .i64 y.f3) ∧ w'.cell? ⟨(ad1.add (q * 6)).block, (ad1.add (q * 6)).off + 4, none⟩ = some (.int .i64 y.f4) ∧ w'.cell? ⟨(ad1.add (q * 6)).block, (ad1.add (q * 6)).off + 5, none⟩ = some (.slice A7 my c7) ∧ w'.cell? (ad2.add (g * 6)) = some (.int .i64 (jj : Int)) ∧ w'.cell? ⟨(ad2.add (g * 6)).block, (ad2.add (g * 6)).off + 1, none⟩ = some (.int .i64 y.f1) ∧ w'.cell? ⟨(ad2.add (g * 6)).block, (ad2.add (g * 6)).off + 2, none⟩ = some (.int .i64 y.f2) ∧ w'.cell? ⟨(ad2.add (g * 6)).block, (ad2.add (g * 6)).off + 3, none⟩ = some (.int .i64 y.f3) ∧ w'.cell? ⟨(ad2.add (g * 6)).block, (ad2.add (g * 6)).off + 4, none⟩ = some (.int .i64 y.f4) ∧ w'.cell? ⟨(ad2.add (g * 6)).block, (ad2.add (g * 6)).off + 5, none⟩ = some (.slice A8 my c8)) (ds := []) #[false, false, false, false, false, false, false, false, false, false, false, false, false, false, false, false, false, false, false, false] (by kernel_rfl) rfl rfl ⟨z0, z1, z2, z3, z4, z5, y0, y1, y2, y3, y4, y5⟩ (fun hHeld => ?_)
                  refine with_tabW rg4.tab34 rg4.bits34 (fun HT_ HW_ => ?_)
                  refine pure_ (i := 0) (N := some 167) (v := ?_) (a' := ?_) #[true, false, false, false, false, false, false, false, false, false, false, false, false, false, false, false, false, false, false, false] rfl rfl (any_of HT_.out (by kernel_rfl)) (fun _ _ _ h => h) (Or.inl ⟨by rfl, ?_⟩) ?_ ?_
                  rotate_left
                  · intro w'
                    go_simp
                    with_reducible rfl
                  rotate_left
                  · simp only [Act.put, List.setIfInBounds_toArray, List.set_cons_zero, List.set_cons_succ, i64_w, i32_w]
                    rfl
                  refine pure_ (i := 1) (N := some 168) (v := ?_) (a' := ?_) #[true, true, false, false, false, false, false, false, false, false, false, false, false, false, false, false, false, false, false, false] rfl rfl (any_of HT_.out (by kernel_rfl)) (fun _ _ _ h => h) (Or.inl ⟨by rfl, ?_⟩) ?_ ?_
                  rotate_left
                  · intro w'
                    go_simp
                    with_reducible rfl
                  rotate_left
                  · simp only [Act.put, List.setIfInBounds_toArray, List.set_cons_zero, List.set_cons_succ, i64_w, i32_w]
                    rfl
                  refine pure_ (i := 2) (N := some 169) (v := ?_) (a' := ?_) #[true, true, true, false, false, false, false, false, false, false, false, false, false, false, false, false, false, false, false, false] rfl rfl (any_of HT_.out (by kernel_rfl)) (fun _ _ _ h => h) (Or.inl ⟨by rfl, ?_⟩) ?_ ?_
                  rotate_left
                  · intro w'
                    go_simp
                    with_reducible rfl
                  rotate_left
                  · simp only [Act.put, List.setIfInBounds_toArray, List.set_cons_zero, List.set_cons_succ, i64_w, i32_w]
                    rfl
                  refine pure_ (i := 3) (N := some 170) (v := ?_) (a' := ?_) #[true, true, true, true, false, false, false, false, false, false, false, false, false, false, false, false, false, false, false, false] rfl rfl (any_of HT_.out (by kernel_rfl)) (fun _ _ _ h => h) (Or.inl ⟨by rfl, ?_⟩) ?_ ?_
                  rotate_left
                  · intro w'
                    go_simp
                    with_reducible rfl
                  rotate_left
                  · simp only [Act.put, List.setIfInBounds_toArray, List.set_cons_zero, List.set_cons_succ, i64_w, i32_w]
                    rfl
                  refine pure_ (i := 4) (N := some 171) (v := ?_) (a' := ?_) #[true, true, true, true, true, false, false, false, false, false, false, false, false, false, false, false, false, false, false, false] rfl rfl (any_of HT_.out (by kernel_rfl)) (fun _ _ _ h => h) (Or.inl ⟨by rfl, ?_⟩) ?_ ?_
                  rotate_left
                  · intro w'
                    go_simp
                    with_reducible rfl
                  rotate_left
                  · simp only [Act.put, List.setIfInBounds_toArray, List.set_cons_zero, List.set_cons_succ, i64_w, i32_w]
                    rfl
                  refine pure_ (i := 5) (N := some 172) (v := ?_) (a' := ?_) #[true, true, true, true, true, true, false, false, false, false, false, false, false, false, false, false, false, false, false, false] rfl rfl (any_of HT_.out (by kernel_rfl)) (fun _ _ _ h => h) (Or.inl ⟨by rfl, ?_⟩) ?_ ?_
                  rotate_left
                  · intro w'
                    go_simp
                    with_reducible rfl
                  rotate_left
                  · simp only [Act.put, List.setIfInBounds_toArray, List.set_cons_zero, List.set_cons_succ, i64_w, i32_w]
                    rfl
                  refine pure_ (i := 6) (N := some 173) (v := ?_) (a' := ?_) #[true, true, true, true, true, true, true, false, false, false, false, false, false, false, false, false, false, false, false, false] rfl rfl (any_of HT_.out (by kernel_rfl)) (fun _ _ _ h => h) (Or.inl ⟨by rfl, ?_⟩) ?_ ?_
                  rotate_left
                  · intro w'
                    go_simp
                    with_reducible rfl
                  rotate_left
                  · simp only [Act.put, List.setIfInBounds_toArray, List.set_cons_zero, List.set_cons_succ, i64_w, i32_w]
                    rfl
                  refine pure_ (i := 7) (N := some 174) (v := ?_) (a' := ?_) #[true, true, true, true, true, true, true, true, false, false, false, false, false, false, false, false, false, false, false, false] rfl rfl (any_of HT_.out (by kernel_rfl)) (fun _ _ _ h => h) (Or.inl ⟨by rfl, ?_⟩) ?_ ?_
                  rotate_left
                  · intro w'
                    go_simp
                    with_reducible rfl
                  rotate_left
                  · simp only [Act.put, List.setIfInBounds_toArray, List.set_cons_zero, List.set_cons_succ, i64_w, i32_w]
                    rfl
                  refine pure_ (i := 8) (N := some 175) (v := ?_) (a' := ?_) #[true, true, true, true, true, true, true, true, true, false, false, false, false, false, false, false, false, false, false, false] rfl rfl (any_of HT_.out (by kernel_rfl)) (fun _ _ _ h => h) (Or.inl ⟨by rfl, ?_⟩) ?_ ?_
                  rotate_left
                  · intro w'
                    go_simp
                    with_reducible rfl
                  rotate_left
                  · simp only [Act.put, List.setIfInBounds_toArray, List.set_cons_zero, List.set_cons_succ, i64_w, i32_w]
                    rfl
                  refine pure_ (i := 9) (N := some 176) (v := ?_) (a' := ?_) #[true, true, true, true, true, true, true, true, true, true, false, false, false, false, false, false, false, false, false, false] rfl rfl (any_of HT_.out (by kernel_rfl)) (fun _ _ _ h => h) (Or.inl ⟨by rfl, ?_⟩) ?_ ?_
                  rotate_left
                  · intro w'
                    go_simp
                    with_reducible rfl
                  rotate_left
                  · simp only [Act.put, List.setIfInBounds_toArray, List.set_cons_zero, List.set_cons_succ, i64_w, i32_w]
                    rfl
                  refine pure_ (i := 10) (N := some 177) (v := ?_) (a' := ?_) #[true, true, true, true, true, true, true, true, true, true, true, false, false, false, false, false, false, false, false, false] rfl rfl (any_of HT_.out (by kernel_rfl)) (fun _ _ _ h => h) (Or.inl ⟨by rfl, ?_⟩) ?_ ?_
                  rotate_left
                  · intro w'
                    go_simp
                    with_reducible rfl
                  rotate_left
                  · simp only [Act.put, List.setIfInBounds_toArray, List.set_cons_zero, List.set_cons_succ, i64_w, i32_w]
                    rfl
                  refine pure_ (i := 12) (N := some 179) (v := ?_) (a' := ?_) #[true, true, true, true, true, true, true, true, true, true, true, false, true, false, false, false, false, false, false, false] rfl rfl (any_of HT_.out (by kernel_rfl)) (fun _ _ _ h => h) (Or.inl ⟨by rfl, ?_⟩) ?_ ?_
                  rotate_left
                  · intro w'
                    go_simp
                    with_reducible rfl
                  rotate_left
                  · simp only [Act.put, List.setIfInBounds_toArray, List.set_cons_zero, List.set_cons_succ, i64_w, i32_w]
                    rfl
                  refine pure_ (i := 13) (N := some 180) (v := ?_) (a' := ?_) #[true, true, true, true, true, true, true, true, true, true, true, false, true, true, false, false, false, false, false, false] rfl rfl (any_of HT_.out (by kernel_rfl)) (fun _ _ _ h => h) (Or.inl ⟨by rfl, ?_⟩) ?_ ?_
                  rotate_left
                  · intro w'
                    go_simp
                    with_reducible rfl
                  rotate_left
                  · simp only [Act.put, List.setIfInBounds_toArray, List.set_cons_zero, List.set_cons_succ, i64_w, i32_w]
                    rfl
                  refine pure_ (i := 14) (N := some 181) (v := ?_) (a' := ?_) #[true, true, true, true, true, true, true, true, true, true, true, false, true, true, true, false, false, false, false, false] rfl rfl (any_of HT_.out (by kernel_rfl)) (fun _ _ _ h => h) (Or.inl ⟨by rfl, ?_⟩) ?_ ?_
                  rotate_left
                  · intro w'
                    go_simp
                    with_reducible rfl
                  rotate_left
                  · simp only [Act.put, List.setIfInBounds_toArray, List.set_cons_zero, List.set_cons_succ, i64_w, i32_w]
                    rfl
                  refine take_ (i := 11) (N := some 178) (v := ?_) (a' := ?_) #[true, true, true, true, true, true, true, true, true, true, true, true, true, true, true, false, false, false, false, false] rfl rfl (take_ofW HT_.out HW_.out (by kernel_rfl)) (fun _ _ _ h => h) (Or.inl ⟨by rfl, ?_⟩) hHeld ?_ ?_
                  rotate_left
                  · rintro w' ⟨s0, s1, s2, s3, s4, s5, s6, s7, s8, s9, s10, s11⟩
                    go_simp
                    with_reducible rfl
                  rotate_left
                  · simp only [Act.put, List.setIfInBounds_toArray, List.set_cons_zero, List.set_cons_succ, i64_w, i32_w]
                    rfl
                  refine take_ (i := 15) (N := some 182) (v := ?_) (a' := ?_) #[true, true, true, true, true, true, true, true, true, true, true, true, true, true, true, true, false, false, false, false] rfl rfl (take_ofW HT_.out HW_.out (by kernel_rfl)) (fun _ _ _ h => h) (Or.inl ⟨by rfl, ?_⟩) hHeld ?_ ?_
                  rotate_left
                  · rintro w' ⟨s0, s1, s2, s3, s4, s5, s6, s7, s8, s9, s10, s11⟩
                    go_simp
                    with_reducible rfl
                  rotate_left
                  · simp only [Act.put, List.setIfInBounds_toArray, List.set_cons_zero, List.set_cons_succ, i64_w, i32_w]
                    rfl
                  refine one_ (i := 16) (N := some 183) #[true, true, true, true, true, true, true, true, true, true, true, true, true, true, true, true, true, false, false, false] rfl rfl (one_of HT_.out (by kernel_rfl)) (by decide) (fun K hK => ?_)
                  refine goes_ Try.func14 (by kernel_rfl) rfl #[entV ⟨(jj : Int), y.f1, y.f2, y.f3, y.f4, y.f5⟩ (.slice A7 my c7), entV ⟨(jj : Int), y.f1, y.f2, y.f3, y.f4, y.f5⟩ (.slice A8 my c8)] (by rfl) rfl rfl (by simp only [List.map_toArray, List.map_cons, List.map_nil]; rfl) ?_
                  with_reducible refine (same_T ⟨(jj : Int), y.f1, y.f2, y.f3, y.f4, y.f5⟩ A7 A8 my c7 c8 _ HMY.out HYO2.out (Kd.C_drew HZC.out) zl (Kd.C_drew HYC.out) yl).mono ?_
                  rintro e wa ⟨rfl, hba⟩
                  have HBA := Aside0.mk hba
                  refine ⟨_, rfl, ?_⟩
                  refine hK.out _ _ ⟨(pw_cell_below hba z0), (pw_cell_below hba z1), (pw_cell_below hba z2), (pw_cell_below hba z3), (pw_cell_below hba z4), (pw_cell_below hba z5), (pw_cell_below hba y0), (pw_cell_below hba y1), (pw_cell_below hba y2), (pw_cell_below hba y3), (pw_cell_below hba y4), (pw_cell_below hba y5)⟩ (fun hHeld => ?_)
                  clear hK K
                  refine norm_ (a' := ?_) ?_ ?_
                  rotate_left
                  · show Act.put _ (some 183) _ = _
                    simp only [Act.put, List.setIfInBounds_toArray, List.set_cons_zero, List.set_cons_succ, i64_w, i32_w]
                    rfl
                  refine pure_ (i := 17) (N := some 184) (v := ?_) (a' := ?_) #[true, true, true, true, true, true, true, true, true, true, true, true, true, true, true, true, true, true, false, false] rfl rfl (any_of HT_.out (by kernel_rfl)) (fun _ _ _ h => h) (Or.inl ⟨by rfl, ?_⟩) ?_ ?_
                  rotate_left
                  · intro w'
                    go_simp
                    with_reducible rfl
                  rotate_left
                  · simp only [Act.put, List.setIfInBounds_toArray, List.set_cons_zero, List.set_cons_succ, i64_w, i32_w]
                    rfl
                  refine pure_ (i := 18) (N := some 185) (v := ?_) (a' := ?_) #[true, true, true, true, true, true, true, true, true, true, true, true, true, true, true, true, true, true, true, false] rfl rfl (any_of HT_.out (by kernel_rfl)) (fun _ _ _ h => h) (Or.inl ⟨by rfl, ?_⟩) ?_ ?_
                  rotate_left
                  · intro w'
                    go_simp
                    with_reducible rfl
                  rotate_left
                  · simp only [Act.put, List.setIfInBounds_toArray, List.set_cons_zero, List.set_cons_succ, i64_w, i32_w]
                    rfl
                  refine pure_ (i := 19) (N := some 186) (v := ?_) (a' := ?_) #[true, true, true, true, true, true, true, true, true, true, true, true, true, true, true, true, true, true, true, true] rfl rfl (any_of HT_.out (by kernel_rfl)) (fun _ _ _ h => h) (Or.inl ⟨by rfl, ?_⟩) ?_ ?_
                  rotate_left
                  · intro w'
                    go_simp
                    with_reducible rfl
                  rotate_left
                  · simp only [Act.put, List.setIfInBounds_toArray, List.set_cons_zero, List.set_cons_succ, i64_w, i32_w]
                    rfl
                  refine done_ (done_of HT_.out (by kernel_rfl)) ?_
                  have HG2 := Aside0.mk (below_then (below_drew HG.out) HG.out.size HBA.out)
                  clear z0 z1 z2 z3 z4 z5 y0 y1 y2 y3 y4 y5
                  go_wp2
                  go_roundw
                  case rel => exact ⟨g + 1, by omega, by go_num, HG2⟩
                  case measure => simp [intOf]; omega
                · have hneg : ((jj : Int) - (s1.fl : Int)) - 1 < 0 := by omega
                  obtain ⟨d, hd1⟩ : ∃ d : Int, (jj : Int) - (s1.fl : Int) = d := ⟨_, rfl⟩
                  rw [hd1] at hneg
                  have hd2 : -2147483648 ≤ d := by omega
                  have hd3 : d ≤ 2147483647 := by omega
                  obtain ⟨d1, hd4⟩ : ∃ d1 : Int, d - 1 = d1 := ⟨_, rfl⟩
                  rw [hd4] at hneg
                  have hd5 : decide ((0 : Int) ≤ d1) = false := decide_eq_false (by omega)
                  have hd6 : -2147483649 ≤ d1 := by omega
                  clear hin
                  go_wp2
                  refine start_ (n := 20) (S := fun w' => 0 = 0) (ds := []) #[false, false, false, false, false, false, false, false, false, false, false, false, false, false, false, false, false, false, false, false] (by kernel_rfl) rfl rfl (rfl) (fun hHeld => ?_)
                  refine with_tabW rg4.tab34 rg4.bits34 (fun HT_ HW_ => ?_)
                  refine pure_ (i := 0) (N := some 167) (v := ?_) (a' := ?_) #[true, false, false, false, false, false, false, false, false, false, false, false, false, false, false, false, false, false, false, false] rfl rfl (any_of HT_.out (by kernel_rfl)) (fun _ _ _ h => h) (Or.inl ⟨by rfl, ?_⟩) ?_ ?_
                  rotate_left
                  · intro w'
                    go_simp
                    with_reducible rfl
                  rotate_left
                  · simp only [Act.put, List.setIfInBounds_toArray, List.set_cons_zero, List.set_cons_succ, i64_w, i32_w]
                    rfl
                  refine pure_ (i := 1) (N := some 168) (v := ?_) (a' := ?_) #[true, true, false, false, false, false, false, false, false, false, false, false, false, false, false, false, false, false, false, false] rfl rfl (any_of HT_.out (by kernel_rfl)) (fun _ _ _ h => h) (Or.inl ⟨by rfl, ?_⟩) ?_ ?_
                  rotate_left
                  · intro w'
                    go_simp
                    with_reducible rfl
                  rotate_left
                  · simp only [Act.put, List.setIfInBounds_toArray, List.set_cons_zero, List.set_cons_succ, i64_w, i32_w]
                    rfl
                  refine pure_ (i := 2) (N := some 169) (v := ?_) (a' := ?_) #[true, true, true, false, false, false, false, false, false, false, false, false, false, false, false, false, false, false, false, false] rfl rfl (any_of HT_.out (by kernel_rfl)) (fun _ _ _ h => h) (Or.inl ⟨by rfl, ?_⟩) ?_ ?_
                  rotate_left
                  · intro w'
                    go_simp
                    with_reducible rfl
                  rotate_left
                  · simp only [Act.put, List.setIfInBounds_toArray, List.set_cons_zero, List.set_cons_succ, i64_w, i32_w]
                    rfl
                  refine pure_ (i := 3) (N := some 170) (v := undef) (a' := ?_) #[true, true, true, true, false, false, false, false, false, false, false, false, false, false, false, false, false, false, false, false] rfl rfl (any_of HT_.out (by kernel_rfl)) (fun _ _ _ h => h) (Or.inr ⟨by rfl, rfl⟩) ?_ ?_
                  rotate_left
                  · simp only [Act.put, List.setIfInBounds_toArray, List.set_cons_zero, List.set_cons_succ, i64_w, i32_w]
                    rfl
                  refine pure_ (i := 4) (N := some 171) (v := undef) (a' := ?_) #[true, true, true, true, true, false, false, false, false, false, false, false, false, false, false, false, false, false, false, false] rfl rfl (any_of HT_.out (by kernel_rfl)) (fun _ _ _ h => h) (Or.inr ⟨by rfl, rfl⟩) ?_ ?_
                  rotate_left
                  · simp only [Act.put, List.setIfInBounds_toArray, List.set_cons_zero, List.set_cons_succ, i64_w, i32_w]
                    rfl
                  refine pure_ (i := 5) (N := some 172) (v := undef) (a' := ?_) #[true, true, true, true, true, true, false, false, false, false, false, false, false, false, false, false, false, false, false, false] rfl rfl (any_of HT_.out (by kernel_rfl)) (fun _ _ _ h => h) (Or.inr ⟨by rfl, rfl⟩) ?_ ?_
                  rotate_left
                  · simp only [Act.put, List.setIfInBounds_toArray, List.set_cons_zero, List.set_cons_succ, i64_w, i32_w]
                    rfl
                  refine pure_ (i := 6) (N := some 173) (v := undef) (a' := ?_) #[true, true, true, true, true, true, true, false, false, false, false, false, false, false, false, false, false, false, false, false] rfl rfl (any_of HT_.out (by kernel_rfl)) (fun _ _ _ h => h) (Or.inr ⟨by rfl, rfl⟩) ?_ ?_
                  rotate_left
                  · simp only [Act.put, List.setIfInBounds_toArray, List.set_cons_zero, List.set_cons_succ, i64_w, i32_w]
                    rfl
                  refine pure_ (i := 7) (N := some 174) (v := undef) (a' := ?_) #[true, true, true, true, true, true, true, true, false, false, false, false, false, false, false, false, false, false, false, false] rfl rfl (any_of HT_.out (by kernel_rfl)) (fun _ _ _ h => h) (Or.inr ⟨by rfl, rfl⟩) ?_ ?_
                  rotate_left
                  · simp only [Act.put, List.setIfInBounds_toArray, List.set_cons_zero, List.set_cons_succ, i64_w, i32_w]
                    rfl
                  refine pure_ (i := 8) (N := some 175) (v := undef) (a' := ?_) #[true, true, true, true, true, true, true, true, true, false, false, false, false, false, false, false, false, false, false, false] rfl rfl (any_of HT_.out (by kernel_rfl)) (fun _ _ _ h => h) (Or.inr ⟨by rfl, rfl⟩) ?_ ?_
                  rotate_left
                  · simp only [Act.put, List.setIfInBounds_toArray, List.set_cons_zero, List.set_cons_succ, i64_w, i32_w]
                    rfl
                  refine pure_ (i := 9) (N := some 176) (v := undef) (a' := ?_) #[true, true, true, true, true, true, true, true, true, true, false, false, false, false, false, false, false, false, false, false] rfl rfl (any_of HT_.out (by kernel_rfl)) (fun _ _ _ h => h) (Or.inr ⟨by rfl, rfl⟩) ?_ ?_
                  rotate_left
                  · simp only [Act.put, List.setIfInBounds_toArray, List.set_cons_zero, List.set_cons_succ, i64_w, i32_w]
                    rfl
                  refine pure_ (i := 10) (N := some 177) (v := undef) (a' := ?_) #[true, true, true, true, true, true, true, true, true, true, true, false, false, false, false, false, false, false, false, false] rfl rfl (any_of HT_.out (by kernel_rfl)) (fun _ _ _ h => h) (Or.inr ⟨by rfl, rfl⟩) ?_ ?_
                  rotate_left
                  · simp only [Act.put, List.setIfInBounds_toArray, List.set_cons_zero, List.set_cons_succ, i64_w, i32_w]
                    rfl
                  refine pure_ (i := 11) (N := some 178) (v := undef) (a' := ?_) #[true, true, true, true, true, true, true, true, true, true, true, true, false, false, false, false, false, false, false, false] rfl rfl (any_of HT_.out (by kernel_rfl)) (fun _ _ _ h => h) (Or.inr ⟨by rfl, rfl⟩) ?_ ?_
                  rotate_left
                  · simp only [Act.put, List.setIfInBounds_toArray, List.set_cons_zero, List.set_cons_succ, i64_w, i32_w]
                    rfl
                  refine pure_ (i := 12) (N := some 179) (v := undef) (a' := ?_) #[true, true, true, true, true, true, true, true, true, true, true, true, true, false, false, false, false, false, false, false] rfl rfl (any_of HT_.out (by kernel_rfl)) (fun _ _ _ h => h) (Or.inr ⟨by rfl, rfl⟩) ?_ ?_
                  rotate_left
                  · simp only [Act.put, List.setIfInBounds_toArray, List.set_cons_zero, List.set_cons_succ, i64_w, i32_w]
                    rfl
                  refine pure_ (i := 13) (N := some 180) (v := undef) (a' := ?_) #[true, true, true, true, true, true, true, true, true, true, true, true, true, true, false, false, false, false, false, false] rfl rfl (any_of HT_.out (by kernel_rfl)) (fun _ _ _ h => h) (Or.inr ⟨by rfl, rfl⟩) ?_ ?_
                  rotate_left
                  · simp only [Act.put, List.setIfInBounds_toArray, List.set_cons_zero, List.set_cons_succ, i64_w, i32_w]
                    rfl
                  refine pure_ (i := 14) (N := some 181) (v := undef) (a' := ?_) #[true, true, true, true, true, true, true, true, true, true, true, true, true, true, true, false, false, false, false, false] rfl rfl (any_of HT_.out (by kernel_rfl)) (fun _ _ _ h => h) (Or.inr ⟨by rfl, rfl⟩) ?_ ?_
                  rotate_left
                  · simp only [Act.put, List.setIfInBounds_toArray, List.set_cons_zero, List.set_cons_succ, i64_w, i32_w]
                    rfl
                  refine pure_ (i := 15) (N := some 182) (v := undef) (a' := ?_) #[true, true, true, true, true, true, true, true, true, true, true, true, true, true, true, true, false, false, false, false] rfl rfl (any_of HT_.out (by kernel_rfl)) (fun _ _ _ h => h) (Or.inr ⟨by rfl, rfl⟩) ?_ ?_
                  rotate_left
                  · simp only [Act.put, List.setIfInBounds_toArray, List.set_cons_zero, List.set_cons_succ, i64_w, i32_w]
                    rfl
                  refine pure_ (i := 16) (N := some 183) (v := undef) (a' := ?_) #[true, true, true, true, true, true, true, true, true, true, true, true, true, true, true, true, true, false, false, false] rfl rfl (any_of HT_.out (by kernel_rfl)) (fun _ _ _ h => h) (Or.inr ⟨by rfl, rfl⟩) ?_ ?_
                  rotate_left
                  · simp only [Act.put, List.setIfInBounds_toArray, List.set_cons_zero, List.set_cons_succ, i64_w, i32_w]
                    rfl
                  refine pure_ (i := 17) (N := some 184) (v := undef) (a' := ?_) #[true, true, true, true, true, true, true, true, true, true, true, true, true, true, true, true, true, true, false, false] rfl rfl (any_of HT_.out (by kernel_rfl)) (fun _ _ _ h => h) (Or.inr ⟨by rfl, rfl⟩) ?_ ?_
                  rotate_left
                  · simp only [Act.put, List.setIfInBounds_toArray, List.set_cons_zero, List.set_cons_succ, i64_w, i32_w]
                    rfl
                  refine pure_ (i := 18) (N := some 185) (v := undef) (a' := ?_) #[true, true, true, true, true, true, true, true, true, true, true, true, true, true, true, true, true, true, true, false] rfl rfl (any_of HT_.out (by kernel_rfl)) (fun _ _ _ h => h) (Or.inr ⟨by rfl, rfl⟩) ?_ ?_
                  rotate_left
                  · simp only [Act.put, List.setIfInBounds_toArray, List.set_cons_zero, List.set_cons_succ, i64_w, i32_w]
                    rfl
                  refine pure_ (i := 19) (N := some 186) (v := ?_) (a' := ?_) #[true, true, true, true, true, true, true, true, true, true, true, true, true, true, true, true, true, true, true, true] rfl rfl (any_of HT_.out (by kernel_rfl)) (fun _ _ _ h => h) (Or.inl ⟨by rfl, ?_⟩) ?_ ?_
                  rotate_left
                  · intro w'
                    go_simp
                    with_reducible rfl
                  rotate_left
                  · simp only [Act.put, List.setIfInBounds_toArray, List.set_cons_zero, List.set_cons_succ, i64_w, i32_w]
                    rfl
                  refine done_ (done_of HT_.out (by kernel_rfl)) ?_
                  have HG2 := Aside0.mk (below_drew HG.out)
                  go_wp2
                  go_roundw
                  case rel => exact ⟨g + 1, by omega, by go_num, HG2⟩
                  case measure => simp [intOf]; omega
              · have hgd : decide ((g : Int) < (n4 : Int)) = false := decide_eq_false (by omega)
                have HS8 := Aside0.mk (RingIs_below HS7.out HG.out)
                have HL8 := Aside0.mk (Kd.S_step HL7.out (fun j _ hj => HG.out.block j hj))
                have HW8 := Aside0.mk (below_step HW7.out HG.out)
                cases xb with
                | false =>
                  go_wp2
                  go_roundw
                  case rel => exact ⟨k + 1, s1, H1, l, A4, n4, c4, by omega, by go_num, rfl, rfl, rfl, hn4, HH4, HRM4, HS8, HSU4, HL8, HW8⟩
                  case measure => simp [intOf]; omega
                | true =>
                  go_wp2
                  obtain ⟨wz, rfl⟩ : ∃ wz, wz = wr := ⟨_, rfl⟩
                  go_loopw [14, 28] (fun v14 v28 u => ∃ (h : Nat) (A6 : Option Addr) (c6 : Nat), h ≤ i ∧ v28 = .int .i64 (h : Int) ∧ v14 = .slice A6 h c6 ∧ Aside0 (Kd.S k33 33 u wz.heap.size (fun _ => True) (.slice A6 h c6) (s1.l.take h)) ∧ Aside0 (Below wz.heap.size wz u) ∧ Aside0 (Sure H1 s1.ho (s1.l.take h))) (fun _ v28 _ => i - (intOf v28).toNat)
                  case atStart => exact ⟨0, none, 0, Nat.zero_le _, rfl, rfl, ⟨Kd.S_nil _ _ _ _ _⟩, ⟨Below.refl _ _⟩, ⟨fun x hx => by simp at hx⟩⟩
                  case round =>
                    obtain ⟨h, A6, c6, hh, rfl, rfl, HA, HU, HSS⟩ := hrel
                    have HSo := Aside0.mk (show RingIs wr w.heap.size (fun _ => True) (some b1) s1 from RingIs_below HS8.out HU.out)
                    have HWo := Aside0.mk (show Below w.heap.size w wr from below_step HW8.out HU.out)
                    have HLo := Aside0.mk (show Kd.S k33 33 wr w.heap.size (fun k => k ≠ b1) (.slice A6 h c6) (s1.l.take h) from Kd.S_mono (Kd.S_lower (Kd.S_bound HA.out) HW8.out.size) (fun j hj => by have h1 := hj.2.1; have h2 := HS8.out.lt4; show j ≠ b1; omega))
                    by_cases hhl : h < i
                    · have hhd : decide ((h : Int) < (i : Int)) = true := decide_eq_true (by omega)
                      obtain ⟨ad1, A7, c7, hA, z0, z1, z2, z3, z4, z5, zl, zc⟩ := at_T33 HRD.out (h : Int) (by omega) (by omega)
                      subst hA
                      have hget : s1.l[h]? = some (H1 (s1.fl + 1 + h)) := HH4.out.1.2.2.2.2 h (by have := HLA.out; have h9 : s1.la = s1.fl + s1.l.length := rfl; omega)
                      have hrd : rd_T33 s1.l (h : Int) = H1 (s1.fl + 1 + h) := by
                        unfold rd_T33
                        rw [Int.toNat_natCast, List.getD_eq_getElem?_getD, hget]
                        rfl
                      have hyf := HH4.out.2.1 (s1.fl + 1 + h) (by omega) (by have := HLA.out; omega)
                      obtain ⟨y, hy⟩ : ∃ y, H1 (s1.fl + 1 + h) = y := ⟨_, rfl⟩
                      rw [hrd, hy] at z0 z1 z2 z3 z4 z5 zl zc
                      rw [hy] at hyf hget
                      rw [Int.toNat_natCast] at z0 z1 z2 z3 z4 z5
                      have hyo : opsOk y := HS7.out.1.2.2.2.2.2 y (List.mem_of_getElem? hget)
                      have htk : s1.l.take h ++ [y] = s1.l.take (h + 1) := by rw [List.take_add_one, hget]; rfl
                      have hb7u : Below w7.heap.size w7 wr := below_then HG.out HG.out.size HU.out
                      replace z0 := pw_cell_below hb7u z0
                      replace z1 := pw_cell_below hb7u z1
                      replace z2 := pw_cell_below hb7u z2
                      replace z3 := pw_cell_below hb7u z3
                      replace z4 := pw_cell_below hb7u z4
                      replace z5 := pw_cell_below hb7u z5
                      obtain ⟨my, hmy⟩ : ∃ my, y.f5.length = my := ⟨_, rfl⟩
                      rw [hmy] at z5 zl zc
                      have HZC := Aside0.mk (Kd.C_below zc hb7u)
                      have HMY := Aside0.mk hmy
                      have HYO := Aside0.mk hyo
                      have HY := Aside0.mk (And.intro hy hyf)
                      have HTK := Aside0.mk htk
                      clear hget hrd hy hyf hyo htk hmy zc hb7u
                      by_cases hle : y.f0 ≤ (s1.ho : Int)
                      · have hled : decide (y.f0 ≤ (s1.ho : Int)) = true := decide_eq_true hle
                        have HSN := Aside0.mk (show Sure H1 s1.ho (s1.l.take (h + 1)) from fun x hx => by
                          rw [← HTK.out] at hx
                          rcases List.mem_append.1 hx with hx | hx
                          · exact HSS.out x hx
                          · rw [List.mem_singleton.1 hx]
                            have h9 := HY.out.2
                            exact ⟨HYO.out, s1.fl + 1 + h, HY.out.1.symm, h9, by omega⟩)
                        clear hle
                        go_wp2_with fail
                        refine (twin_R y A7 my c7 _ HMY.out HYO.out HZC.out zl).mono ?_
                        rintro e wt ⟨A2, c2, rfl, hv2, hl2, hbt⟩
                        have HV2 := Aside0.mk hv2
                        have HBT := Aside0.mk hbt
                        clear hv2 hl2 hbt z0 z1 z2 z3 z4 z5
                        unfold entV
                        go_wp2_with (with_reducible refine stop_append rfl ?_)
                        refine Kd.S_append k33 (w0 := wz) wz.heap.size rfl (.tmp 203) (.tmp 209) 25 33 (.agg #[(.int .i64 0), (.int .i64 0), (.int .i64 0), (.int .i64 0), (.int .i64 0), (.slice none 0 0)]) 64 rfl Try.underlying25 info33 rfl (by decide) (by omega) (.slice A6 h c6) (s1.l.take h) y (cells6 y (.slice A2 my c2)) (fun _ => True) (fun j => wr.heap.size ≤ j) rfl rfl
                          (k33_mkM _ _ _ _ (Kd.R_lower (Kd.R_mono (Kd.R_bound HV2.out) (fun j hj => hj.2.1)) HU.out.size)) (fun j hj => ⟨trivial, fun e => by have h1 := ((Kd.S_R (Kd.S_bound HA.out)).1 j e.symm).2.2.1; have h2 : wr.heap.size ≤ j := hj; omega⟩) (fun j hj => trivial)
                          (Kd.S_step (Kd.S_mono (Kd.S_bound HA.out) (fun j hj => ⟨trivial, by have h1 := hj.2.2.1; show ¬ wr.heap.size ≤ j; omega⟩)) (fun j _ hj => HBT.out.block j hj)) (below_then HU.out HU.out.size HBT.out) (Nat.le_trans HU.out.size HBT.out.size) (by rw [List.length_take]; omega) ?_
                        intro v1 w2 ho hb hg9 hat
                        rw [HTK.out] at ho
                        obtain ⟨A9, c9', rfl⟩ := Kd.S_slice ho
                        have hlen9 : (s1.l.take (h + 1)).length = h + 1 := by rw [List.length_take]; have := HLA.out; have h9 : s1.la = s1.fl + s1.l.length := rfl; omega
                        rw [hlen9] at ho ⊢
                        have HO9 := Aside0.mk ho
                        have HB9 := Aside0.mk hb
                        clear ho hb hg9 hat hlen9
                        go_wp2
                        go_roundw
                        case rel =>
                          first
                            | exact ⟨h + 1, A9, c9', by omega, by go_num, rfl, HO9, HB9, HSN⟩
                            | (refine ⟨_, _, _, _, _, _, _, _, _, _, _, _, _, _, _, _, _, _, _, _, _, _, _, _, _, ?_, rfl⟩; exact ⟨h + 1, A9, c9', by omega, by go_num, rfl, HO9, HB9, HSN⟩)
                        case measure => simp [intOf]; omega
                      · have hled : decide (y.f0 ≤ (s1.ho : Int)) = false := decide_eq_false hle
                        clear hle
                        go_wp2
                        go_roundw
                        case rel => exact ⟨k + 1, s1, H1, s1.l.take h, A6, h, c6, by omega, by go_num, rfl, rfl, rfl, by omega, HH4, HRM4, HSo, HSS, HLo, HWo⟩
                        case measure => simp [intOf]; omega
                    · have hhd : decide ((h : Int) < (i : Int)) = false := decide_eq_false (by omega)
                      go_wp2
                      go_roundw
                      case rel => exact ⟨k + 1, s1, H1, s1.l.take h, A6, h, c6, by omega, by go_num, rfl, rfl, rfl, by omega, HH4, HRM4, HSo, HSS, HLo, HWo⟩
                      case measure => simp [intOf]; omega
      · have hd2 : decide ((k : Int) < 120) = false := decide_eq_false (by omega)
        go_wp2
        go_ret
        exact ⟨rfl, HW.out⟩
    · have hd : decide ((k : Int) < (n : Int)) = false := decide_eq_false (by omega)
      go_wp2
      go_ret
      exact ⟨rfl, HW.out⟩
/-- The whole walk. -/
theorem ringHolds_walk (a0 a2 a3 : Int) (A : Option Addr) (n c : Nat) (L : List S47) (w : World) (hn : L.length = n) (hC : Kd.C k47 w A n L) (hnc : n ≤ c) (hok : ∀ a ∈ L, opsOk a.e) :
    Calls Try.prog 4 #[.int .i64 a0, .int .i64 a2, .int .i64 a3, .slice A n c] w fun e w' => e = .returned (.bool true) ∧ Below w.heap.size w w' := by
  by_cases h1 : 1 ≤ a0 ∧ a0 ≤ 64 ∧ isB a2 = true ∧ isB a3 = true
  · obtain ⟨k1, k2, k3, k4⟩ := h1
    have h3 : 0 ≤ a2 ∧ a2 ≤ 2147483647 := of_decide_eq_true k3
    obtain ⟨r1, rfl⟩ : ∃ k : Nat, a0 = k := ⟨a0.toNat, by omega⟩
    obtain ⟨fl, rfl⟩ : ∃ k : Nat, a2 = k := ⟨a2.toNat, by omega⟩
    exact ringHolds_in r1 fl a3 A n c L w (by omega) (by omega) (by omega) k4 hn hC hnc hok
  · exact ringHolds_no a0 a2 a3 _ w h1
end Go.Proofs.Ytcbejpmmlcdhnaa.PW
namespace Go.Proofs.Ytcbejpmmlcdhnaa.PW
open Go.ChangeShapes Go.WideShapes Go.ChangeAt Go.RowKit Go.Deep
open Go.Proofs.YtcbejpmmlcdhnaaW.PrintWords Go.Proofs.YtcbejpmmlcdhnaaW.PrintLast Go.Proofs.YtcbejpmmlcdhnaaW.PrintMore
set_option linter.unusedVariables false
set_option linter.unusedSimpArgs false

/-- No list in it is heavier than the form's own reach. -/
def Wt {H : Type} (t : TypeId) (d : DataW H) : Prop := ∀ n ∈ d.weights Try.prog t, n ≤ reachBytes
theorem mem_weightsAll {H : Type} {P : Program} {e : TypeId} {d : DataW H} {n : Nat} : ∀ {l : List (DataW H)}, d ∈ l → n ∈ d.weights P e → n ∈ DataW.weightsAll P e l
  | x :: r, hd, hn => by
    simp only [DataW.weightsAll, List.mem_append]
    rcases List.mem_cons.1 hd with rfl | hd
    · exact .inl hn
    · exact .inr (mem_weightsAll hd hn)
theorem c3 : Try.prog.cellsOf 3 = 1 := by kernel_rfl
theorem c9 : Try.prog.cellsOf 9 = 1 := by kernel_rfl
theorem c31 : Try.prog.cellsOf 31 = 1 := by kernel_rfl
theorem c55 : Try.prog.cellsOf 55 = 5 := by kernel_rfl
theorem c33 : Try.prog.cellsOf 33 = 6 := by kernel_rfl
theorem c47 : Try.prog.cellsOf 47 = 9 := by kernel_rfl
theorem bytes55 : Try.prog.bytesOf 55 = 56 := by kernel_rfl
instance : Inhabited S55 := ⟨z55⟩
instance : Inhabited S47 := ⟨z47⟩
section
variable {H : Type} {enc : TypeId × Value → H} {W : World}
theorem row_of {α : Type} [Inhabited α] {d : Kd α} {t e : TypeId} (ht : Try.prog.underlying t = some (.slice e)) (hc : Try.prog.cellsOf e = d.sz) (good : α → Prop)
    (hopen : ∀ (n : Nat) (cs : List Value) (x : DataW H × List MemPlace), DataW.trod enc Try.prog W 0 (fun _ => true) true n e cs = some x → Wt e x.1 → ∃ y, d.K W y cs ∧ good y)
    {n : Nat} {cs : List Value} {x : DataW H × List MemPlace} (h : DataW.trod enc Try.prog W 0 (fun _ => true) true n t cs = some x) (hw : Wt t x.1) :
    ∃ A c len, ∃ l : List α, cs = [.slice A len c] ∧ l.length = len ∧ len ≤ c ∧ Kd.C d W A len l ∧ (∀ y ∈ l, good y) ∧ len * Try.prog.bytesOf e ≤ reachBytes := by
  rcases open_slice ht h with ⟨rfl, rfl⟩ | ⟨a, len, cap, m, k, D, Pl, rfl, hb, hl, hm, hmm, rfl, hx⟩
  · exact ⟨none, 0, 0, [], rfl, rfl, Nat.le_refl _, ⟨rfl, by omega, fun h => absurd h (by omega)⟩, fun y hy => by simp at hy, by simp⟩
  · have hmm' : m = cap := by simpa using hmm
    have hel : ∀ i, i < len → Wt e (D i) := by
      intro i hi q hq
      refine hw q ?_
      simp only [DataW.weights, ht, List.mem_cons, List.mem_append]
      exact .inr (.inl (mem_weightsAll (List.mem_map.2 ⟨i, List.mem_range.2 hi, rfl⟩) hq))
    have each : ∀ i, i < len → ∃ y : α, ∃ cs', W.cells? 0 (a.add (i * d.sz)) d.sz = some cs' ∧ d.K W y cs' ∧ good y := by
      intro i hi
      obtain ⟨cs', h1, h2⟩ := hx i (by omega)
      rw [hc] at h1
      obtain ⟨y, h3, h4⟩ := hopen _ _ _ h2 (hel i hi)
      exact ⟨y, cs', h1, h3, h4⟩
    obtain ⟨g, hg⟩ := choose_lt each
    have hlen : ((List.range len).map g).length = len := by simp
    have hmax : maxLen = 9223372036854775807 := rfl
    refine ⟨some a, cap, len, (List.range len).map g, rfl, hlen, hl, ⟨hlen, by omega, fun _ => ⟨a, rfl, fun j p hj => ?_⟩⟩, fun y hy => ?_, ?_⟩
    · rw [List.getElem?_map] at hj
      obtain ⟨j', hj', rfl⟩ := Option.map_eq_some_iff.1 hj
      obtain ⟨hjl, he⟩ := List.getElem?_eq_some_iff.1 hj'
      rw [List.getElem_range] at he
      subst he
      rw [List.length_range] at hjl
      obtain ⟨cs', h1, h2, h3⟩ := hg j hjl
      obtain ⟨_, hlc, hcell⟩ := World.cells?_some h1
      refine ⟨cs', hlc, h2, fun i u hu => ?_⟩
      have hi : i < cs'.length := (List.getElem?_eq_some_iff.1 hu).1
      rw [← Go.Deep.add_add, hcell i (by omega)]
      exact hu
    · obtain ⟨r, hr, rfl⟩ := List.mem_map.1 hy
      obtain ⟨cs', h1, h2, h3⟩ := hg r (List.mem_range.1 hr)
      exact h3
    · have h0 := hw ((((List.range len).map D).length + ((List.range (m - len)).map fun j => D (len + j)).length) * Try.prog.bytesOf e) (by simp only [DataW.weights, ht, List.mem_cons]; exact .inl trivial)
      refine Nat.le_trans (Nat.mul_le_mul_right _ ?_) h0
      rw [List.length_map, List.length_range]
      omega
theorem open55 (n : Nat) (cs : List Value) (x : DataW H × List MemPlace) (h : DataW.trod enc Try.prog W 0 (fun _ => true) true n 55 cs = some x) : ∃ y : S55, k55.K W y cs := by
  obtain ⟨xs, m, _, rfl, hl, hxl, hf⟩ := DataW.trod_struct Try.underlying55 h
  rw [c55] at hl
  match cs, hl, xs, hxl with
  | [v0, v1, v2, v3, v4], _, [x0, x1, x2, x3, x4], _ =>
    have e0 : DataW.trod enc Try.prog W 0 (fun _ => true) true m 3 [v0] = some x0 := by simpa [c3] using hf 0 _ rfl
    have e1 : DataW.trod enc Try.prog W 0 (fun _ => true) true m 9 [v1] = some x1 := by simpa [c9] using hf 1 _ rfl
    have e2 : DataW.trod enc Try.prog W 0 (fun _ => true) true m 9 [v2] = some x2 := by simpa [c9] using hf 2 _ rfl
    have e3 : DataW.trod enc Try.prog W 0 (fun _ => true) true m 3 [v3] = some x3 := by simpa [c3] using hf 3 _ rfl
    have e4 : DataW.trod enc Try.prog W 0 (fun _ => true) true m 3 [v4] = some x4 := by simpa [c3] using hf 4 _ rfl
    obtain ⟨a0, h0, _⟩ := DataW.trod_int Try.underlying3 e0
    obtain ⟨a1, h1, _⟩ := DataW.trod_string Try.underlying9 e1
    obtain ⟨a2, h2, _⟩ := DataW.trod_string Try.underlying9 e2
    obtain ⟨a3, h3, _⟩ := DataW.trod_int Try.underlying3 e3
    obtain ⟨a4, h4, _⟩ := DataW.trod_int Try.underlying3 e4
    injection h0 with h0 _
    injection h1 with h1 _
    injection h2 with h2 _
    injection h3 with h3 _
    injection h4 with h4 _
    rw [h0, h1, h2, h3, h4]
    exact ⟨⟨a0, a1, a2, a3, a4⟩, k55_mk W _⟩
theorem Wt.agg {t : TypeId} {fs : Array Field} {parts : List (DataW H)} (h : Wt t (.agg parts)) (ht : Try.prog.underlying t = some (.struct fs)) {j : Nat} {f : Field} {d : DataW H} (hf : fs[j]? = some f) (hd : parts[j]? = some d) : Wt f.type d := by
  intro n hn
  refine h n ?_
  simp only [DataW.weights, ht]
  exact DataW.weights_mem_each (j := j) (by rw [List.getElem?_map, Array.getElem?_toList, hf]; rfl) hd n hn
theorem open33 (n : Nat) (cs : List Value) (x : DataW H × List MemPlace) (h : DataW.trod enc Try.prog W 0 (fun _ => true) true n 33 cs = some x) (hw : Wt 33 x.1) : ∃ y : S33, k33.K W y cs ∧ opsOk y := by
  obtain ⟨xs, m, _, rfl, hl, hxl, hf⟩ := DataW.trod_struct Try.underlying33 h
  rw [c33] at hl
  match cs, hl, xs, hxl with
  | [v0, v1, v2, v3, v4, v5], _, [x0, x1, x2, x3, x4, x5], _ =>
    have e0 : DataW.trod enc Try.prog W 0 (fun _ => true) true m 3 [v0] = some x0 := by simpa [c3] using hf 0 _ rfl
    have e1 : DataW.trod enc Try.prog W 0 (fun _ => true) true m 3 [v1] = some x1 := by simpa [c3] using hf 1 _ rfl
    have e2 : DataW.trod enc Try.prog W 0 (fun _ => true) true m 3 [v2] = some x2 := by simpa [c3] using hf 2 _ rfl
    have e3 : DataW.trod enc Try.prog W 0 (fun _ => true) true m 3 [v3] = some x3 := by simpa [c3] using hf 3 _ rfl
    have e4 : DataW.trod enc Try.prog W 0 (fun _ => true) true m 3 [v4] = some x4 := by simpa [c3] using hf 4 _ rfl
    have e5 : DataW.trod enc Try.prog W 0 (fun _ => true) true m 31 [v5] = some x5 := by simpa [c31] using hf 5 _ rfl
    have hw5 : Wt 31 x5.1 := Wt.agg (j := 5) hw Try.underlying33 rfl rfl
    obtain ⟨a0, h0, _⟩ := DataW.trod_int Try.underlying3 e0
    obtain ⟨a1, h1, _⟩ := DataW.trod_int Try.underlying3 e1
    obtain ⟨a2, h2, _⟩ := DataW.trod_int Try.underlying3 e2
    obtain ⟨a3, h3, _⟩ := DataW.trod_int Try.underlying3 e3
    obtain ⟨a4, h4, _⟩ := DataW.trod_int Try.underlying3 e4
    obtain ⟨A, c, len, l, h5, hll, hlc, hC, _, hb⟩ := row_of (d := k55) Try.underlying31 c55 (fun _ => True) (fun n cs x h _ => by obtain ⟨y, hy⟩ := open55 n cs x h; exact ⟨y, hy, trivial⟩) e5 hw5
    rw [bytes55] at hb
    injection h0 with h0 _
    injection h1 with h1 _
    injection h2 with h2 _
    injection h3 with h3 _
    injection h4 with h4 _
    injection h5 with h5 _
    rw [h0, h1, h2, h3, h4, h5, ← hll]
    refine ⟨⟨a0, a1, a2, a3, a4, l⟩, k33_mk W _ (by rw [hll]; exact hlc) (by rw [hll]; exact hC), ?_⟩
    show l.length ≤ 2513169434843
    have : reachBytes = 140737488351232 := rfl
    omega
theorem open47 (n : Nat) (cs : List Value) (x : DataW H × List MemPlace) (h : DataW.trod enc Try.prog W 0 (fun _ => true) true n 47 cs = some x) (hw : Wt 47 x.1) : ∃ y : S47, k47.K W y cs ∧ opsOk y.e := by
  obtain ⟨xs, m, _, rfl, hl, hxl, hf⟩ := DataW.trod_struct Try.underlying47 h
  rw [c47] at hl
  match cs, hl, xs, hxl with
  | [v0, v1, v2, v3, v4, v5, v6, v7, v8], _, [x0, x1, x2, x3], _ =>
    have e0 : DataW.trod enc Try.prog W 0 (fun _ => true) true m 3 [v0] = some x0 := by simpa [c3] using hf 0 _ rfl
    have e1 : DataW.trod enc Try.prog W 0 (fun _ => true) true m 3 [v1] = some x1 := by simpa [c3] using hf 1 _ rfl
    have e2 : DataW.trod enc Try.prog W 0 (fun _ => true) true m 3 [v2] = some x2 := by simpa [c3] using hf 2 _ rfl
    have e3 : DataW.trod enc Try.prog W 0 (fun _ => true) true m 33 [v3, v4, v5, v6, v7, v8] = some x3 := by simpa [c33] using hf 3 _ rfl
    have hw3 : Wt 33 x3.1 := Wt.agg (j := 3) hw Try.underlying47 rfl rfl
    obtain ⟨a0, h0, _⟩ := DataW.trod_int Try.underlying3 e0
    obtain ⟨a1, h1, _⟩ := DataW.trod_int Try.underlying3 e1
    obtain ⟨a2, h2, _⟩ := DataW.trod_int Try.underlying3 e2
    obtain ⟨y, hy, hoy⟩ := open33 _ _ _ e3 hw3
    injection h0 with h0 _
    injection h1 with h1 _
    injection h2 with h2 _
    rw [h0, h1, h2]
    exact ⟨⟨a0, a1, a2, y⟩, ⟨[.int .i64 a0], [.int .i64 a1, .int .i64 a2, v3, v4, v5, v6, v7, v8], rfl, rfl, ⟨[.int .i64 a1], [.int .i64 a2, v3, v4, v5, v6, v7, v8], rfl, rfl, ⟨[.int .i64 a2], [v3, v4, v5, v6, v7, v8], rfl, rfl, hy⟩⟩⟩, hoy⟩
/-- WHAT A SCRIPT READS AS. -/
theorem open_script {a : Option Addr} {len cap : Nat} {d : DataW H} {p : List MemPlace} (h0 : DataW.Trod enc Try.prog W 0 (fun _ => true) true 41 (.slice a len cap) d p) (hw : Wt 41 d) :
    ∃ L : List S47, L.length = len ∧ Kd.C k47 W a len L ∧ len ≤ cap ∧ ∀ y ∈ L, opsOk y.e := by
  obtain ⟨fuel, hf⟩ := h0
  obtain ⟨A, c, n, L, h1, h2, h3, h4, h5, _⟩ := row_of (d := k47) Try.underlying41 c47 (fun y => opsOk y.e) (fun n cs x h hw => open47 n cs x h hw) hf hw
  injection h1 with h1 _
  injection h1 with e1 e2 e3
  subst e1
  subst e2
  subst e3
  exact ⟨L, h2, h4, h3, h5⟩
end
end Go.Proofs.Ytcbejpmmlcdhnaa.PW
