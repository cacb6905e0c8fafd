/- WireKeeps: keep, the book's cells, lists apart, what is taken out of the stream. -/
import Derived.Test.YtnanaojjhmpilaaX1
import Derived.Test.YtnanaojjhmpilaaM1
import Derived.Test.YtnanaojjhmpilaaPWx3
import Derived.Test.YtnanaojjhmpilaaPWx9
namespace Go.Proofs.Ytnanaojjhmpilaa.PW
open Go.RowKit Go.Proofs.YtnanaojjhmpilaaW.PrintWords Go.Proofs.YtnanaojjhmpilaaW.PrintLast Go.Proofs.YtnanaojjhmpilaaW.PrintMore
set_option linter.unusedVariables false
set_option linter.unusedSimpArgs false

/-- The cells of a book of these lists and copies. -/
def cells3 : List Value → List Value → List Value
  | l :: ls, u :: ws => l :: u :: .slice none 0 0 :: cells3 ls ws
  | _, _ => []
theorem cells3_len : ∀ {ls ws : List Value}, ls.length = ws.length → (cells3 ls ws).length = ls.length * 3
  | [], [], _ => rfl
  | l :: ls, u :: ws, h => by
    simp only [cells3, List.length_cons]
    rw [cells3_len (by simpa using h)]
    omega
  | [], _ :: _, h => by simp at h
  | _ :: _, [], h => by simp at h
theorem cells3_append : ∀ {ls ws ls' ws' : List Value}, ls.length = ws.length → cells3 (ls ++ ls') (ws ++ ws') = cells3 ls ws ++ cells3 ls' ws'
  | [], [], _, _, _ => rfl
  | l :: ls, u :: ws, _, _, h => by
    simp only [cells3, List.cons_append]
    rw [cells3_append (by simpa using h)]
  | [], _ :: _, _, _, h => by simp at h
  | _ :: _, [], _, _, h => by simp at h
theorem cells3_get : ∀ {ls ws : List Value}, ls.length = ws.length → ∀ (j : Nat), (cells3 ls ws)[j * 3]? = ls[j]? ∧ (cells3 ls ws)[j * 3 + 1]? = ws[j]?
  | [], [], _, j => by simp [cells3]
  | l :: ls, u :: ws, h, 0 => ⟨rfl, rfl⟩
  | l :: ls, u :: ws, h, j + 1 => by
    have ih := cells3_get (ls := ls) (ws := ws) (by simpa using h) j
    rw [show (j + 1) * 3 = j * 3 + 1 + 1 + 1 by omega]
    exact ih
  | [], _ :: _, h, _ => by simp at h
  | _ :: _, [], h, _ => by simp at h
theorem blocks_cons {v : Value} {L : List Value} {q : Nat} : blocks (v :: L) q ↔ v.ownBlock = some q ∨ blocks L q := by
  constructor
  · rintro ⟨j, u, hj, hq⟩
    match j with
    | 0 => exact .inl (by rw [show v = u from Option.some.inj hj]; exact hq)
    | j + 1 => exact .inr ⟨j, u, hj, hq⟩
  · rintro (h | ⟨j, u, hj, hq⟩)
    · exact ⟨0, v, rfl, h⟩
    · exact ⟨j + 1, u, hj, hq⟩
theorem blocks_append {L M : List Value} {q : Nat} : blocks (L ++ M) q ↔ blocks L q ∨ blocks M q := by
  induction L with
  | nil => exact ⟨.inr, fun h => h.elim (fun ⟨j, u, hj, _⟩ => by simp at hj) (fun h => h)⟩
  | cons v L ih => rw [List.cons_append, blocks_cons, blocks_cons, ih, or_assoc]
theorem Dist_nil : Dist [] := fun i j u v hu => by simp at hu
theorem Dist_append {L M : List Value} (hL : Dist L) (hM : Dist M) (h : ∀ q, blocks L q → ¬ blocks M q) : Dist (L ++ M) := by
  intro i j u v hu hv hne b hb hb'
  by_cases hi : i < L.length
  · rw [List.getElem?_append_left hi] at hu
    by_cases hj : j < L.length
    · rw [List.getElem?_append_left hj] at hv
      exact hL i j u v hu hv hne b hb hb'
    · rw [List.getElem?_append_right (by omega)] at hv
      exact h b ⟨i, u, hu, hb⟩ ⟨_, v, hv, hb'⟩
  · rw [List.getElem?_append_right (by omega)] at hu
    by_cases hj : j < L.length
    · rw [List.getElem?_append_left hj] at hv
      exact h b ⟨j, v, hv, hb'⟩ ⟨_, u, hu, hb⟩
    · rw [List.getElem?_append_right (by omega)] at hv
      exact hM _ _ u v hu hv (by omega) b hb hb'
theorem Dist_one (v : Value) : Dist [v] := by
  intro i j u x hu hx hne
  have h1 := (List.getElem?_eq_some_iff.1 hu).1
  have h2 := (List.getElem?_eq_some_iff.1 hx).1
  simp at h1 h2
  omega
theorem Dist_cons {v : Value} {L : List Value} (hL : Dist L) (h : ∀ q, v.ownBlock = some q → ¬ blocks L q) : Dist (v :: L) :=
  Dist_append (L := [v]) (Dist_one v) hL (fun q hq => h q ((blocks_cons.1 hq).elim (fun h => h) (fun ⟨j, u, hj, _⟩ => by simp at hj)))
/-- One more list, ahead of the others: made between lo and hi. -/
theorem Dist_step {v : Value} {L : List Value} {lo hi : Nat} {Z : Nat → Prop} (h : Dist L ∧ ∀ q, blocks L q → hi ≤ q ∨ Z q) (hv : ∀ q, v.ownBlock = some q → lo ≤ q ∧ q < hi) (hZ : ∀ q, Z q → q < lo) (hle : lo ≤ hi) : Dist (v :: L) ∧ ∀ q, blocks (v :: L) q → lo ≤ q ∨ Z q :=
  ⟨Dist_cons h.1 (fun q hq hb => by have h1 := hv q hq; rcases h.2 q hb with h2 | h2; omega; have := hZ q h2; omega),
    fun q hq => (blocks_cons.1 hq).elim (fun hq => .inl (hv q hq).1) (fun hq => (h.2 q hq).imp (fun h => by omega) (fun h => h))⟩
theorem R8_lt {W : World} {base : Nat} {v : Value} {l : List Int} (h : R8 W base v l) : ∀ q, v.ownBlock = some q → base ≤ q ∧ q < W.heap.size := (R8_own h).lt
theorem R8_raw {W : World} {base : Nat} {v : Value} {l : List Int} (h : R8 W base v l) (hl : l.length ≤ 40000) : Raw8 W base v := ⟨_, _, hl, R8_own h⟩
theorem R8_keep {W W1 : World} {base : Nat} {v : Value} {l : List Int} (h : R8 W base v l) (hm : ∀ k, v.ownBlock = some k → W1.heap[k]? = W.heap[k]?) : R8 W1 base v l := own_R8 (own_step (R8_own h) hm)
/-- Three bodies taken out. -/
theorem SQ_three {W : World} {base : Nat} {ok : Nat → Prop} {v : Value} {x y z : List Int} (h : SQ (Kd.slice 5 (Kd.int .u8)) 22 W base ok v [x, y, z]) :
    ∃ ad c A0 c0 A1 c1 A2 c2, v = .slice (some ad) 3 c ∧ 3 ≤ c ∧ W.cell? ad = some (.slice A0 x.length c0) ∧ W.cell? (ad.add 1) = some (.slice A1 y.length c1) ∧ W.cell? ((ad.add 1).add 1) = some (.slice A2 z.length c2) ∧
      R8 W base (.slice A0 x.length c0) x ∧ R8 W base (.slice A1 y.length c1) y ∧ R8 W base (.slice A2 z.length c2) z ∧ Dist [.slice A0 x.length c0, .slice A1 y.length c1, .slice A2 z.length c2] ∧ ∀ q, blocks [.slice A0 x.length c0, .slice A1 y.length c1, .slice A2 z.length c2] q → ok q := by
  obtain ⟨A, c, rfl, hl⟩ := SQ_slice h
  have hl3 : 3 ≤ c := hl
  obtain ⟨o0, ad, cs, rfl, hcs, hM, hc, ho, hq⟩ := SQ_pop h
  obtain ⟨v0, rfl, hr0⟩ : ∃ v0, cs = [v0] ∧ Kd.R (Kd.int .u8) 5 W base o0 v0 x := hM
  obtain ⟨A0, c0, rfl, _⟩ := Kd.R_reads hr0
  have e0 := hc 0 _ rfl
  rw [Addr.add_zero'] at e0
  obtain ⟨o1, ad1, cs1, hA1, hcs1, hM1, hc1, ho1, hq1⟩ := SQ_pop hq
  rw [if_neg (by omega)] at hA1
  obtain rfl : ad.add (1 * 1) = ad1 := Option.some.inj hA1
  obtain ⟨v1, rfl, hr1⟩ : ∃ v1, cs1 = [v1] ∧ Kd.R (Kd.int .u8) 5 W base o1 v1 y := hM1
  obtain ⟨A1, c1, rfl, _⟩ := Kd.R_reads hr1
  have e1 := hc1 0 _ rfl
  rw [Addr.add_zero'] at e1
  obtain ⟨o2, ad2, cs2, hA2, hcs2, hM2, hc2, ho2, hq2⟩ := SQ_pop hq1
  rw [if_neg (by omega), if_neg (by omega)] at hA2
  obtain rfl : (ad.add (1 * 1)).add (1 * 1) = ad2 := Option.some.inj hA2
  obtain ⟨v2, rfl, hr2⟩ : ∃ v2, cs2 = [v2] ∧ Kd.R (Kd.int .u8) 5 W base o2 v2 z := hM2
  obtain ⟨A2, c2, rfl, _⟩ := Kd.R_reads hr2
  have e2 := hc2 0 _ rfl
  rw [Addr.add_zero'] at e2
  have k0 : ∀ q, (Value.slice A0 x.length c0).ownBlock = some q → o0 q := hr0.1
  have k1 : ∀ q, (Value.slice A1 y.length c1).ownBlock = some q → o1 q := hr1.1
  have k2 : ∀ q, (Value.slice A2 z.length c2).ownBlock = some q → o2 q := hr2.1
  refine ⟨ad, c, A0, c0, A1, c1, A2, c2, rfl, hl3, e0, e1, e2, Kd.R_mono hr0 (fun _ _ => trivial), Kd.R_mono hr1 (fun _ _ => trivial), Kd.R_mono hr2 (fun _ _ => trivial), ?_, ?_⟩
  · refine Dist_cons (Dist_cons (Dist_one _) (fun q hq hb => ?_)) (fun q hq hb => ?_)
    · rcases blocks_cons.1 hb with hb | ⟨j, u, hj, _⟩
      · exact (ho2 q (k2 q hb)).1.2 (k1 q hq)
      · simp at hj
    · rcases blocks_cons.1 hb with hb | hb
      · exact (ho1 q (k1 q hb)).1.2 (k0 q hq)
      · rcases blocks_cons.1 hb with hb | ⟨j, u, hj, _⟩
        · exact (ho2 q (k2 q hb)).1.1.2 (k0 q hq)
        · simp at hj
  · intro q hq
    rcases blocks_cons.1 hq with hb | hq
    · exact (ho q (k0 q hb)).1
    · rcases blocks_cons.1 hq with hb | hq
      · exact (ho1 q (k1 q hb)).1.1
      · rcases blocks_cons.1 hq with hb | ⟨j, u, hj, _⟩
        · exact (ho2 q (k2 q hb)).1.1.1
        · simp at hj
/-- What the stream says of the three frames. -/
theorem scan_three {x y : List Int} (hx : bytesOk x = true) (hy : bytesOk y = true) (h1 : x.length ≤ 20000) (h2 : y.length ≤ 20000) : scan (frameOf x ++ frameOf y ++ frameOf x) = ([x, y, x], 0, []) := by
  rw [List.append_assoc, scan_frame x _ hx (by omega), scan_frame y _ hy (by omega)]
  have := scan_frame x [] hx (by omega)
  rw [List.append_nil] at this
  rw [this, scan_nil]
set_option maxHeartbeats 4000000 in
set_option maxRecDepth 100000 in
theorem keep_C (A : Option Addr) (n c : Nat) (l : List Int) (w : World) (hn : l.length = n) (hr : C8 w A n l) (hc : n ≤ c) (hm : n ≤ 100000000000) :
    Calls Try.prog 48 #[.slice A n c] w fun e w' => ∃ B cb, e = .returned (.agg #[.slice A n c, .slice B n cb, .slice none 0 0]) ∧ R8 w' w.heap.size (.slice B n cb) l ∧ Below w.heap.size w w' := by
  have HN := Aside0.mk hn
  have HR := Aside0.mk hr
  clear hr hn
  go_enter Try.func48, Try.ntmps48
  go_wp2_with (with_reducible refine stop_append rfl ?_)
  refine app8 (v := .slice none 0 0) w w.heap.size rfl _ _ rfl rfl rfl (Kd.R_nil _ _ _ _ _) (Kd.C_alloc HR.out _) (below_alloc (Below.refl w.heap.size w) _) (by simp) (by simp; omega) ?_
  intro v1 w1 ho hb hg hat
  have hb1 : w1.heap[w.heap.size]? = some (.cells #[.slice none 0 0, .slice none 0 0, .slice none 0 0] 74 (0, 0)) := (hg.block _ (by simp) (by simp [Value.ownBlock])).trans (heap_alloc_new w _)
  obtain ⟨B, cb, rfl, hlb, _⟩ := Kd.R_reads ho
  have ho' : R8 w1 w.heap.size (.slice B n cb) l := by have h2 := ho; simp only [List.nil_append, HN.out] at h2; exact h2
  have hne : ∀ q, (Value.slice B n cb).ownBlock = some q → q ≠ w.heap.size := by
    intro q hq
    have hat' : (Value.slice B n cb).ownBlock = (Value.slice none 0 0).ownBlock ∨ ∃ b, (Value.slice B n cb).ownBlock = some b ∧ (w.alloc (.cells #[.slice none 0 0, .slice none 0 0, .slice none 0 0] 74)).heap.size ≤ b := by
      have h3 := hat
      simp only [List.nil_append, HN.out] at h3
      exact h3
    rcases hat' with h | ⟨b, h, hb⟩
    · rw [h] at hq
      simp [Value.ownBlock] at hq
    · rw [h] at hq
      cases hq
      simp at hb
      omega
  have HNE := Aside0.mk hne
  simp only [List.nil_append, HN.out]
  clear ho hg hat hlb hne
  obtain ⟨gb, hgb⟩ : ∃ gb, gb = w.heap.size := ⟨_, rfl⟩
  have HGB := Aside0.mk hgb
  have HB := Aside0.mk hb
  have HO := Aside0.mk ho'
  have HB1 := Aside0.mk hb1
  rw [← hgb] at hb1
  have c0 := blk_cell hb1 0
  have c1 := blk_cell hb1 1
  have c2 := blk_cell hb1 2
  have f0 := blk_frozen hb1 0
  have f1 := blk_frozen hb1 1
  have f2 := blk_frozen hb1 2
  rw [← hgb]
  clear hgb hb ho' hb1
  go_wp2
  have hb4 : (((w1.setCell ⟨gb, 0, none⟩ (.slice A n c)).setCell ⟨gb, 1, none⟩ (.slice B n cb)).setCell ⟨gb, 2, none⟩ (.slice none 0 0)).heap[gb]? = some (.cells #[.slice A n c, .slice B n cb, .slice none 0 0] 74 (0, 0)) := by
    refine blk_put (cs := #[.slice A n c, .slice B n cb, .slice none 0 0]) ?_ 2 _ rfl
    refine blk_put (cs := #[.slice A n c, .slice none 0 0, .slice none 0 0]) ?_ 1 _ rfl
    refine blk_put (cs := #[.slice none 0 0, .slice none 0 0, .slice none 0 0]) ?_ 0 _ rfl
    rw [HGB.out]
    exact HB1.out
  refine bodyPost_ret (results_cell_row rfl _ _ gb 74 #[.slice A n c, .slice B n cb, .slice none 0 0] (0, 0) _ rfl hb4 Try.underlying74 rfl (by kernel_rfl)) rfl ?_
  have hgb := HGB.out
  refine ⟨B, cb, rfl, R8_keep HO.out (fun k hk => ?_), ((HB.out.setCell (by show w.heap.size ≤ gb; omega) _).setCell (by show w.heap.size ≤ gb; omega) _).setCell (by show w.heap.size ≤ gb; omega) _⟩
  have hk2 : k ≠ gb := by rw [hgb]; exact HNE.out k hk
  rw [Below.heap_setCell _ _ _ _ hk2, Below.heap_setCell _ _ _ _ hk2, Below.heap_setCell _ _ _ _ hk2]
end Go.Proofs.Ytnanaojjhmpilaa.PW
namespace Go.Proofs.Ytnanaojjhmpilaa.PW
open Go.RowKit Go.Proofs.YtnanaojjhmpilaaW.PrintWords Go.Proofs.YtnanaojjhmpilaaW.PrintLast Go.Proofs.YtnanaojjhmpilaaW.PrintMore
set_option linter.unusedVariables false
set_option linter.unusedSimpArgs false

theorem frame_uno (W : World) (A : Option Addr) (c n : Nat) (x X : List Int) (hr : C8 W A n x) (hn : x.length = n) (hc : n ≤ c) (hm : n ≤ 20000) (hX : frameOf x = X) : Calls Try.prog 31 #[.slice (some ⟨W.heap.size, 0, none⟩) 1 1] (W.alloc (.cells #[.slice A n c] 22)) fun e w' =>
    ∃ A' n' c', e = .returned (.tuple #[.slice A' n' c', .int .i64 0]) ∧ X.length = n' ∧ n' ≤ c' ∧ R8 w' W.heap.size (.slice A' n' c') X ∧ Below W.heap.size W w' := by
  subst hn
  subst hX
  have hrows := C_rows W [.slice A x.length c] [x] rfl (by simp) (by
    intro j p hj
    match j with
    | 0 => simp at hj; subst hj; exact ⟨_, c, rfl, hc, hr⟩
    | j + 1 => simp at hj)
  refine (frame_N (some ⟨W.heap.size, 0, none⟩) 1 1 [x] (frameOf x) _ rfl hrows (by decide) (by simpa [tot] using hm) (by simp)).mono ?_
  rintro e w' ⟨v, rfl, h1, h2⟩
  obtain ⟨A', c', rfl, hc', _⟩ := Kd.R_reads h1
  exact ⟨A', _, c', rfl, rfl, hc', Kd.R_lower h1 (by simp), below_step (below_alloc (Below.refl _ _) _) h2⟩
theorem number_R (v : Int) (w : World) : Calls Try.prog 18 #[.int .i64 v] w fun e w' => ∃ A n c, e = .returned (.tuple #[.slice A n c, .int .i64 (numEnc v).2]) ∧ (numEnc v).1.length = n ∧ n ≤ c ∧ R8 w' w.heap.size (.slice A n c) (numEnc v).1 ∧ Below w.heap.size w w' := by
  refine (wire_Number.calls 20 v (numEnc v).1 (numEnc v).2 w (wire_Number.eq 20 (Nat.le_refl _) v)).mono ?_
  rintro e w' ⟨u, rfl, h1, h2⟩
  obtain ⟨A', c', rfl, hc', _⟩ := Kd.R_reads h1
  exact ⟨A', _, c', rfl, rfl, hc', h1, h2⟩
theorem text_R (s : ByteArray) (w : World) : Calls Try.prog 27 #[.string s] w fun e w' => ∃ A n c, e = .returned (.tuple #[.slice A n c, .int .i64 (textEnc s).2]) ∧ (textEnc s).1.length = n ∧ n ≤ c ∧ R8 w' w.heap.size (.slice A n c) (textEnc s).1 ∧ Below w.heap.size w w' := by
  refine (wire_Text.calls 20 s (textEnc s).1 (textEnc s).2 w (wire_Text.eq 20 (Nat.le_refl _) s)).mono ?_
  rintro e w' ⟨u, rfl, h1, h2⟩
  obtain ⟨A', c', rfl, hc', _⟩ := Kd.R_reads h1
  exact ⟨A', _, c', rfl, rfl, hc', h1, h2⟩
theorem unframe_R (A : Option Addr) (c n : Nat) (x X : List Int) (w : World) (hX : frameOf x = X) (hn : X.length = n) (hr : C8 w A n X) (hc : n ≤ c) (hx : bytesOk x = true) (hm : x.length ≤ 20000) : Calls Try.prog 37 #[.slice A n c] w fun e w' => ∃ A' c', e = .returned (.tuple #[.slice A' x.length c', .int .i64 0]) ∧ x.length ≤ c' ∧ R8 w' w.heap.size (.slice A' x.length c') x ∧ Below w.heap.size w w' := by
  subst hX
  refine (wire_Unframe.callsN A c n (frameOf x) x 0 w hn hr hc ?_).mono ?_
  · unfold wire_Unframe.f
    rw [if_pos ⟨frameOf_ok x hx, by rw [frameOf_length]; omega⟩, unframe_frame x hx (by omega)]
  rintro e w' ⟨u, rfl, h1, h2⟩
  obtain ⟨A', c', rfl, hc', _⟩ := Kd.R_reads h1
  exact ⟨A', c', rfl, hc', h1, h2⟩
theorem numEnc_len (v : Int) : (numEnc v).1.length ≤ 40000 := by
  unfold numEnc
  split
  · simp
  · have := numBytes_len 4 v
    simp only
    omega
theorem textEnc_len (s : ByteArray) (h : s.size ≤ 20000) : (textEnc s).1.length ≤ 40000 := by
  unfold textEnc
  split
  · simp
  · have := numBytes_len 4 (s.size : Int)
    have hb : (bytesOf s).length = s.size := by simp [bytesOf]
    simp only [List.length_append, hb]
    omega
/-- The book: its row, and what stands in it. -/
def Book8 (W : World) (base : Nat) (bv : Value) (N : Nat) (C : Nat → List Int) (ls ws X : List Value) : Prop :=
  W.ownsRow base 74 3 bv N X ∧ ls.length = N ∧ ws.length = N ∧ (∀ j, X[j * 3]? = ls[j]? ∧ X[j * 3 + 1]? = ws[j]?) ∧ (∀ j v, ls[j]? = some v → R8 W base v (C j)) ∧ (∀ j v, ws[j]? = some v → R8 W base v (C j)) ∧ Dist ls ∧ ∀ q, blocks ls q → ¬ blocks ws q
section
variable {W W' : World} {base N : Nat} {bv bv' : Value} {C : Nat → List Int} {ls ws X nl nw : List Value} {S : Nat → Prop}
theorem Book8.nil (W : World) (base : Nat) (C : Nat → List Int) : Book8 W base (.slice none 0 0) 0 C [] [] [] :=
  ⟨⟨rfl, .inl ⟨rfl, rfl⟩⟩, rfl, rfl, fun j => by simp, fun j v h => by simp at h, fun j v h => by simp at h, Dist_nil, fun q ⟨j, u, hj, _⟩ => by simp at hj⟩
theorem Book8.lt (h : Book8 W base bv N C ls ws X) : ∀ q, blocks ls q ∨ blocks ws q ∨ bv.ownBlock = some q → base ≤ q ∧ q < W.heap.size := by
  obtain ⟨h1, h2, h3, h4, h5, h6, h7, h8⟩ := h
  rintro q (⟨j, u, hj, hq⟩ | ⟨j, u, hj, hq⟩ | hq)
  · exact R8_lt (h5 j u hj) q hq
  · exact R8_lt (h6 j u hj) q hq
  · exact h1.lt q hq
theorem Book8.frm (h : Book8 W base bv N C ls ws X) (hf : Frm W W' S) (hS : ∀ q, S q → ¬ blocks ls q ∧ ¬ blocks ws q ∧ bv.ownBlock ≠ some q) : Book8 W' base bv N C ls ws X := by
  have hlt := h.lt
  obtain ⟨h1, h2, h3, h4, h5, h6, h7, h8⟩ := h
  exact ⟨own_step h1 (fun q hq => hf.block q (hlt q (.inr (.inr hq))).2 (fun hs => (hS q hs).2.2 hq)), h2, h3, h4,
    fun j v hj => R8_keep (h5 j v hj) (fun q hq => hf.block q (hlt q (.inl ⟨j, v, hj, hq⟩)).2 (fun hs => (hS q hs).1 ⟨j, v, hj, hq⟩)),
    fun j v hj => R8_keep (h6 j v hj) (fun q hq => hf.block q (hlt q (.inr (.inl ⟨j, v, hj, hq⟩))).2 (fun hs => (hS q hs).2.1 ⟨j, v, hj, hq⟩)), h7, h8⟩
theorem get_app {L M : List Value} {j : Nat} {v : Value} (h : (L ++ M)[j]? = some v) : (L[j]? = some v) ∨ ∃ i, j = L.length + i ∧ M[i]? = some v := by
  by_cases hj : j < L.length
  · rw [List.getElem?_append_left hj] at h
    exact .inl h
  · rw [List.getElem?_append_right (by omega)] at h
    exact .inr ⟨j - L.length, by omega, h⟩
/-- Nine more entries. -/
theorem Book8.more (h : Book8 W base bv N C ls ws X) (ho : W'.ownsRow base 74 3 bv' (N + 9) (X ++ cells3 nl nw)) (hg : W.grownBy W' bv.ownBlock) (hn : nl.length = 9) (hw : nw.length = 9)
    (hl : ∀ j v, nl[j]? = some v → R8 W base v (C (N + j))) (hu : ∀ j v, nw[j]? = some v → R8 W base v (C (N + j))) (hd : Dist nl) (h1 : ∀ q, blocks nl q → ¬ blocks ls q ∧ ¬ blocks ws q ∧ ¬ blocks nw q) (h2 : ∀ q, blocks nw q → ¬ blocks ls q) :
    Book8 W' base bv' (N + 9) C (ls ++ nl) (ws ++ nw) (X ++ cells3 nl nw) := by
  obtain ⟨k1, k2, k3, k4, k5, k6, k7, k8⟩ := h
  have hX : X.length = N * 3 := k1.1
  have keep : ∀ {v : Value} {l : List Int}, R8 W base v l → R8 W' base v l := fun hr => R8_keep hr (fun q hq => hg.block q (R8_lt hr q hq).2 (fun e => absurd (typed_ne (own_type (R8_own hr) q hq) (own_type k1 q e.symm)) (by decide)))
  refine ⟨ho, by rw [List.length_append, k2, hn], by rw [List.length_append, k3, hw], fun j => ?_, fun j v hj => ?_, fun j v hj => ?_, Dist_append k7 hd (fun q hq hq2 => (h1 q hq2).1 hq), fun q hq hq2 => ?_⟩
  · have h3 := cells3_get (ls := nl) (ws := nw) (by rw [hn, hw])
    by_cases hj : j < N
    · rw [List.getElem?_append_left (by omega), List.getElem?_append_left (by omega), List.getElem?_append_left (by omega), List.getElem?_append_left (by omega)]
      exact k4 j
    · rw [List.getElem?_append_right (by omega), List.getElem?_append_right (by omega), List.getElem?_append_right (by omega), List.getElem?_append_right (by omega), hX, k2, k3]
      have := h3 (j - N)
      rw [show j * 3 - N * 3 = (j - N) * 3 by omega, show j * 3 + 1 - N * 3 = (j - N) * 3 + 1 by omega]
      exact this
  · rcases get_app hj with hj | ⟨i, rfl, hi⟩
    · exact keep (k5 j v hj)
    · rw [k2]; exact keep (hl i v hi)
  · rcases get_app hj with hj | ⟨i, rfl, hi⟩
    · exact keep (k6 j v hj)
    · rw [k3]; exact keep (hu i v hi)
  · rcases blocks_append.1 hq with hq | hq <;> rcases blocks_append.1 hq2 with hq2 | hq2
    · exact k8 q hq hq2
    · exact h2 q hq2 hq
    · exact (h1 q hq).2.1 hq2
    · exact (h1 q hq).2.2 hq2
end
end Go.Proofs.Ytnanaojjhmpilaa.PW
namespace Go.Proofs.Ytnanaojjhmpilaa.PW
open Go.RowKit Go.Proofs.YtnanaojjhmpilaaW.PrintWords Go.Proofs.YtnanaojjhmpilaaW.PrintLast Go.Proofs.YtnanaojjhmpilaaW.PrintMore
set_option linter.unusedVariables false
set_option linter.unusedSimpArgs false

theorem R8_C {W : World} {base : Nat} {A : Option Addr} {n c : Nat} {l : List Int} (h : R8 W base (.slice A n c) l) : C8 W A n l := by
  have h2 := Kd.R_reads' h
  have hn := h2.1
  subst hn
  exact h2.2.2
theorem R8_form {W : World} {base : Nat} {v : Value} {l : List Int} (h : R8 W base v l) : ∃ A n c, v = .slice A n c ∧ l.length = n ∧ n ≤ c := by
  obtain ⟨A, c, e, h1, h2⟩ := Kd.R_reads h
  exact ⟨A, _, c, e, rfl, h1⟩
/-- Lists of bytes of one's own, each alone: made from lo on. -/
def Own8 (W : World) (lo : Nat) (vs : List Value) (ls : List (List Int)) : Prop := vs.length = ls.length ∧ (∀ (j : Nat) (v : Value) (l : List Int), vs[j]? = some v → ls[j]? = some l → R8 W lo v l) ∧ Dist vs
theorem not_blocks_nil (q : Nat) : ¬ blocks [] q := fun ⟨j, u, hj, _⟩ => by simp at hj
theorem blocks_one {v : Value} {q : Nat} : blocks [v] q ↔ v.ownBlock = some q := ⟨fun h => (blocks_cons.1 h).elim (fun h => h) (fun h => absurd h (not_blocks_nil q)), fun h => blocks_cons.2 (.inl h)⟩
section
variable {W W' : World} {lo lo' : Nat} {v : Value} {l : List Int} {vs us : List Value} {ls ms : List (List Int)} {S : Nat → Prop}
theorem Own8.lt (h : Own8 W lo vs ls) : ∀ q, blocks vs q → lo ≤ q ∧ q < W.heap.size := by
  rintro q ⟨j, v, hj, hq⟩
  have hjl : j < ls.length := by rw [← h.1]; exact (List.getElem?_eq_some_iff.1 hj).1
  exact R8_lt (h.2.1 j v _ hj (List.getElem?_eq_getElem hjl)) q hq
theorem Own8.keep (h : Own8 W lo vs ls) (hm : ∀ q, blocks vs q → W'.heap[q]? = W.heap[q]?) : Own8 W' lo vs ls := ⟨h.1, fun j v l hj hl => R8_keep (h.2.1 j v l hj hl) (fun q hq => hm q ⟨j, v, hj, hq⟩), h.2.2⟩
theorem Own8.below (h : Own8 W lo vs ls) (hb : Below W.heap.size W W') : Own8 W' lo vs ls := h.keep (fun q hq => hb.block q (h.lt q hq).2)
theorem Own8.frm (h : Own8 W lo vs ls) (hf : Frm W W' S) (hS : ∀ q, S q → ¬ blocks vs q) : Own8 W' lo vs ls := h.keep (fun q hq => hf.block q (h.lt q hq).2 (fun hs => hS q hs hq))
theorem Own8.lower (h : Own8 W lo vs ls) (hlo : lo' ≤ lo) : Own8 W lo' vs ls := ⟨h.1, fun j v l hj hl => Kd.R_lower (h.2.1 j v l hj hl) hlo, h.2.2⟩
theorem Own8.one (h : R8 W lo v l) : Own8 W lo [v] [l] := by
  refine ⟨rfl, fun j u m hj hm => ?_, Dist_one v⟩
  match j with
  | 0 => cases hj; cases hm; exact h
  | j + 1 => simp at hj
theorem Own8.both (h : Own8 W lo vs ls) (k : Own8 W lo us ms) (hd : ∀ q, blocks vs q → ¬ blocks us q) : Own8 W lo (vs ++ us) (ls ++ ms) := by
  refine ⟨by rw [List.length_append, List.length_append, h.1, k.1], fun j v l hj hl => ?_, Dist_append h.2.2 k.2.2 hd⟩
  by_cases hlt : j < vs.length
  · rw [List.getElem?_append_left hlt] at hj
    rw [List.getElem?_append_left (by rw [← h.1]; exact hlt)] at hl
    exact h.2.1 j v l hj hl
  · rw [List.getElem?_append_right (by omega)] at hj
    rw [List.getElem?_append_right (by rw [← h.1]; omega), ← h.1] at hl
    exact k.2.1 _ v l hj hl
theorem Own8.push (h : Own8 W lo vs ls) (hlo : lo ≤ W.heap.size) (hb : Below W.heap.size W W') (hv : R8 W' W.heap.size v l) : Own8 W' lo (vs ++ [v]) (ls ++ [l]) :=
  (h.below hb).both ((Own8.one hv).lower hlo) (fun q hq hq2 => by
    have h1 := (h.lt q hq).2
    have h2 := (R8_lt hv q (blocks_one.1 hq2)).1
    omega)
theorem Own8.get (h : Own8 W lo vs ls) (j : Nat) {v : Value} {l : List Int} (hv : vs[j]? = some v) (hl : ls[j]? = some l) : R8 W lo v l := h.2.1 j v l hv hl
theorem Own8.three {a b c : Value} {x y z : List Int} (ha : R8 W lo a x) (hb : R8 W lo b y) (hc : R8 W lo c z) (hd : Dist [a, b, c]) : Own8 W lo [a, b, c] [x, y, z] := by
  refine ⟨rfl, fun j u m hj hm => ?_, hd⟩
  match j with
  | 0 => cases hj; cases hm; exact ha
  | 1 => cases hj; cases hm; exact hb
  | 2 => cases hj; cases hm; exact hc
  | j + 3 => simp at hj
end
theorem addj (g j i : Nat) : (⟨g, j, none⟩ : Addr).add i = ⟨g, j + i, none⟩ := by unfold Addr.add; split <;> simp_all
theorem SQ_addr {α : Type} {d : Kd α} {e : Nat} {W : World} {base : Nat} {ok : Nat → Prop} {A : Option Addr} {n c : Nat} {x : α} {xs : List α} (h : SQ d e W base ok (.slice A n c) (x :: xs)) : ∃ g j, A = some ⟨g, j, none⟩ := by
  obtain ⟨f, i0, h⟩ := h
  have hn := (Kd.Q_reads' h).1
  rw [List.length_zipIdx, List.length_cons] at hn
  obtain ⟨h0, inner, ho, hr⟩ := h
  rw [List.length_zipIdx, List.length_cons, ← hn] at ho
  rcases ho.2 with ⟨h1, _⟩ | ⟨g, off, cap, cur, e1, _⟩
  · omega
  · cases e1
    exact ⟨g, _, rfl⟩
theorem info74 : (Try.prog.info? 74).map (fun i => (i.zero, i.size, i.bytes)) = some (some (.agg #[.slice none 0 0, .slice none 0 0, .slice none 0 0]), 3, 72) := by kernel_rfl
section
variable {P : Program} {ops : Array Oper} {o : Oper} {a : Act} {Q : Exit → Act → World → Prop} {Kc : Act → World → Prop}
/-- append(book, nine structs in a new block ...) -/
theorem book_append_step {W : World} (base : Nat) (hw : Region.wanted o (yielded ops a.tmps) = true) (s x : Operand)
    (ho : o.op = .call { callee := .builtin .append, args := #[s, x], argTypes := #[72, 72] })
    (v : Value) (n : Nat) (X ys : List Value) (hs : a.eval s = v) (hx : a.eval x = .slice (some ⟨W.heap.size, 0, none⟩) 9 9) (hys : ys.length = 27) (h1 : ∀ u ∈ ys, u.oneCell' = true)
    (HO : W.ownsRow base 74 3 v n X) (hbase : base ≤ W.heap.size) (hl : n ≤ 4000)
    (h : ∀ v1 w1, w1.ownsRow base 74 3 v1 (n + 9) (X ++ ys) → W.grownBy w1 v.ownBlock → (v1.ownBlock = v.ownBlock ∨ ∃ b, v1.ownBlock = some b ∧ W.heap.size ≤ b) → Kc (a.put o.dst v1) w1) :
    if Region.wanted o (yielded ops a.tmps) = true then Oper.wp Try.prog o a (W.alloc (.cells ys.toArray 74)) Kc Q else Kc (a.put o.dst undef) (W.alloc (.cells ys.toArray 74)) := by
  obtain ⟨i0, hi, hzz⟩ := Option.map_eq_some_iff.1 info74
  simp only [Prod.mk.injEq] at hzz
  obtain ⟨hz0, hz1, hz2⟩ := hzz
  obtain ⟨v1, w1, hr, hown, hg, _, hat⟩ := run_append_own_at (P := Try.prog) (W.alloc (.cells ys.toArray 74)) base 72 o.type 74 i0 _ 3 72 Try.underlying72 hi hz0 hz1 hz2 rfl (by decide) v n X (HO.alloc _) ⟨W.heap.size, 0, none⟩ 9 9 ys (by rw [hys])
    (by simpa using World.news_of_block (cs := ys.toArray) (t := 74) (fr := (0, 0)) (heap_alloc_new W (.cells ys.toArray 74))) h1 (by simp only [maxLen]; omega) (by omega) (by simp; omega)
  rw [if_pos hw]
  unfold Oper.wp execOp
  simp only [ho, resolve, invoke, builtin, Sem.run_bind, Sem.run_pure, Result.andThen_ok, List.map_toArray, List.map_cons, List.map_nil, hs, hx, hr]
  refine h v1 w1 hown (World.grownBy.trans (World.grownBy_alloc W _ _) hg) ?_
  rcases hat with hat | hat
  · exact .inl hat
  · exact .inr ⟨_, hat, by simp⟩
end
end Go.Proofs.Ytnanaojjhmpilaa.PW
namespace Go.Proofs.Ytnanaojjhmpilaa.PW
open Go.RowKit Go.Proofs.YtnanaojjhmpilaaW.PrintWords Go.Proofs.YtnanaojjhmpilaaW.PrintLast Go.Proofs.YtnanaojjhmpilaaW.PrintMore
set_option linter.unusedVariables false
set_option linter.unusedSimpArgs false

/-- What stands in entry j. -/
def keepC (a b c x d o : List Int) (j : Nat) : List Int := ([a, b, c, x, d, d, d, o, d] : List (List Int)).getD (j % 9) []
section
variable {w wz w13 u w29 : World} {u11 v29 : Value} {N r : Nat} {ls us X six lq NW : List Value} {okS okS2 okr : Nat → Prop} {b s6 s10 s12 : Nat} {a bb c x d o : List Int} {W : World} {lo : Nat} {vs : List Value}
theorem Own8.keepC (h : Own8 W lo vs [a, bb, c, x, d, d, d, o, d]) (hN : N = 9 * r) (j : Nat) (v : Value) (hj : vs[j]? = some v) : R8 W lo v (keepC a bb c x d o (N + j)) := by
  have hlt : j < 9 := by
    have h1 := (List.getElem?_eq_some_iff.1 hj).1
    rw [h.1] at h1
    exact h1
  have hl : ([a, bb, c, x, d, d, d, o, d] : List (List Int))[j]? = some (PW.keepC a bb c x d o (N + j)) := by
    unfold PW.keepC
    rw [hN, show (9 * r + j) % 9 = j by omega, List.getD_eq_getElem?_getD]
    have h9 : j < ([a, bb, c, x, d, d, d, o, d] : List (List Int)).length := hlt
    rw [List.getElem?_eq_getElem h9]
    rfl
  exact h.2.1 j v _ hj hl
theorem keeps_book (HBK : Book8 wz w.heap.size u11 N (keepC a bb c x d o) ls us X)
    (HOK : ∀ k, okS k → (w.heap.size ≤ k ∧ k < wz.heap.size) ∧ ¬ blocks ls k ∧ ¬ blocks us k ∧ u11.ownBlock ≠ some k)
    (HF13 : Frm wz w13 (fun q => okS q ∨ wz.heap.size ≤ q)) (HU : Below w13.heap.size w13 u) : Book8 u w.heap.size u11 N (keepC a bb c x d o) ls us X := by
  refine HBK.frm (HF13.step HU) (fun q hq => ?_)
  rcases hq with hq | hq
  · exact (HOK q hq).2
  · exact ⟨fun h => by have := (HBK.lt q (.inl h)).2; omega, fun h => by have := (HBK.lt q (.inr (.inl h))).2; omega, fun h => by have := (HBK.lt q (.inr (.inr h))).2; omega⟩
theorem keeps_gq {g : Nat} {w9 : World} {w10 w12 : Nat} (HBK : Book8 wz w.heap.size u11 N (keepC a bb c x d o) ls us X)
    (HOK : ∀ k, okS k → (w.heap.size ≤ k ∧ k < wz.heap.size) ∧ ¬ blocks ls k ∧ ¬ blocks us k ∧ u11.ownBlock ≠ some k)
    (h9 : w9.heap.size ≤ w10 ∧ wz.heap.size ≤ w9.heap.size) (h12 : w10 ≤ w12) (h : (okS g ∨ w10 ≤ g) ∨ w12 ≤ g) : u11.ownBlock ≠ some g := by
  intro e
  have h1 := (HBK.lt g (.inr (.inr e))).2
  rcases h with (h | h) | h
  · exact (HOK g h).2.2.2 e
  · omega
  · omega
theorem keeps_round (hN : N = 9 * r) (HBK : Book8 wz w.heap.size u11 N (keepC a bb c x d o) ls us X)
    (HOK : ∀ k, okS k → (w.heap.size ≤ k ∧ k < wz.heap.size) ∧ ¬ blocks ls k ∧ ¬ blocks us k ∧ u11.ownBlock ≠ some k)
    (h6 : ∀ q, blocks six q → q < s6) (hs6 : s6 ≤ s10) (hs12 : s10 ≤ s12) (hs0 : wz.heap.size ≤ s10)
    (HV : Own8 w13 wz.heap.size six [a, bb, c, x, d, d]) (HVQ : Own8 w13 w.heap.size lq [d, o, d]) (hlq : ∀ q, blocks lq q → okr q)
    (HOK1 : ∀ k, okS2 k → (okS k ∨ s10 ≤ k) ∧ ¬ okr k) (HOK2 : ∀ k, okr k → (okS k ∨ s10 ≤ k) ∨ s12 ≤ k)
    (HF13 : Frm wz w13 (fun q => okS q ∨ wz.heap.size ≤ q)) (HW13 : Below w.heap.size w w13) (HBW : Below w.heap.size w wz)
    (HS13 : StrmAt w13 w.heap.size (fun k => okS2 k ∧ w.heap.size ≤ k ∧ k < w13.heap.size) b [] [] [])
    (HU : Below w13.heap.size w13 u) (HK : Own8 u w13.heap.size NW [a, bb, c, x, d, d, d, o, d])
    (ho : w29.ownsRow w.heap.size 74 3 v29 (N + 9) (X ++ cells3 (six ++ lq) NW)) (hg : u.grownBy w29 u11.ownBlock) (hat : v29.ownBlock = u11.ownBlock ∨ ∃ b, v29.ownBlock = some b ∧ u.heap.size ≤ b) :
    Book8 w29 w.heap.size v29 (N + 9) (keepC a bb c x d o) (ls ++ (six ++ lq)) (us ++ NW) (X ++ cells3 (six ++ lq) NW) ∧
      StrmAt w29 w.heap.size (fun k => okS2 k ∧ w.heap.size ≤ k ∧ k < w13.heap.size) b [] [] [] ∧
      (∀ k, (okS2 k ∧ w.heap.size ≤ k ∧ k < w13.heap.size) → (w.heap.size ≤ k ∧ k < w29.heap.size) ∧ ¬ blocks (ls ++ (six ++ lq)) k ∧ ¬ blocks (us ++ NW) k ∧ v29.ownBlock ≠ some k) ∧ Below w.heap.size w w29 := by
  have hb := keeps_book HBK HOK HF13 HU
  have hlt := HBK.lt
  have h13 : wz.heap.size ≤ w13.heap.size := HF13.size
  have hu : w13.heap.size ≤ u.heap.size := HU.size
  have hw : w.heap.size ≤ wz.heap.size := HBW.size
  have hsix : ∀ q, blocks six q → (wz.heap.size ≤ q ∧ q < s6) ∧ q < w13.heap.size := fun q hq => ⟨⟨(HV.lt q hq).1, h6 q hq⟩, (HV.lt q hq).2⟩
  have hl : ∀ q, blocks lq q → (okS q ∨ s10 ≤ q) ∧ q < w13.heap.size := fun q hq => ⟨by rcases HOK2 q (hlq q hq) with h | h; exact h; exact .inr (by omega), (HVQ.lt q hq).2⟩
  have hnl : ∀ q, blocks (six ++ lq) q → (okS q ∨ wz.heap.size ≤ q) ∧ q < w13.heap.size := by
    intro q hq
    rcases blocks_append.1 hq with hq | hq
    · exact ⟨.inr (hsix q hq).1.1, (hsix q hq).2⟩
    · exact ⟨(hl q hq).1.imp (fun h => h) (fun h => by omega), (hl q hq).2⟩
  have hold : ∀ q, (okS q ∨ wz.heap.size ≤ q) → ¬ blocks ls q ∧ ¬ blocks us q ∧ u11.ownBlock ≠ some q := by
    intro q hq
    rcases hq with hq | hq
    · exact (HOK q hq).2
    · exact ⟨fun h => by have := (hlt q (.inl h)).2; omega, fun h => by have := (hlt q (.inr (.inl h))).2; omega, fun h => by have := (hlt q (.inr (.inr h))).2; omega⟩
  have hnine : Own8 u w.heap.size (six ++ lq) [a, bb, c, x, d, d, d, o, d] :=
    (HV.below HU).lower hw |>.both (HVQ.below HU) (fun q hq hq2 => by
      have h1 := (hsix q hq).1
      rcases (hl q hq2).1 with h | h
      · have := (HOK q h).1.2; omega
      · omega)
  have hlen : (six ++ lq).length = 9 := hnine.1
  refine ⟨Book8.more hb ho hg hlen HK.1 (fun j v hj => hnine.keepC hN j v hj) (fun j v hj => (HK.lower (Nat.le_trans hw h13)).keepC hN j v hj) hnine.2.2 (fun q hq => ?_) (fun q hq hq2 => ?_), ?_, fun k hk => ?_, ?_⟩
  · have h1 := hold q (hnl q hq).1
    exact ⟨h1.1, h1.2.1, fun h => by have := (HK.lt q h).1; have := (hnl q hq).2; omega⟩
  · have := (HK.lt q hq).1
    have := (hlt q (.inl hq2)).2
    omega
  · refine StrmAt_frm (StrmAt_below HS13 HU) (Frm.of_grown (S := fun k => u11.ownBlock = some k) hg (fun k e => e)) (fun k hk e => ?_)
    exact (hold k ((HOK1 k hk.1).1.imp (fun h => h) (fun h => by omega))).2.2 e
  · have h1 := (HOK1 k hk.1)
    have h2 := hold k (h1.1.imp (fun h => h) (fun h => by omega))
    refine ⟨⟨hk.2.1, Nat.lt_of_lt_of_le hk.2.2 (Nat.le_trans hu hg.size)⟩, fun h => ?_, fun h => ?_, fun h => ?_⟩
    · rcases blocks_append.1 h with h | h
      · exact h2.1 h
      · rcases blocks_append.1 h with h | h
        · have h3 := (hsix k h).1
          rcases h1.1 with h4 | h4
          · have := (HOK k h4).1.2; omega
          · omega
        · exact h1.2 (hlq k h)
    · rcases blocks_append.1 h with h | h
      · exact h2.2.1 h
      · have := (HK.lt k h).1; omega
    · rcases hat with hat | ⟨b', hb', hle⟩
      · rw [hat] at h; exact h2.2.2 h
      · rw [hb'] at h; cases h; omega
  · exact (below_step HW13 HU).grown hg (Nat.le_trans HW13.size hu) (fun k e => (hlt k (.inr (.inr e))).1)
end
theorem keepC_mod (a b c x d o : List Int) (k : Nat) : keepC a b c x d o (k % 9) = keepC a b c x d o k := by unfold keepC; rw [Nat.mod_mod]
theorem keepC_len {a b c x d o : List Int} (m : Nat) (ha : a.length ≤ m) (hb : b.length ≤ m) (hc : c.length ≤ m) (hx : x.length ≤ m) (hd : d.length ≤ m) (ho : o.length ≤ m) (j : Nat) : (keepC a b c x d o j).length ≤ m := by
  unfold keepC
  have h9 : j % 9 < 9 := Nat.mod_lt _ (by decide)
  generalize j % 9 = i at h9
  match i, h9 with
  | 0, _ => exact ha
  | 1, _ => exact hb
  | 2, _ => exact hc
  | 3, _ => exact hx
  | 4, _ => exact hd
  | 5, _ => exact hd
  | 6, _ => exact hd
  | 7, _ => exact ho
  | 8, _ => exact hd
  | i + 9, h => omega
/-- The copies in the book. -/
def Us8 (W : World) (base gb N cb : Nat) (C : Nat → List Int) (us X : List Value) : Prop :=
  W.ownsRow base 74 3 (.slice (some ⟨gb, 0, none⟩) N cb) N X ∧ us.length = N ∧ (∀ j, X[j * 3 + 1]? = us[j]?) ∧ ∀ (j : Nat) (v : Value), us[j]? = some v → R8 W base v (C j)
section
variable {W W' : World} {base gb N cb k n : Nat} {C : Nat → List Int} {ls us X X' : List Value} {L : List Int}
theorem Book8.copies (h : Book8 W base (.slice (some ⟨gb, 0, none⟩) N cb) N C ls us X) : Us8 W base gb N cb C us X := ⟨h.1, h.2.2.1, fun j => (h.2.2.2.1 j).2, h.2.2.2.2.2.1⟩
theorem R8_at {v : Value} (h : R8 W base v L) (hn : L.length = n) : ∃ A c, v = .slice A n c ∧ n ≤ c ∧ C8 W A n L := by
  subst hn
  obtain ⟨A, c, e, h1, h2⟩ := Kd.R_reads h
  exact ⟨A, c, e, h1, h2⟩
theorem Us8.cell (h : Us8 W base gb N cb C us X) (hk : k < N) (hL : C k = L) (hn : L.length = n) : ∃ A c, W.cell? ⟨gb, k * 3 + 1, none⟩ = some (.slice A n c) ∧ n ≤ c ∧ C8 W A n L := by
  have hu : us[k]? = some (us[k]'(by rw [h.2.1]; exact hk)) := List.getElem?_eq_getElem _
  obtain ⟨A, c, e, h1, h2⟩ := R8_at (n := n) (h.2.2.2 k _ hu) (by rw [hL]; exact hn)
  rw [hL] at h2
  exact ⟨A, c, own_cell h.1 (by rw [h.2.2.1, hu, e]), h1, h2⟩
theorem Book8.cell (h : Book8 W base (.slice (some ⟨gb, 0, none⟩) N cb) N C ls us X) (hk : k < N) (hL : C k = L) (hn : L.length = n) : ∃ A c, W.cell? ⟨gb, k * 3, none⟩ = some (.slice A n c) ∧ n ≤ c ∧ C8 W A n L := by
  have hu : ls[k]? = some (ls[k]'(by rw [h.2.1]; exact hk)) := List.getElem?_eq_getElem _
  obtain ⟨A, c, e, h1, h2⟩ := R8_at (n := n) (h.2.2.2.2.1 k _ hu) (by rw [hL]; exact hn)
  rw [hL] at h2
  exact ⟨A, c, own_cell h.1 (by rw [(h.2.2.2.1 k).1, hu, e]), h1, h2⟩
theorem Book8.below (h : Book8 W base (.slice (some ⟨gb, 0, none⟩) N cb) N C ls us X) (hb : Below W.heap.size W W') : Book8 W' base (.slice (some ⟨gb, 0, none⟩) N cb) N C ls us X := h.frm (Frm.of_below hb (fun _ => False)) (fun _ h => h.elim)
/-- The copies stand behind the marks. -/
theorem Book8.stained (h : Book8 W base (.slice (some ⟨gb, 0, none⟩) N cb) N C ls us X) (hf : Frm W W' (fun q => q = gb ∨ blocks ls q)) (hX : W'.ownsRow base 74 3 (.slice (some ⟨gb, 0, none⟩) N cb) N X') (hs : SameLW X X') : Us8 W' base gb N cb C us X' := by
  refine ⟨hX, h.2.2.1, fun j => by rw [(hs.2 j).2]; exact (h.2.2.2.1 j).2, fun j v hj => R8_keep (h.2.2.2.2.2.1 j v hj) (fun q hq => hf.block q (R8_lt (h.2.2.2.2.2.1 j v hj) q hq).2 (fun hq2 => ?_))⟩
  rcases hq2 with rfl | hq2
  · exact absurd (typed_ne (own_type (R8_own (h.2.2.2.2.2.1 j v hj)) q hq) (own_type h.1 q rfl)) (by decide)
  · exact h.2.2.2.2.2.2.2 q hq2 ⟨j, v, hj, hq⟩
end
end Go.Proofs.Ytnanaojjhmpilaa.PW
namespace Go.Proofs.Ytnanaojjhmpilaa.PW
open Go.RowKit Go.Proofs.YtnanaojjhmpilaaW.PrintWords Go.Proofs.YtnanaojjhmpilaaW.PrintLast Go.Proofs.YtnanaojjhmpilaaW.PrintMore
set_option linter.unusedVariables false
set_option linter.unusedSimpArgs false
def rg49.T10 : Bool × List (List Nat × List Nat) := (true, [([], []), ([], []), ([0, 1], [0, 1]), ([2], [2]), ([3], [3]), ([], []), ([], []), ([], []), ([6, 7], [6, 7]), ([4, 5, 0, 1, 2, 3, 4, 5, 6, 7, 8], [4, 5]), ([9, 8, 8, 0, 1, 2, 3, 4, 5, 6, 7, 8], [8, 9])])
def rg49.B10 : List Nat := [0, 0, 3, 7, 15, 0, 0, 0, 192, 511, 1023]
theorem rg49.tab10 : rtab .any (opsOf Try.f49 10) = rg49.T10 := by kernel_rfl
theorem rg49.bits10 : waitsOk rg49.T10.2 rg49.B10 = true := by kernel_rfl
def rg49.T30 : Bool × List (List Nat × List Nat) := (true, [([], []), ([], []), ([0, 1], [0, 1]), ([2], [2]), ([3], [3]), ([], []), ([4, 5], [4, 5]), ([6], [6]), ([], []), ([], []), ([8, 9], [8, 9]), ([7, 10], [7, 10]), ([11, 10], [11]), ([12], [12]), ([12], [12]), ([13, 14, 12], [12, 13, 14]), ([15, 12], [12, 15]), ([16, 12], [12, 16]), ([12], [12]), ([17, 18, 12], [12, 17, 18]), ([19, 12], [12, 19]), ([12], [12]), ([12], [12]), ([21, 22, 12, 12], [12, 21, 22]), ([20, 23, 12], [12, 20, 23]), ([12, 24], [12, 24])])
def rg49.B30 : List Nat := [0, 0, 3, 7, 15, 0, 63, 127, 0, 0, 768, 2047, 4095, 8191, 8191, 32767, 65535, 131071, 8191, 524287, 1048575, 8191, 8191, 6299647, 16777215, 33554431]
theorem rg49.tab30 : rtab .any (opsOf Try.f49 30) = rg49.T30 := by kernel_rfl
theorem rg49.bits30 : waitsOk rg49.T30.2 rg49.B30 = true := by kernel_rfl

def nn0 (j : Nat) : Int := (j : Int)
set_option maxHeartbeats 64000000 in
set_option maxRecDepth 100000 in
theorem stained0_C {W : World} {base gb N cb : Nat} {X ls : List Value} (hX : W.ownsRow base 74 3 (.slice (some ⟨gb, 0, none⟩) N cb) N X) (hl : ∀ (j : Nat) (v : Value), ls[j]? = some v → X[j * 3]? = some v) (hN : ls.length = N) (hN4 : N ≤ 4000) (hr : ∀ (j : Nat) (v : Value), ls[j]? = some v → Raw8 W base v) (hd : Dist ls) (hbase : base ≤ W.heap.size) :
    Calls Try.prog 49 #[.slice (some ⟨gb, 0, none⟩) N cb, .int .i64 0] W fun r w' => r = .returned (.bool true) ∧ ∃ X', w'.ownsRow base 74 3 (.slice (some ⟨gb, 0, none⟩) N cb) N X' ∧ SameLW X X' ∧ (∀ (j : Nat) (v : Value), ls[j]? = some v → Raw8 w' base v) ∧ Frm W w' (fun q => q = gb ∨ blocks ls q) := by
  have HX := Aside0.mk hX
  have HL := Aside0.mk hl
  have HN := Aside0.mk hN
  have HR := Aside0.mk hr
  have HD := Aside0.mk hd
  have HBS := Aside0.mk hbase
  have HT := Aside0.mk (show ∀ q, blocks ls q → typed W 5 q from fun q ⟨j, v, hj, hq⟩ => (hr j v hj).type q hq)
  have HTG := Aside0.mk (show typed W 74 gb from own_type hX gb rfl)
  clear hX hl hN hr hd hbase
  go_enter Try.func49, Try.ntmps49
  go_wp2
  go_loopw [5, 6, 7] (fun v5 v6 v7 wr => ∃ k : Nat, k ≤ N ∧ v5 = .int .i64 (k : Int) ∧ Aside0 (Frm W wr (blocks ls)) ∧ Aside0 (∀ (j : Nat) (v : Value), ls[j]? = some v → j < k → Mk8 wr base nn0 j v) ∧ Aside0 (∀ (j : Nat) (v : Value), ls[j]? = some v → k ≤ j → Raw8 wr base v)) (fun v5 _ _ _ => N + 1 - (intOf v5).toNat)
  case atStart => exact ⟨0, Nat.zero_le _, rfl, ⟨Frm.refl _ _⟩, ⟨fun j v _ h => absurd h (Nat.not_lt_zero _)⟩, ⟨fun j v hj _ => HR.out j v hj⟩⟩
  case round =>
    obtain ⟨k, hk, rfl, HFR, HMK, HRW⟩ := hrel
    by_cases hlt : k < N
    · have hd1 : decide (k < N) = true := decide_eq_true hlt
      have hd2 : decide ((k : Int) < (N : Int)) = true := decide_eq_true (by omega)
      have hkv : k < ls.length := by rw [HN.out]; exact hlt
      obtain ⟨v, hv⟩ : ∃ v, ls[k]? = some v := ⟨_, List.getElem?_eq_getElem hkv⟩
      have hrow := own_step HX.out (fun q hq => keep_type HFR.out HT.out (t' := 74) (by decide) (own_type HX.out q hq))
      obtain ⟨n5, X0, hn5, hX0⟩ := HRW.out k v hv (Nat.le_refl _)
      obtain ⟨A5, c5, rfl, hc5⟩ := own_form hX0
      have ck : wr.cell? ⟨gb, k * 3, none⟩ = some (.slice A5 n5 c5) := own_cell hrow (HL.out k _ hv)
      obtain ⟨wk, hwk⟩ : ∃ wk, wk = wr := ⟨_, rfl⟩
      have HNK := Aside0.mk (show nn0 k = (k : Int) from rfl)
      have HV := Aside0.mk hv
      have HX0 := Aside0.mk hX0
      have HROW := Aside0.mk hrow
      rw [← hwk] at HFR HMK HRW HX0 HROW
      have HX1 := Aside0.mk (show ∃ Y, Y.length = (n5 - 0) * 1 ∧ wr.ownsRow base 5 1 (.slice A5 n5 c5) n5 (stl (k : Int) 0 ++ Y) from ⟨X0, by rw [Nat.sub_zero]; exact hX0.1, hX0⟩)
      have HF1 := Aside0.mk (show Frm wk wr (fun q => (Value.slice A5 n5 c5).ownBlock = some q) by rw [hwk]; exact Frm.refl _ _)
      obtain ⟨K1, hK1⟩ : ∃ K1, K1 = k + 1 := ⟨_, rfl⟩
      have hkk1 : (k : Int) + 1 = (K1 : Int) := by omega
      have hkb : K1 ≤ 4001 := by omega
      have HK1 := Aside0.mk hK1
      clear hkv hv hrow hX0 hc5 hwk hK1
      go_wp2
      go_loopw [7] (fun v7 wr => ∃ i : Nat, i ≤ n5 ∧ v7 = .int .i64 (i : Int) ∧ Aside0 (Frm wk wr (fun q => (Value.slice A5 n5 c5).ownBlock = some q)) ∧ Aside0 (∃ Y, Y.length = (n5 - i) * 1 ∧ wr.ownsRow base 5 1 (.slice A5 n5 c5) n5 (stl (k : Int) i ++ Y))) (fun v7 _ => n5 + 1 - (intOf v7).toNat)
      case atStart => exact ⟨0, Nat.zero_le _, rfl, HF1, HX1⟩
      case round =>
        obtain ⟨i, hi, rfl, HFI, HXI⟩ := hrel
        have hT5 : ∀ q, (Value.slice A5 n5 c5).ownBlock = some q → typed wk 5 q := fun q hq => own_type HX0.out q hq
        have HT5 := Aside0.mk hT5
        have hrowi := own_step HROW.out (fun q hq => keep_type HFI.out HT5.out (t' := 74) (by decide) (own_type HROW.out q hq))
        have ck : wr.cell? ⟨gb, k * 3, none⟩ = some (.slice A5 n5 c5) := own_cell hrowi (HL.out k _ HV.out)
        clear hrowi hT5
        by_cases hin : i < n5
        · have hd3 : decide (i < n5) = true := decide_eq_true hin
          have hd4 : decide ((i : Int) < (n5 : Int)) = true := decide_eq_true (by omega)
          obtain ⟨Y, hYl, hY⟩ := HXI.out
          obtain ⟨g5, c6, cur5, hrow5, _, _, hb5, hsz5⟩ := own_some hY (by omega)
          injection hrow5 with hA5 _ hc6
          obtain rfl := hA5
          clear hc6
          have HY := Aside0.mk (And.intro hYl hY)
          have HB5 := Aside0.mk (And.intro hb5 hsz5)
          have ckd : wr.drew.cell? ⟨gb, k * 3, none⟩ = some (.slice (some ⟨g5, 0, none⟩) n5 c5) := ck
          have hce : ∃ u5, wr.cell? ⟨g5, i, none⟩ = some u5 := by
            obtain ⟨u5, h5⟩ : ∃ u5, Y[0]? = some u5 := ⟨_, List.getElem?_eq_getElem (by rw [hYl]; omega)⟩
            exact ⟨u5, own_cell hY (by rw [List.getElem?_append_right (by rw [stl_len]; exact Nat.le_refl _), stl_len, Nat.sub_self]; exact h5)⟩
          obtain ⟨u5, hce⟩ := hce
          have hfe : wr.frozen? ⟨g5, i, none⟩ = false := blk_frozen hb5 i
          clear hYl hY hb5 hsz5
          go_wp2
          refine start_ (n := 11) (S := fun w' => w'.cell? ⟨gb, k * 3, none⟩ = some (.slice (some ⟨g5, 0, none⟩) n5 c5)) (ds := [10]) #[false, false, false, false, false, false, false, false, false, false, false] (by kernel_rfl) rfl rfl (ckd) (fun hHeld => ?_)
          refine with_tabW rg49.tab10 rg49.bits10 (fun HT_ HW_ => ?_)
          refine pure_ (i := 0) (N := some 37) (v := ?_) (a' := ?_) #[true, false, false, false, false, false, false, false, false, false, false] rfl rfl (any_of HT_.out (by kernel_rfl)) (fun _ _ _ h => h) (Or.inl ⟨by rfl, ?_⟩) ?_ ?_
          rotate_left
          · intro w'
            go_simp
            with_reducible rfl
          rotate_left
          · simp only [Act.put, List.setIfInBounds_toArray, List.set_cons_zero, List.set_cons_succ, i64_w, i32_w]
            rfl
          refine pure_ (i := 1) (N := some 38) (v := ?_) (a' := ?_) #[true, true, false, false, false, false, false, false, false, false, false] rfl rfl (any_of HT_.out (by kernel_rfl)) (fun _ _ _ h => h) (Or.inl ⟨by rfl, ?_⟩) ?_ ?_
          rotate_left
          · intro w'
            go_simp
            with_reducible rfl
          rotate_left
          · simp only [Act.put, List.setIfInBounds_toArray, List.set_cons_zero, List.set_cons_succ, i64_w, i32_w]
            rfl
          refine pure_ (i := 2) (N := some 39) (v := ?_) (a' := ?_) #[true, true, true, false, false, false, false, false, false, false, false] rfl rfl (any_of HT_.out (by kernel_rfl)) (fun _ _ _ h => h) (Or.inl ⟨by rfl, ?_⟩) ?_ ?_
          rotate_left
          · intro w'
            go_simp
            with_reducible rfl
          rotate_left
          · simp only [Act.put, List.setIfInBounds_toArray, List.set_cons_zero, List.set_cons_succ, i64_w, i32_w]
            rfl
          refine pure_ (i := 3) (N := some 40) (v := ?_) (a' := ?_) #[true, true, true, true, false, false, false, false, false, false, false] rfl rfl (any_of HT_.out (by kernel_rfl)) (fun _ _ _ h => h) (Or.inl ⟨by rfl, ?_⟩) ?_ ?_
          rotate_left
          · intro w'
            go_simp
            with_reducible rfl
          rotate_left
          · simp only [Act.put, List.setIfInBounds_toArray, List.set_cons_zero, List.set_cons_succ, i64_w, i32_w]
            rfl
          refine pure_ (i := 5) (N := some 42) (v := ?_) (a' := ?_) #[true, true, true, true, false, true, false, false, false, false, false] rfl rfl (any_of HT_.out (by kernel_rfl)) (fun _ _ _ h => h) (Or.inl ⟨by rfl, ?_⟩) ?_ ?_
          rotate_left
          · intro w'
            go_simp
            with_reducible rfl
          rotate_left
          · simp only [Act.put, List.setIfInBounds_toArray, List.set_cons_zero, List.set_cons_succ, i64_w, i32_w]
            rfl
          refine pure_ (i := 6) (N := some 43) (v := ?_) (a' := ?_) #[true, true, true, true, false, true, true, false, false, false, false] rfl rfl (any_of HT_.out (by kernel_rfl)) (fun _ _ _ h => h) (Or.inl ⟨by rfl, ?_⟩) ?_ ?_
          rotate_left
          · intro w'
            go_simp
            with_reducible rfl
          rotate_left
          · simp only [Act.put, List.setIfInBounds_toArray, List.set_cons_zero, List.set_cons_succ, i64_w, i32_w]
            rfl
          refine pure_ (i := 7) (N := some 44) (v := ?_) (a' := ?_) #[true, true, true, true, false, true, true, true, false, false, false] rfl rfl (any_of HT_.out (by kernel_rfl)) (fun _ _ _ h => h) (Or.inl ⟨by rfl, ?_⟩) ?_ ?_
          rotate_left
          · intro w'
            go_simp
            with_reducible rfl
          rotate_left
          · simp only [Act.put, List.setIfInBounds_toArray, List.set_cons_zero, List.set_cons_succ, i64_w, i32_w]
            rfl
          refine take_ (i := 4) (N := some 41) (v := ?_) (a' := ?_) #[true, true, true, true, true, true, true, true, false, false, false] rfl rfl (take_ofW HT_.out HW_.out (by kernel_rfl)) (fun _ _ _ h => h) (Or.inl ⟨by rfl, ?_⟩) hHeld ?_ ?_
          rotate_left
          · intro w' s0
            go_simp
            with_reducible rfl
          rotate_left
          · simp only [Act.put, List.setIfInBounds_toArray, List.set_cons_zero, List.set_cons_succ, i64_w, i32_w]
            rfl
          refine one_ (i := 8) (N := some 45) #[true, true, true, true, true, true, true, true, true, false, false] rfl rfl (one_of HT_.out (by kernel_rfl)) (by decide) (fun K hK => ?_)
          refine goes_ Try.func64 (by kernel_rfl) rfl #[.int .i64 (k : Int), .int .i64 (i : Int)] (by rfl) rfl rfl (by simp only [List.map_toArray, List.map_cons, List.map_nil]; rfl) ?_
          with_reducible refine (stain_C (k : Int) (i : Int) _).mono ?_
          rintro e w9 ⟨rfl, ⟨⟨mq, rfl⟩⟩⟩
          refine ⟨_, rfl, ?_⟩
          refine hK.out _ _ (ckd) (fun hHeld => ?_)
          clear hK K
          refine norm_ (a' := ?_) ?_ ?_
          rotate_left
          · show Act.put _ (some 45) _ = _
            simp only [Act.put, List.setIfInBounds_toArray, List.set_cons_zero, List.set_cons_succ, i64_w, i32_w]
            rfl
          refine pure_ (i := 9) (N := some 46) (v := ?_) (a' := ?_) #[true, true, true, true, true, true, true, true, true, true, false] rfl rfl (any_of HT_.out (by kernel_rfl)) (fun _ _ _ h => h) (Or.inl ⟨by rfl, ?_⟩) ?_ ?_
          rotate_left
          · intro w'
            go_simp
            with_reducible rfl
          rotate_left
          · simp only [Act.put, List.setIfInBounds_toArray, List.set_cons_zero, List.set_cons_succ, i64_w, i32_w]
            rfl
          refine last_ (i := 10) (N := none) #[true, true, true, true, true, true, true, true, true, true, true] rfl rfl (one_of HT_.out (by kernel_rfl)) (by decide) (fun K hK => ?_)
          refine skip_ (w1 := ?_) (by rfl) rfl ?_ ?_
          rotate_left
          · go_simp
            rfl
          refine hK.out _ _ ?_
          clear hK K
          refine done_ (done_of HT_.out (by kernel_rfl)) ?_
          obtain ⟨w8, hw8⟩ : ∃ w8, w8 = (wr.drewN (1 + mq)).setCell ⟨g5, i, none⟩ (.int .u8 (stv (k : Int) (i : Int))) := ⟨_, rfl⟩
          have hput := own_set (W := wr.drewN (1 + mq)) (show (wr.drewN (1 + mq)).ownsRow base 5 1 (.slice (some ⟨g5, 0, none⟩) n5 c5) n5 (stl (k : Int) i ++ Y) from HY.out.2) (i := i) (by rw [List.length_append, stl_len, HY.out.1]; omega) (.int .u8 (stv (k : Int) (i : Int)))
          rw [stl_set (k : Int) (by rw [HY.out.1]; omega)] at hput
          have HPUT := Aside0.mk (show ∃ Z, Z.length = (n5 - (i + 1)) * 1 ∧ w8.ownsRow base 5 1 (.slice (some ⟨g5, 0, none⟩) n5 c5) n5 (stl (k : Int) (i + 1) ++ Z) from ⟨Y.drop 1, by rw [List.length_drop, HY.out.1]; omega, by rw [hw8]; exact hput⟩)
          have HF7 := Aside0.mk (show Frm wk w8 (fun q => (Value.slice (some ⟨g5, 0, none⟩) n5 c5).ownBlock = some q) by rw [hw8]; exact Frm.set_ (p := ⟨g5, i, none⟩) (HFI.out.drewN (1 + mq)) (.inl rfl) _)
          rw [← hw8]
          clear hput ck ckd hw8 hce hfe
          go_wp2
          go_roundw
          case rel => exact ⟨i + 1, by omega, by go_num, HF7, HPUT⟩
          case measure => simp [intOf]; omega
        · have hd3 : decide (i < n5) = false := decide_eq_false hin
          have hd4 : decide ((i : Int) < (n5 : Int)) = false := decide_eq_false (by omega)
          have hii : i = n5 := by omega
          obtain rfl := hii
          have hmk : Mk8 wr base nn0 k (.slice A5 i c5) := by
            obtain ⟨Y, hYl, hY⟩ := HXI.out
            rw [Nat.sub_self, Nat.zero_mul] at hYl
            obtain rfl := List.eq_nil_of_length_eq_zero hYl
            rw [List.append_nil] at hY
            exact ⟨i, hn5, by rw [HNK.out]; exact hY⟩
          have hother : ∀ (j : Nat) (u : Value), ls[j]? = some u → j ≠ k → ∀ q, u.ownBlock = some q → q < wk.heap.size → wr.heap[q]? = wk.heap[q]? := fun j u hj hne q hq hlt => HFI.out.block q hlt (fun h => HD.out k j _ u HV.out hj (fun e => hne e.symm) q h hq)
          have HMK2 := Aside0.mk (show ∀ (j : Nat) (u : Value), ls[j]? = some u → j < K1 → Mk8 wr base nn0 j u from fun j u hj hlt2 => by
            by_cases hjk : j = k
            · subst hjk
              rw [HV.out] at hj
              cases hj
              exact hmk
            · have := HMK.out j u hj (by have := HK1.out; omega)
              exact this.step (fun q hq => hother j u hj hjk q hq (this.lt q hq).2))
          have HRW2 := Aside0.mk (show ∀ (j : Nat) (u : Value), ls[j]? = some u → K1 ≤ j → Raw8 wr base u from fun j u hj hle => by
            have := HRW.out j u hj (by have := HK1.out; omega)
            exact this.step (fun q hq => hother j u hj (by have := HK1.out; omega) q hq (this.lt q hq).2))
          have HFR2 := Aside0.mk (HFR.out.then_ HFI.out (fun q hq _ => ⟨k, _, HV.out, hq⟩))
          clear hmk hother
          go_wp2
          go_roundw
          case rel => exact ⟨K1, by have := HK1.out; omega, by go_num, HFR2, HMK2, HRW2⟩
          case measure => have := HK1.out; simp [intOf]; omega
    · have hd1 : decide (k < N) = false := decide_eq_false hlt
      have hd2 : decide ((k : Int) < (N : Int)) = false := decide_eq_false (by omega)
      have HXM := Aside0.mk (own_step HX.out (fun q hq => keep_type HFR.out HT.out (t' := 74) (by decide) (own_type HX.out q hq)))
      have HMM := Aside0.mk (show ∀ (j : Nat) (v : Value), ls[j]? = some v → Mk8 wr base nn0 j v from fun j v hj => HMK.out j v hj (by have := (List.getElem?_eq_some_iff.1 hj).1; have := HN.out; omega))
      have HFW := Aside0.mk HFR.out
      obtain ⟨wm, hwm⟩ : ∃ wm, wm = wr := ⟨_, rfl⟩
      rw [← hwm] at HXM HMM HFW ⊢
      clear hwm HFR HMK HRW
      go_wp2
      clear hd1 hd2 hlt
      go_loopw [8, 9, 10] (fun v8 v9 v10 wr => ∃ (k : Nat) (X1 : List Value), k ≤ N ∧ v8 = .int .i64 (k : Int) ∧ Aside0 (wr.ownsRow base 74 3 (.slice (some ⟨gb, 0, none⟩) N cb) N X1 ∧ SameLW X X1) ∧ Aside0 (∀ (j : Nat) (v : Value), ls[j]? = some v → j < k → ∃ v', X1[j * 3 + 2]? = some v' ∧ Grown8 wr base wm.heap.size nn0 j v v') ∧ Aside0 (∀ (j : Nat) (v : Value), ls[j]? = some v → k ≤ j → Mk8 wr base nn0 j v) ∧ Aside0 (Frm wm wr (fun q => q = gb ∨ blocks ls q))) (fun v8 _ _ _ => N + 1 - (intOf v8).toNat)
      case atStart => exact ⟨0, X, Nat.zero_le _, rfl, ⟨HXM.out, SameLW.refl _⟩, ⟨fun j v _ h => absurd h (Nat.not_lt_zero _)⟩, ⟨fun j v hj _ => HMM.out j v hj⟩, ⟨Frm.refl _ _⟩⟩
      case round =>
        clear hk
        obtain ⟨k, X1, hk, rfl, HX1, HGR, HMK, HFR⟩ := hrel
        by_cases hlt : k < N
        · have hd1 : decide (k < N) = true := decide_eq_true hlt
          have hd2 : decide ((k : Int) < (N : Int)) = true := decide_eq_true (by omega)
          have hkv : k < ls.length := by rw [HN.out]; exact hlt
          obtain ⟨v, hv⟩ : ∃ v, ls[k]? = some v := ⟨_, List.getElem?_eq_getElem hkv⟩
          obtain ⟨n5, hn5, hX0⟩ := HMK.out k v hv (Nat.le_refl _)
          obtain ⟨A5, c5, rfl, hc5⟩ := own_form hX0
          have ck : wr.cell? ⟨gb, k * 3, none⟩ = some (.slice A5 n5 c5) := own_cell HX1.out.1 (((HX1.out.2.2 k).1).trans (HL.out k _ hv))
          obtain ⟨wk, hwk⟩ : ∃ wk, wk = wr := ⟨_, rfl⟩
          have HV := Aside0.mk hv
          have HX0 := Aside0.mk hX0
          have HE1 := Aside0.mk hX0
          have HE2 := Aside0.mk (show wr.ownsRow base 5 1 (.slice A5 n5 c5) (n5 + 0) (stl (nn0 k) n5 ++ List.replicate 0 (g2 k)) by rw [List.replicate_zero, List.append_nil]; exact hX0)
          rw [← hwk] at HX1 HGR HMK HFR HX0
          have HF1 := Aside0.mk (show Frm wk wr (fun q => (Value.slice A5 n5 c5).ownBlock = some q) by rw [hwk]; exact Frm.refl _ _)
          obtain ⟨K1, hK1⟩ : ∃ K1, K1 = k + 1 := ⟨_, rfl⟩
          have hkk1 : (k : Int) + 1 = (K1 : Int) := by omega
          have hkb : K1 ≤ 4001 := by omega
          have HK1 := Aside0.mk hK1
          clear hkv hv hX0 hc5 hwk hK1
          go_wp2
          clear ck
          go_loopw [9, 10] (fun v9 v10 wr => ∃ (i : Nat) (gv : Value), i ≤ 96 ∧ gv = v9 ∧ v10 = .int .i64 (i : Int) ∧ Aside0 (Frm wk wr (fun q => (Value.slice A5 n5 c5).ownBlock = some q)) ∧ Aside0 (wr.ownsRow base 5 1 (.slice A5 n5 c5) n5 (stl (nn0 k) n5)) ∧ Aside0 (wr.ownsRow base 5 1 gv (n5 + i) (stl (nn0 k) n5 ++ List.replicate i (g2 k))) ∧ Aside0 (∀ q, gv.ownBlock = some q → (Value.slice A5 n5 c5).ownBlock = some q ∨ wk.heap.size ≤ q)) (fun _ v10 _ => 96 + 1 - (intOf v10).toNat)
          case atStart => exact ⟨0, _, Nat.zero_le _, rfl, rfl, HF1, HE1, HE2, ⟨fun q hq => .inl hq⟩⟩
          case round =>
            obtain ⟨i, gv, hi, rfl, rfl, HFI, HXE, HXG, HGB⟩ := hrel
            by_cases hin : i < 96
            · have hd3 : decide (i < 96) = true := decide_eq_true hin
              have hd4 : decide ((i : Int) < 96) = true := decide_eq_true (by omega)
              go_wp2_with (with_reducible refine stop_append rfl ?_)
              refine own_append (W := wr) base rfl (.tmp 62) (.tmp 67) 22 5 (.int .u8 0) 1 1 rfl Try.underlying22 info5' rfl (by decide) (by decide) gv (n5 + i) (stl (nn0 k) n5 ++ List.replicate i (g2 k)) [g2 k] rfl rfl rfl (by simp [g2, Value.oneCell']) HXG.out (by have := HBS.out; have := HFW.out.size; have := HFR.out.size; have := HFI.out.size; omega) (by omega) ?_
              intro g1 w6 ho6 hg6 hat6
              rw [List.append_assoc, ← List.replicate_succ'] at ho6
              have hE6 := keep_elder (Y := List.replicate i (g2 k)) (Z := List.replicate (i + 1) (g2 k)) (m1 := n5 + i + 1) (by decide) HXE.out HXG.out ho6 (by omega) hg6 (hat6.imp (fun h => h) (fun h => h.2))
              have HXE3 := Aside0.mk hE6
              have HXG3 := Aside0.mk (show w6.ownsRow base 5 1 g1 (n5 + (i + 1)) (stl (nn0 k) n5 ++ List.replicate (i + 1) (g2 k)) from ho6)
              have HFI3 := Aside0.mk (HFI.out.then_ (Frm.of_grown hg6 (S := fun q => gv.ownBlock = some q) (fun q hq => hq)) (fun q hq hlt => (HGB.out q hq).elim (fun h => h) (fun h => by omega)))
              have HGB3 := Aside0.mk (show ∀ q, g1.ownBlock = some q → (Value.slice A5 n5 c5).ownBlock = some q ∨ wk.heap.size ≤ q from fun q hq => by
                rcases hat6 with ⟨b, cap, rfl, rfl⟩ | ⟨⟨b, hb, hlb⟩, _⟩
                · exact HGB.out q hq
                · rw [hb] at hq
                  cases hq
                  exact .inr (Nat.le_trans HFI.out.size hlb))
              clear ho6 hg6 hat6 hE6 HXE HXG HFI HGB
              go_wp2
              go_roundw
              case rel => exact ⟨i + 1, g1, by omega, rfl, by go_num, HFI3, HXE3, HXG3, HGB3⟩
              case measure => simp [intOf]; omega
            · have hd3 : decide (i < 96) = false := decide_eq_false hin
              have hd4 : decide ((i : Int) < 96) = false := decide_eq_false (by omega)
              obtain rfl : i = 96 := by omega
              have HT5 := Aside0.mk (show ∀ q, (Value.slice A5 n5 c5).ownBlock = some q → typed wk 5 q from fun q hq => own_type HX0.out q hq)
              have hrow := own_step HX1.out.1 (fun q hq => keep_type HFI.out HT5.out (t' := 74) (by decide) (own_type HX1.out.1 q hq))
              have hXl : X1.length = N * 3 := hrow.1
              obtain ⟨u0, hu0⟩ : ∃ u0, X1[k * 3 + 2]? = some u0 := ⟨_, List.getElem?_eq_getElem (by omega)⟩
              have ck : wr.cell? ⟨gb, k * 3 + 2, none⟩ = some u0 := own_cell hrow hu0
              obtain ⟨cells, hbk⟩ := own_type hrow gb rfl
              have fk : wr.frozen? ⟨gb, k * 3 + 2, none⟩ = false := blk_frozen hbk (k * 3 + 2)
              have HROW := Aside0.mk hrow
              have HXL := Aside0.mk hXl
              obtain ⟨A7, c7, rfl, hc7⟩ := own_form HXG.out
              obtain ⟨L7, hL7⟩ : ∃ L7, L7 = n5 + 96 := ⟨_, rfl⟩
              have HL7 := Aside0.mk hL7
              rw [← hL7] at HXG HGB ⊢
              clear hrow hXl hu0 hbk hc7 hL7
              go_wp2
              obtain ⟨w7, hw7⟩ : ∃ w7, w7 = wr.setCell ⟨gb, k * 3 + 2, none⟩ (.slice A7 L7 c7) := ⟨_, rfl⟩
              have HROW7 := Aside0.mk (show w7.ownsRow base 74 3 (.slice (some ⟨gb, 0, none⟩) N cb) N (X1.set (k * 3 + 2) (.slice A7 L7 c7)) by rw [hw7]; exact own_set HROW.out (by have := HXL.out; omega) _)
              have HF7 := Aside0.mk (show Frm wr w7 (fun q => q = gb) by rw [hw7]; exact Frm.set_ (S := fun q => q = gb) (p := ⟨gb, k * 3 + 2, none⟩) (Frm.refl _ _) (.inl rfl) _)
              rw [← hw7]
              clear hw7 ck fk
              have hgb : ∀ q, typed wr 5 q → w7.heap[q]? = wr.heap[q]? := fun q hq => by
                obtain ⟨cs, hcs⟩ := hq
                exact HF7.out.block q (blk_lt hcs) (fun e => absurd (typed_ne ⟨cs, hcs⟩ (e ▸ own_type HROW.out gb rfl : typed wr 74 q)) (by decide))
              have HGB7 := Aside0.mk hgb
              have HPAIR := Aside0.mk (show Grown8 w7 base wm.heap.size nn0 k (.slice A5 n5 c5) (.slice A7 L7 c7) from ⟨n5, hn5, own_step HXE.out (fun q hq => hgb q (own_type HXE.out q hq)), by rw [← HL7.out]; exact own_step HXG.out (fun q hq => hgb q (own_type HXG.out q hq)), fun q hq => (HGB.out q hq).imp (fun h => h) (fun h => Nat.le_trans HFR.out.size h)⟩)
              have hstep : ∀ (j : Nat) (u : Value), ls[j]? = some u → j ≠ k → ∀ q, typed wk 5 q → (u.ownBlock = some q ∨ wm.heap.size ≤ q) → w7.heap[q]? = wk.heap[q]? := fun j u hj hne q ht hq => by
                obtain ⟨cs, hcs⟩ := ht
                have h1 : wr.heap[q]? = wk.heap[q]? := by
                  refine HFI.out.block q (blk_lt hcs) (fun h => ?_)
                  rcases hq with hq | hq
                  · exact HD.out k j _ u HV.out hj (fun e => hne e.symm) q h hq
                  · have h2 := ((HMM.out k _ HV.out).lt q h).2
                    omega
                exact (hgb q ⟨cs, h1.trans hcs⟩).trans h1
              have HGR2 := Aside0.mk (show ∀ (j : Nat) (u : Value), ls[j]? = some u → j < K1 → ∃ v', (X1.set (k * 3 + 2) (.slice A7 L7 c7))[j * 3 + 2]? = some v' ∧ Grown8 w7 base wm.heap.size nn0 j u v' from fun j u hj hlt2 => by
                by_cases hjk : j = k
                · subst hjk
                  rw [HV.out] at hj
                  cases hj
                  exact ⟨_, List.getElem?_set_self (by have := HXL.out; omega), HPAIR.out⟩
                · obtain ⟨v', h1, h2⟩ := HGR.out j u hj (by have := HK1.out; omega)
                  exact ⟨v', by rw [List.getElem?_set_ne (by omega)]; exact h1, h2.step (hstep j u hj hjk)⟩)
              have HMK2 := Aside0.mk (show ∀ (j : Nat) (u : Value), ls[j]? = some u → K1 ≤ j → Mk8 w7 base nn0 j u from fun j u hj hle => by
                have h1 := HMK.out j u hj (by have := HK1.out; omega)
                exact h1.step (fun q hq => hstep j u hj (by have := HK1.out; omega) q (h1.raw.type q hq) (.inl hq)))
              have HX2 := Aside0.mk (And.intro HROW7.out (HX1.out.2.set k (.slice A7 L7 c7)))
              have HFR2 := Aside0.mk (HFR.out.then_ ((HFI.out.mono (S1 := fun q => (Value.slice A5 n5 c5).ownBlock = some q ∨ q = gb) (fun q hq _ => .inl hq)).then_ HF7.out (fun q hq _ => .inr hq)) (fun q hq hlt => by
                rcases hq with hq | hq
                · exact .inr ⟨k, _, HV.out, hq⟩
                · exact .inl hq))
              clear hgb hstep HXE HXG HPAIR HGR HMK HFR HFI HX1 HGB7 HROW HROW7 HF7
              go_roundw
              case rel => exact ⟨K1, _, by have := HK1.out; omega, by go_num, HX2, HGR2, HMK2, HFR2⟩
              case measure => have := HK1.out; simp [intOf]; omega
        · have hd1 : decide (k < N) = false := decide_eq_false hlt
          have hd2 : decide ((k : Int) < (N : Int)) = false := decide_eq_false (by omega)
          obtain ⟨wt, hwt⟩ : ∃ wt, wt = wr := ⟨_, rfl⟩
          have HGT := Aside0.mk (show ∀ (j : Nat) (v : Value), ls[j]? = some v → ∃ v', X1[j * 3 + 2]? = some v' ∧ Grown8 wr base wm.heap.size nn0 j v v' from fun j v hj => HGR.out j v hj (by have := (List.getElem?_eq_some_iff.1 hj).1; have := HN.out; omega))
          have HFT := Aside0.mk (show Frm W wr (fun q => q = gb ∨ blocks ls q) from (HFW.out.mono (fun q hq _ => .inr hq)).then_ HFR.out (fun q hq _ => hq))
          rw [← hwt] at HX1 HGT HFT ⊢
          clear hwt HGR HMK HFR
          go_wp2
          clear hd1 hd2 hlt
          go_loopw [4, 11, 12, 13, 14, 15] (fun v4 v11 v12 v13 v14 v15 wr => ∃ k : Nat, k ≤ N ∧ v4 = .bool false ∧ v11 = .int .i64 (k : Int) ∧ Aside0 (Frm wt wr (fun _ => False))) (fun _ v11 _ _ _ _ _ => N + 1 - (intOf v11).toNat)
          case atStart => exact ⟨0, Nat.zero_le _, rfl, rfl, ⟨Frm.refl _ _⟩⟩
          case round =>
            clear hk
            obtain ⟨k, hk, rfl, rfl, HFR⟩ := hrel
            by_cases hlt : k < N
            · have hd1 : decide (k < N) = true := decide_eq_true hlt
              have hd2 : decide ((k : Int) < (N : Int)) = true := decide_eq_true (by omega)
              have hkv : k < ls.length := by rw [HN.out]; exact hlt
              obtain ⟨v, hv⟩ : ∃ v, ls[k]? = some v := ⟨_, List.getElem?_eq_getElem hkv⟩
              obtain ⟨v', hg, n5, hn5, hX0, hX7, _⟩ := HGT.out k v hv
              obtain ⟨A5, c5, rfl, hc5⟩ := own_form hX0
              obtain ⟨A7, c7, rfl, hc7⟩ := own_form hX7
              obtain ⟨L7, hL7⟩ : ∃ L7, L7 = n5 + 96 := ⟨_, rfl⟩
              rw [← hL7] at hX7 hg
              have HCK := Aside0.mk (show wt.cell? ⟨gb, k * 3, none⟩ = some (.slice A5 n5 c5) from own_cell HX1.out.1 (((HX1.out.2.2 k).1).trans (HL.out k _ hv)))
              have HCG := Aside0.mk (show wt.cell? ⟨gb, k * 3 + 2, none⟩ = some (.slice A7 L7 c7) from own_cell HX1.out.1 hg)
              have HX0 := Aside0.mk hX0
              have HX7 := Aside0.mk hX7
              have HL7 := Aside0.mk hL7
              have HNK := Aside0.mk (show nn0 k = (k : Int) from rfl)
              obtain ⟨K1, hK1⟩ : ∃ K1, K1 = k + 1 := ⟨_, rfl⟩
              have hkk1 : (k : Int) + 1 = (K1 : Int) := by omega
              have hkb : K1 ≤ 4001 := by omega
              have HK1 := Aside0.mk hK1
              have ck : wr.cell? ⟨gb, k * 3, none⟩ = some (.slice A5 n5 c5) := Frm.cell_ HFR.out HCK.out
              clear hkv hv hX0 hX7 hc5 hc7 hL7 hK1 hg
              go_wp2
              clear ck
              have HF0 := HFR
              go_loopw [4, 14] (fun v4 v14 wr => ∃ i : Nat, i ≤ n5 ∧ v4 = .bool false ∧ v14 = .int .i64 (i : Int) ∧ Aside0 (Frm wt wr (fun _ => False))) (fun _ v14 _ => n5 + 1 - (intOf v14).toNat)
              case atStart => exact ⟨0, Nat.zero_le _, rfl, rfl, HF0⟩
              case round =>
                obtain ⟨i, hi, rfl, rfl, HFI⟩ := hrel
                by_cases hin : i < n5
                · have hd3 : decide (i < n5) = true := decide_eq_true hin
                  have hd4 : decide ((i : Int) < (n5 : Int)) = true := decide_eq_true (by omega)
                  have hin7 : i < L7 := by have := HL7.out; omega
                  have hd5 : decide (i < L7) = true := decide_eq_true hin7
                  have hd6 : decide ((i : Int) < (L7 : Int)) = true := decide_eq_true (by have := HL7.out; omega)
                  obtain ⟨g5, c6, cur5, hrow5, _, _, _, _⟩ := own_some HX0.out (by omega)
                  injection hrow5 with hA5 _ hc6
                  obtain rfl := hA5
                  clear hc6
                  obtain ⟨g7, c8, cur7, hrow7, _, _, _, _⟩ := own_some HX7.out (by have := HL7.out; omega)
                  injection hrow7 with hA7 _ hc8
                  obtain rfl := hA7
                  clear hc8
                  have ck : wr.drew.cell? ⟨gb, k * 3, none⟩ = some (.slice (some ⟨g5, 0, none⟩) n5 c5) := Frm.cell_ HFI.out.drew HCK.out
                  have cg : wr.drew.cell? ⟨gb, k * 3 + 2, none⟩ = some (.slice (some ⟨g7, 0, none⟩) L7 c7) := Frm.cell_ HFI.out.drew HCG.out
                  have cl : wr.drew.cell? ⟨g5, i, none⟩ = some (.int .u8 (stv ((k : Int)) (i : Int))) := Frm.cell_ HFI.out.drew (own_cell HX0.out (stl_get _ hin))
                  have cm : wr.drew.cell? ⟨g7, i, none⟩ = some (.int .u8 (stv ((k : Int)) (i : Int))) := Frm.cell_ HFI.out.drew (own_cell HX7.out (by rw [List.getElem?_append_left (by rw [stl_len]; exact hin)]; exact stl_get _ hin))
                  go_wp2
                  refine start_ (n := 26) (S := fun w' => w'.cell? ⟨gb, k * 3, none⟩ = some (.slice (some ⟨g5, 0, none⟩) n5 c5) ∧ w'.cell? ⟨gb, k * 3 + 2, none⟩ = some (.slice (some ⟨g7, 0, none⟩) L7 c7) ∧ w'.cell? ⟨g5, i, none⟩ = some (.int .u8 (stv ((k : Int)) (i : Int))) ∧ w'.cell? ⟨g7, i, none⟩ = some (.int .u8 (stv ((k : Int)) (i : Int)))) (ds := []) #[false, false, false, false, false, false, false, false, false, false, false, false, false, false, false, false, false, false, false, false, false, false, false, false, false, false] (by kernel_rfl) rfl rfl ⟨ck, cg, cl, cm⟩ (fun hHeld => ?_)
                  refine with_tabW rg49.tab30 rg49.bits30 (fun HT_ HW_ => ?_)
                  refine pure_ (i := 0) (N := some 96) (v := ?_) (a' := ?_) #[true, false, false, false, false, false, false, false, false, false, false, false, false, false, false, false, false, false, false, false, false, false, false, false, false, false] rfl rfl (any_of HT_.out (by kernel_rfl)) (fun _ _ _ h => h) (Or.inl ⟨by rfl, ?_⟩) ?_ ?_
                  rotate_left
                  · intro w'
                    go_simp
                    with_reducible rfl
                  rotate_left
                  · simp only [Act.put, List.setIfInBounds_toArray, List.set_cons_zero, List.set_cons_succ, i64_w, i32_w]
                    rfl
                  refine pure_ (i := 1) (N := some 97) (v := ?_) (a' := ?_) #[true, true, false, false, false, false, false, false, false, false, false, false, false, false, false, false, false, false, false, false, false, false, false, false, false, false] rfl rfl (any_of HT_.out (by kernel_rfl)) (fun _ _ _ h => h) (Or.inl ⟨by rfl, ?_⟩) ?_ ?_
                  rotate_left
                  · intro w'
                    go_simp
                    with_reducible rfl
                  rotate_left
                  · simp only [Act.put, List.setIfInBounds_toArray, List.set_cons_zero, List.set_cons_succ, i64_w, i32_w]
                    rfl
                  refine pure_ (i := 2) (N := some 98) (v := ?_) (a' := ?_) #[true, true, true, false, false, false, false, false, false, false, false, false, false, false, false, false, false, false, false, false, false, false, false, false, false, false] rfl rfl (any_of HT_.out (by kernel_rfl)) (fun _ _ _ h => h) (Or.inl ⟨by rfl, ?_⟩) ?_ ?_
                  rotate_left
                  · intro w'
                    go_simp
                    with_reducible rfl
                  rotate_left
                  · simp only [Act.put, List.setIfInBounds_toArray, List.set_cons_zero, List.set_cons_succ, i64_w, i32_w]
                    rfl
                  refine pure_ (i := 3) (N := some 99) (v := ?_) (a' := ?_) #[true, true, true, true, false, false, false, false, false, false, false, false, false, false, false, false, false, false, false, false, false, false, false, false, false, false] rfl rfl (any_of HT_.out (by kernel_rfl)) (fun _ _ _ h => h) (Or.inl ⟨by rfl, ?_⟩) ?_ ?_
                  rotate_left
                  · intro w'
                    go_simp
                    with_reducible rfl
                  rotate_left
                  · simp only [Act.put, List.setIfInBounds_toArray, List.set_cons_zero, List.set_cons_succ, i64_w, i32_w]
                    rfl
                  refine pure_ (i := 5) (N := some 101) (v := ?_) (a' := ?_) #[true, true, true, true, false, true, false, false, false, false, false, false, false, false, false, false, false, false, false, false, false, false, false, false, false, false] rfl rfl (any_of HT_.out (by kernel_rfl)) (fun _ _ _ h => h) (Or.inl ⟨by rfl, ?_⟩) ?_ ?_
                  rotate_left
                  · intro w'
                    go_simp
                    with_reducible rfl
                  rotate_left
                  · simp only [Act.put, List.setIfInBounds_toArray, List.set_cons_zero, List.set_cons_succ, i64_w, i32_w]
                    rfl
                  refine pure_ (i := 8) (N := some 104) (v := ?_) (a' := ?_) #[true, true, true, true, false, true, false, false, true, false, false, false, false, false, false, false, false, false, false, false, false, false, false, false, false, false] rfl rfl (any_of HT_.out (by kernel_rfl)) (fun _ _ _ h => h) (Or.inl ⟨by rfl, ?_⟩) ?_ ?_
                  rotate_left
                  · intro w'
                    go_simp
                    with_reducible rfl
                  rotate_left
                  · simp only [Act.put, List.setIfInBounds_toArray, List.set_cons_zero, List.set_cons_succ, i64_w, i32_w]
                    rfl
                  refine pure_ (i := 9) (N := some 105) (v := ?_) (a' := ?_) #[true, true, true, true, false, true, false, false, true, true, false, false, false, false, false, false, false, false, false, false, false, false, false, false, false, false] rfl rfl (any_of HT_.out (by kernel_rfl)) (fun _ _ _ h => h) (Or.inl ⟨by rfl, ?_⟩) ?_ ?_
                  rotate_left
                  · intro w'
                    go_simp
                    with_reducible rfl
                  rotate_left
                  · simp only [Act.put, List.setIfInBounds_toArray, List.set_cons_zero, List.set_cons_succ, i64_w, i32_w]
                    rfl
                  refine take_ (i := 4) (N := some 100) (v := ?_) (a' := ?_) #[true, true, true, true, true, true, false, false, true, true, false, false, false, false, false, false, false, false, false, false, false, false, false, false, false, false] rfl rfl (take_ofW HT_.out HW_.out (by kernel_rfl)) (fun _ _ _ h => h) (Or.inl ⟨by rfl, ?_⟩) hHeld ?_ ?_
                  rotate_left
                  · rintro w' ⟨s0, s1, s2, s3⟩
                    go_simp
                    with_reducible rfl
                  rotate_left
                  · simp only [Act.put, List.setIfInBounds_toArray, List.set_cons_zero, List.set_cons_succ, i64_w, i32_w]
                    rfl
                  refine pure_ (i := 6) (N := some 102) (v := ?_) (a' := ?_) #[true, true, true, true, true, true, true, false, true, true, false, false, false, false, false, false, false, false, false, false, false, false, false, false, false, false] rfl rfl (any_of HT_.out (by kernel_rfl)) (fun _ _ _ h => h) (Or.inl ⟨by rfl, ?_⟩) ?_ ?_
                  rotate_left
                  · intro w'
                    go_simp
                    with_reducible rfl
                  rotate_left
                  · simp only [Act.put, List.setIfInBounds_toArray, List.set_cons_zero, List.set_cons_succ, i64_w, i32_w]
                    rfl
                  refine take_ (i := 7) (N := some 103) (v := ?_) (a' := ?_) #[true, true, true, true, true, true, true, true, true, true, false, false, false, false, false, false, false, false, false, false, false, false, false, false, false, false] rfl rfl (take_ofW HT_.out HW_.out (by kernel_rfl)) (fun _ _ _ h => h) (Or.inl ⟨by rfl, ?_⟩) hHeld ?_ ?_
                  rotate_left
                  · rintro w' ⟨s0, s1, s2, s3⟩
                    go_simp
                    with_reducible rfl
                  rotate_left
                  · simp only [Act.put, List.setIfInBounds_toArray, List.set_cons_zero, List.set_cons_succ, i64_w, i32_w]
                    rfl
                  refine one_ (i := 10) (N := some 106) #[true, true, true, true, true, true, true, true, true, true, true, false, false, false, false, false, false, false, false, false, false, false, false, false, false, false] rfl rfl (one_of HT_.out (by kernel_rfl)) (by decide) (fun K hK => ?_)
                  refine goes_ Try.func64 (by kernel_rfl) rfl #[.int .i64 ((k : Int)), .int .i64 (i : Int)] (by rfl) rfl rfl (by simp only [List.map_toArray, List.map_cons, List.map_nil]; rfl) ?_
                  with_reducible refine (stain_C ((k : Int)) (i : Int) _).mono ?_
                  rintro e w9 ⟨rfl, ⟨⟨mq, rfl⟩⟩⟩
                  refine ⟨_, rfl, ?_⟩
                  refine hK.out _ _ ⟨ck, cg, cl, cm⟩ (fun hHeld => ?_)
                  clear hK K
                  refine norm_ (a' := ?_) ?_ ?_
                  rotate_left
                  · show Act.put _ (some 106) _ = _
                    simp only [Act.put, List.setIfInBounds_toArray, List.set_cons_zero, List.set_cons_succ, i64_w, i32_w]
                    rfl
                  refine pure_ (i := 11) (N := some 107) (v := ?_) (a' := ?_) #[true, true, true, true, true, true, true, true, true, true, true, true, false, false, false, false, false, false, false, false, false, false, false, false, false, false] rfl rfl (any_of HT_.out (by kernel_rfl)) (fun _ _ _ h => h) (Or.inl ⟨by rfl, ?_⟩) ?_ ?_
                  rotate_left
                  · intro w'
                    go_simp
                    with_reducible rfl
                  rotate_left
                  · simp only [Act.put, List.setIfInBounds_toArray, List.set_cons_zero, List.set_cons_succ, i64_w, i32_w]
                    rfl
                  refine pure_ (i := 12) (N := some 108) (v := ?_) (a' := ?_) #[true, true, true, true, true, true, true, true, true, true, true, true, true, false, false, false, false, false, false, false, false, false, false, false, false, false] rfl rfl (any_of HT_.out (by kernel_rfl)) (fun _ _ _ h => h) (Or.inl ⟨by rfl, ?_⟩) ?_ ?_
                  rotate_left
                  · intro w'
                    go_simp
                    with_reducible rfl
                  rotate_left
                  · simp only [Act.put, List.setIfInBounds_toArray, List.set_cons_zero, List.set_cons_succ, i64_w, i32_w]
                    rfl
                  refine pure_ (i := 13) (N := some 109) (v := ?_) (a' := ?_) #[true, true, true, true, true, true, true, true, true, true, true, true, true, true, false, false, false, false, false, false, false, false, false, false, false, false] rfl rfl (any_of HT_.out (by kernel_rfl)) (fun _ _ _ h => h) (Or.inl ⟨by rfl, ?_⟩) ?_ ?_
                  rotate_left
                  · intro w'
                    go_simp
                    with_reducible rfl
                  rotate_left
                  · simp only [Act.put, List.setIfInBounds_toArray, List.set_cons_zero, List.set_cons_succ, i64_w, i32_w]
                    rfl
                  refine pure_ (i := 14) (N := some 110) (v := ?_) (a' := ?_) #[true, true, true, true, true, true, true, true, true, true, true, true, true, true, true, false, false, false, false, false, false, false, false, false, false, false] rfl rfl (any_of HT_.out (by kernel_rfl)) (fun _ _ _ h => h) (Or.inl ⟨by rfl, ?_⟩) ?_ ?_
                  rotate_left
                  · intro w'
                    go_simp
                    with_reducible rfl
                  rotate_left
                  · simp only [Act.put, List.setIfInBounds_toArray, List.set_cons_zero, List.set_cons_succ, i64_w, i32_w]
                    rfl
                  refine pure_ (i := 15) (N := some 111) (v := ?_) (a' := ?_) #[true, true, true, true, true, true, true, true, true, true, true, true, true, true, true, true, false, false, false, false, false, false, false, false, false, false] rfl rfl (any_of HT_.out (by kernel_rfl)) (fun _ _ _ h => h) (Or.inl ⟨by rfl, ?_⟩) ?_ ?_
                  rotate_left
                  · intro w'
                    go_simp
                    with_reducible rfl
                  rotate_left
                  · simp only [Act.put, List.setIfInBounds_toArray, List.set_cons_zero, List.set_cons_succ, i64_w, i32_w]
                    rfl
                  refine pure_ (i := 16) (N := some 112) (v := ?_) (a' := ?_) #[true, true, true, true, true, true, true, true, true, true, true, true, true, true, true, true, true, false, false, false, false, false, false, false, false, false] rfl rfl (any_of HT_.out (by kernel_rfl)) (fun _ _ _ h => h) (Or.inl ⟨by rfl, ?_⟩) ?_ ?_
                  rotate_left
                  · intro w'
                    go_simp
                    with_reducible rfl
                  rotate_left
                  · simp only [Act.put, List.setIfInBounds_toArray, List.set_cons_zero, List.set_cons_succ, i64_w, i32_w]
                    rfl
                  refine pure_ (i := 18) (N := some 114) (v := ?_) (a' := ?_) #[true, true, true, true, true, true, true, true, true, true, true, true, true, true, true, true, true, false, true, false, false, false, false, false, false, false] rfl rfl (any_of HT_.out (by kernel_rfl)) (fun _ _ _ h => h) (Or.inl ⟨by rfl, ?_⟩) ?_ ?_
                  rotate_left
                  · intro w'
                    go_simp
                    with_reducible rfl
                  rotate_left
                  · simp only [Act.put, List.setIfInBounds_toArray, List.set_cons_zero, List.set_cons_succ, i64_w, i32_w]
                    rfl
                  refine pure_ (i := 21) (N := some 117) (v := ?_) (a' := ?_) #[true, true, true, true, true, true, true, true, true, true, true, true, true, true, true, true, true, false, true, false, false, true, false, false, false, false] rfl rfl (any_of HT_.out (by kernel_rfl)) (fun _ _ _ h => h) (Or.inl ⟨by rfl, ?_⟩) ?_ ?_
                  rotate_left
                  · intro w'
                    go_simp
                    with_reducible rfl
                  rotate_left
                  · simp only [Act.put, List.setIfInBounds_toArray, List.set_cons_zero, List.set_cons_succ, i64_w, i32_w]
                    rfl
                  refine pure_ (i := 22) (N := some 118) (v := ?_) (a' := ?_) #[true, true, true, true, true, true, true, true, true, true, true, true, true, true, true, true, true, false, true, false, false, true, true, false, false, false] rfl rfl (any_of HT_.out (by kernel_rfl)) (fun _ _ _ h => h) (Or.inl ⟨by rfl, ?_⟩) ?_ ?_
                  rotate_left
                  · intro w'
                    go_simp
                    with_reducible rfl
                  rotate_left
                  · simp only [Act.put, List.setIfInBounds_toArray, List.set_cons_zero, List.set_cons_succ, i64_w, i32_w]
                    rfl
                  refine take_ (i := 17) (N := some 113) (v := ?_) (a' := ?_) #[true, true, true, true, true, true, true, true, true, true, true, true, true, true, true, true, true, true, true, false, false, true, true, false, false, false] rfl rfl (take_ofW HT_.out HW_.out (by kernel_rfl)) (fun _ _ _ h => h) (Or.inl ⟨by rfl, ?_⟩) hHeld ?_ ?_
                  rotate_left
                  · rintro w' ⟨s0, s1, s2, s3⟩
                    go_simp
                    with_reducible rfl
                  rotate_left
                  · simp only [Act.put, List.setIfInBounds_toArray, List.set_cons_zero, List.set_cons_succ, i64_w, i32_w]
                    rfl
                  refine pure_ (i := 19) (N := some 115) (v := ?_) (a' := ?_) #[true, true, true, true, true, true, true, true, true, true, true, true, true, true, true, true, true, true, true, true, false, true, true, false, false, false] rfl rfl (any_of HT_.out (by kernel_rfl)) (fun _ _ _ h => h) (Or.inl ⟨by rfl, ?_⟩) ?_ ?_
                  rotate_left
                  · intro w'
                    go_simp
                    with_reducible rfl
                  rotate_left
                  · simp only [Act.put, List.setIfInBounds_toArray, List.set_cons_zero, List.set_cons_succ, i64_w, i32_w]
                    rfl
                  refine take_ (i := 20) (N := some 116) (v := ?_) (a' := ?_) #[true, true, true, true, true, true, true, true, true, true, true, true, true, true, true, true, true, true, true, true, true, true, true, false, false, false] rfl rfl (take_ofW HT_.out HW_.out (by kernel_rfl)) (fun _ _ _ h => h) (Or.inl ⟨by rfl, ?_⟩) hHeld ?_ ?_
                  rotate_left
                  · rintro w' ⟨s0, s1, s2, s3⟩
                    go_simp
                    with_reducible rfl
                  rotate_left
                  · simp only [Act.put, List.setIfInBounds_toArray, List.set_cons_zero, List.set_cons_succ, i64_w, i32_w]
                    rfl
                  refine one_ (i := 23) (N := some 119) #[true, true, true, true, true, true, true, true, true, true, true, true, true, true, true, true, true, true, true, true, true, true, true, true, false, false] rfl rfl (one_of HT_.out (by kernel_rfl)) (by decide) (fun K hK => ?_)
                  refine goes_ Try.func64 (by kernel_rfl) rfl #[.int .i64 ((k : Int)), .int .i64 (i : Int)] (by rfl) rfl rfl (by simp only [List.map_toArray, List.map_cons, List.map_nil]; rfl) ?_
                  with_reducible refine (stain_C ((k : Int)) (i : Int) _).mono ?_
                  rintro e w9 ⟨rfl, ⟨⟨mr, rfl⟩⟩⟩
                  refine ⟨_, rfl, ?_⟩
                  refine hK.out _ _ ⟨ck, cg, cl, cm⟩ (fun hHeld => ?_)
                  clear hK K
                  refine norm_ (a' := ?_) ?_ ?_
                  rotate_left
                  · show Act.put _ (some 119) _ = _
                    simp only [Act.put, List.setIfInBounds_toArray, List.set_cons_zero, List.set_cons_succ, i64_w, i32_w]
                    rfl
                  refine pure_ (i := 24) (N := some 120) (v := ?_) (a' := ?_) #[true, true, true, true, true, true, true, true, true, true, true, true, true, true, true, true, true, true, true, true, true, true, true, true, true, false] rfl rfl (any_of HT_.out (by kernel_rfl)) (fun _ _ _ h => h) (Or.inl ⟨by rfl, ?_⟩) ?_ ?_
                  rotate_left
                  · intro w'
                    go_simp
                    with_reducible rfl
                  rotate_left
                  · simp only [Act.put, List.setIfInBounds_toArray, List.set_cons_zero, List.set_cons_succ, i64_w, i32_w]
                    rfl
                  refine pure_ (i := 25) (N := some 121) (v := ?_) (a' := ?_) #[true, true, true, true, true, true, true, true, true, true, true, true, true, true, true, true, true, true, true, true, true, true, true, true, true, true] rfl rfl (any_of HT_.out (by kernel_rfl)) (fun _ _ _ h => h) (Or.inl ⟨by rfl, ?_⟩) ?_ ?_
                  rotate_left
                  · intro w'
                    go_simp
                    with_reducible rfl
                  rotate_left
                  · simp only [Act.put, List.setIfInBounds_toArray, List.set_cons_zero, List.set_cons_succ, i64_w, i32_w]
                    rfl
                  refine done_ (done_of HT_.out (by kernel_rfl)) ?_
                  have HF9 := Aside0.mk (show Frm wt ((wr.drew.drewN mq).drewN mr) (fun _ => False) from ((HFI.out.drew).drewN mq).drewN mr)
                  obtain ⟨w9, hw9⟩ : ∃ w9, w9 = (wr.drew.drewN mq).drewN mr := ⟨_, rfl⟩
                  rw [← hw9] at HF9 ⊢
                  clear hw9 ck cg cl cm
                  go_wp2
                  go_roundw
                  case rel => exact ⟨i + 1, by omega, rfl, by go_num, HF9⟩
                  case measure => simp [intOf]; omega
                · have hd3 : decide (i < n5) = false := decide_eq_false hin
                  have hd4 : decide ((i : Int) < (n5 : Int)) = false := decide_eq_false (by omega)
                  have HF0 := HFI
                  go_wp2
                  clear hd3 hd4
                  go_loopw [4, 15] (fun v4 v15 wr => ∃ i : Nat, i ≤ 96 ∧ v4 = .bool false ∧ v15 = .int .i64 (i : Int) ∧ Aside0 (Frm wt wr (fun _ => False))) (fun _ v15 _ => 96 + 1 - (intOf v15).toNat)
                  case atStart => exact ⟨0, Nat.zero_le _, rfl, rfl, HF0⟩
                  case round =>
                    clear hi hin
                    obtain ⟨i, hi, rfl, rfl, HFI⟩ := hrel
                    by_cases hin : i < 96
                    · have hd3 : decide (i < 96) = true := decide_eq_true hin
                      have hd4 : decide ((i : Int) < 96) = true := decide_eq_true (by omega)
                      obtain ⟨g7, c8, cur7, hrow7, _, _, _, _⟩ := own_some HX7.out (by have := HL7.out; omega)
                      injection hrow7 with hA7 _ hc8
                      obtain rfl := hA7
                      clear hc8
                      obtain ⟨NI, hNI⟩ : ∃ NI, NI = n5 + i := ⟨_, rfl⟩
                      have hsum : (n5 : Int) + (i : Int) = (NI : Int) := by omega
                      have hNI7 : NI < L7 := by have := HL7.out; omega
                      have hNI4 : NI ≤ 40096 := by omega
                      have hd5 : decide (NI < L7) = true := decide_eq_true hNI7
                      have cg : wr.cell? ⟨gb, k * 3 + 2, none⟩ = some (.slice (some ⟨g7, 0, none⟩) L7 c7) := Frm.cell_ HFI.out HCG.out
                      have cm : wr.cell? ⟨g7, NI, none⟩ = some (g2 k) := Frm.cell_ HFI.out (own_cell HX7.out (by rw [List.getElem?_append_right (by rw [stl_len]; omega), stl_len, List.getElem?_replicate]; rw [if_pos (by omega)]))
                      have cm2 : wr.cell? ⟨g7, NI, none⟩ = some (.int .u8 (242 + (k : Int) % 13)) := cm
                      clear cm hNI
                      go_wp2
                      go_roundw
                      case rel => exact ⟨i + 1, by omega, rfl, by go_num, HFI⟩
                      case measure => simp [intOf]; omega
                    · have hd3 : decide (i < 96) = false := decide_eq_false hin
                      have hd4 : decide ((i : Int) < 96) = false := decide_eq_false (by omega)
                      go_wp2
                      go_roundw
                      case rel => exact ⟨K1, by have := HK1.out; omega, rfl, by go_num, HFI⟩
                      case measure => have := HK1.out; simp [intOf]; omega
            · have hd1 : decide (k < N) = false := decide_eq_false hlt
              have hd2 : decide ((k : Int) < (N : Int)) = false := decide_eq_false (by omega)
              go_wp2
              go_ret
              have hst : ∀ q, q < wt.heap.size → wr.heap[q]? = wt.heap[q]? := fun q hq => HFR.out.block q hq (fun h => h)
              refine ⟨rfl, X1, own_step HX1.out.1 (fun q hq => hst q (HX1.out.1.lt q hq).2), HX1.out.2, fun j v hj => ?_, HFT.out.then_ HFR.out (fun q hq _ => hq.elim)⟩
              obtain ⟨v', _, n5, hn5, hX0, _, _⟩ := HGT.out j v hj
              exact ⟨n5, _, hn5, own_step hX0 (fun q hq => hst q (hX0.lt q hq).2)⟩
end Go.Proofs.Ytnanaojjhmpilaa.PW
namespace Go.Proofs.Ytnanaojjhmpilaa.PW
open Go.RowKit Go.Proofs.YtnanaojjhmpilaaW.PrintWords Go.Proofs.YtnanaojjhmpilaaW.PrintLast Go.Proofs.YtnanaojjhmpilaaW.PrintMore
set_option linter.unusedVariables false
set_option linter.unusedSimpArgs false
-- the tables are Q3's: --RGTAB 49 10 --RGTAB 49 30

def nn1 (j : Nat) : Int := (j : Int) / 241
set_option maxHeartbeats 64000000 in
set_option maxRecDepth 100000 in
theorem stained1_C {W : World} {base gb N cb : Nat} {X ls : List Value} (hX : W.ownsRow base 74 3 (.slice (some ⟨gb, 0, none⟩) N cb) N X) (hl : ∀ (j : Nat) (v : Value), ls[j]? = some v → X[j * 3]? = some v) (hN : ls.length = N) (hN4 : N ≤ 4000) (hr : ∀ (j : Nat) (v : Value), ls[j]? = some v → Raw8 W base v) (hd : Dist ls) (hbase : base ≤ W.heap.size) :
    Calls Try.prog 49 #[.slice (some ⟨gb, 0, none⟩) N cb, .int .i64 1] W fun r w' => r = .returned (.bool true) ∧ ∃ X', w'.ownsRow base 74 3 (.slice (some ⟨gb, 0, none⟩) N cb) N X' ∧ SameLW X X' ∧ (∀ (j : Nat) (v : Value), ls[j]? = some v → Raw8 w' base v) ∧ Frm W w' (fun q => q = gb ∨ blocks ls q) := by
  have HX := Aside0.mk hX
  have HL := Aside0.mk hl
  have HN := Aside0.mk hN
  have HR := Aside0.mk hr
  have HD := Aside0.mk hd
  have HBS := Aside0.mk hbase
  have HT := Aside0.mk (show ∀ q, blocks ls q → typed W 5 q from fun q ⟨j, v, hj, hq⟩ => (hr j v hj).type q hq)
  have HTG := Aside0.mk (show typed W 74 gb from own_type hX gb rfl)
  clear hX hl hN hr hd hbase
  go_enter Try.func49, Try.ntmps49
  go_wp2
  go_loopw [5, 6, 7] (fun v5 v6 v7 wr => ∃ k : Nat, k ≤ N ∧ v5 = .int .i64 (k : Int) ∧ Aside0 (Frm W wr (blocks ls)) ∧ Aside0 (∀ (j : Nat) (v : Value), ls[j]? = some v → j < k → Mk8 wr base nn1 j v) ∧ Aside0 (∀ (j : Nat) (v : Value), ls[j]? = some v → k ≤ j → Raw8 wr base v)) (fun v5 _ _ _ => N + 1 - (intOf v5).toNat)
  case atStart => exact ⟨0, Nat.zero_le _, rfl, ⟨Frm.refl _ _⟩, ⟨fun j v _ h => absurd h (Nat.not_lt_zero _)⟩, ⟨fun j v hj _ => HR.out j v hj⟩⟩
  case round =>
    obtain ⟨k, hk, rfl, HFR, HMK, HRW⟩ := hrel
    by_cases hlt : k < N
    · have hd1 : decide (k < N) = true := decide_eq_true hlt
      have hd2 : decide ((k : Int) < (N : Int)) = true := decide_eq_true (by omega)
      have hkv : k < ls.length := by rw [HN.out]; exact hlt
      obtain ⟨v, hv⟩ : ∃ v, ls[k]? = some v := ⟨_, List.getElem?_eq_getElem hkv⟩
      have hrow := own_step HX.out (fun q hq => keep_type HFR.out HT.out (t' := 74) (by decide) (own_type HX.out q hq))
      obtain ⟨n5, X0, hn5, hX0⟩ := HRW.out k v hv (Nat.le_refl _)
      obtain ⟨A5, c5, rfl, hc5⟩ := own_form hX0
      have ck : wr.cell? ⟨gb, k * 3, none⟩ = some (.slice A5 n5 c5) := own_cell hrow (HL.out k _ hv)
      obtain ⟨wk, hwk⟩ : ∃ wk, wk = wr := ⟨_, rfl⟩
      obtain ⟨nk, hnk⟩ : ∃ nk, nn1 k = nk := ⟨_, rfl⟩
      have HNK := Aside0.mk hnk
      have HV := Aside0.mk hv
      have HX0 := Aside0.mk hX0
      have HROW := Aside0.mk hrow
      rw [← hwk] at HFR HMK HRW HX0 HROW
      have HX1 := Aside0.mk (show ∃ Y, Y.length = (n5 - 0) * 1 ∧ wr.ownsRow base 5 1 (.slice A5 n5 c5) n5 (stl nk 0 ++ Y) from ⟨X0, by rw [Nat.sub_zero]; exact hX0.1, hX0⟩)
      have HF1 := Aside0.mk (show Frm wk wr (fun q => (Value.slice A5 n5 c5).ownBlock = some q) by rw [hwk]; exact Frm.refl _ _)
      obtain ⟨K1, hK1⟩ : ∃ K1, K1 = k + 1 := ⟨_, rfl⟩
      have hkk1 : (k : Int) + 1 = (K1 : Int) := by omega
      have hkb : K1 ≤ 4001 := by omega
      have HK1 := Aside0.mk hK1
      clear hkv hv hrow hX0 hc5 hwk hK1 hnk
      go_wp2
      rw [show (k : Int) / 241 = nk from HNK.out]
      go_loopw [7] (fun v7 wr => ∃ i : Nat, i ≤ n5 ∧ v7 = .int .i64 (i : Int) ∧ Aside0 (Frm wk wr (fun q => (Value.slice A5 n5 c5).ownBlock = some q)) ∧ Aside0 (∃ Y, Y.length = (n5 - i) * 1 ∧ wr.ownsRow base 5 1 (.slice A5 n5 c5) n5 (stl nk i ++ Y))) (fun v7 _ => n5 + 1 - (intOf v7).toNat)
      case atStart => exact ⟨0, Nat.zero_le _, rfl, HF1, HX1⟩
      case round =>
        obtain ⟨i, hi, rfl, HFI, HXI⟩ := hrel
        have hT5 : ∀ q, (Value.slice A5 n5 c5).ownBlock = some q → typed wk 5 q := fun q hq => own_type HX0.out q hq
        have HT5 := Aside0.mk hT5
        have hrowi := own_step HROW.out (fun q hq => keep_type HFI.out HT5.out (t' := 74) (by decide) (own_type HROW.out q hq))
        have ck : wr.cell? ⟨gb, k * 3, none⟩ = some (.slice A5 n5 c5) := own_cell hrowi (HL.out k _ HV.out)
        clear hrowi hT5
        by_cases hin : i < n5
        · have hd3 : decide (i < n5) = true := decide_eq_true hin
          have hd4 : decide ((i : Int) < (n5 : Int)) = true := decide_eq_true (by omega)
          obtain ⟨Y, hYl, hY⟩ := HXI.out
          obtain ⟨g5, c6, cur5, hrow5, _, _, hb5, hsz5⟩ := own_some hY (by omega)
          injection hrow5 with hA5 _ hc6
          obtain rfl := hA5
          clear hc6
          have HY := Aside0.mk (And.intro hYl hY)
          have HB5 := Aside0.mk (And.intro hb5 hsz5)
          have ckd : wr.drew.cell? ⟨gb, k * 3, none⟩ = some (.slice (some ⟨g5, 0, none⟩) n5 c5) := ck
          have hce : ∃ u5, wr.cell? ⟨g5, i, none⟩ = some u5 := by
            obtain ⟨u5, h5⟩ : ∃ u5, Y[0]? = some u5 := ⟨_, List.getElem?_eq_getElem (by rw [hYl]; omega)⟩
            exact ⟨u5, own_cell hY (by rw [List.getElem?_append_right (by rw [stl_len]; exact Nat.le_refl _), stl_len, Nat.sub_self]; exact h5)⟩
          obtain ⟨u5, hce⟩ := hce
          have hfe : wr.frozen? ⟨g5, i, none⟩ = false := blk_frozen hb5 i
          clear hYl hY hb5 hsz5
          go_wp2
          refine start_ (n := 11) (S := fun w' => w'.cell? ⟨gb, k * 3, none⟩ = some (.slice (some ⟨g5, 0, none⟩) n5 c5)) (ds := [10]) #[false, false, false, false, false, false, false, false, false, false, false] (by kernel_rfl) rfl rfl (ckd) (fun hHeld => ?_)
          refine with_tabW rg49.tab10 rg49.bits10 (fun HT_ HW_ => ?_)
          refine pure_ (i := 0) (N := some 37) (v := ?_) (a' := ?_) #[true, false, false, false, false, false, false, false, false, false, false] rfl rfl (any_of HT_.out (by kernel_rfl)) (fun _ _ _ h => h) (Or.inl ⟨by rfl, ?_⟩) ?_ ?_
          rotate_left
          · intro w'
            go_simp
            with_reducible rfl
          rotate_left
          · simp only [Act.put, List.setIfInBounds_toArray, List.set_cons_zero, List.set_cons_succ, i64_w, i32_w]
            rfl
          refine pure_ (i := 1) (N := some 38) (v := ?_) (a' := ?_) #[true, true, false, false, false, false, false, false, false, false, false] rfl rfl (any_of HT_.out (by kernel_rfl)) (fun _ _ _ h => h) (Or.inl ⟨by rfl, ?_⟩) ?_ ?_
          rotate_left
          · intro w'
            go_simp
            with_reducible rfl
          rotate_left
          · simp only [Act.put, List.setIfInBounds_toArray, List.set_cons_zero, List.set_cons_succ, i64_w, i32_w]
            rfl
          refine pure_ (i := 2) (N := some 39) (v := ?_) (a' := ?_) #[true, true, true, false, false, false, false, false, false, false, false] rfl rfl (any_of HT_.out (by kernel_rfl)) (fun _ _ _ h => h) (Or.inl ⟨by rfl, ?_⟩) ?_ ?_
          rotate_left
          · intro w'
            go_simp
            with_reducible rfl
          rotate_left
          · simp only [Act.put, List.setIfInBounds_toArray, List.set_cons_zero, List.set_cons_succ, i64_w, i32_w]
            rfl
          refine pure_ (i := 3) (N := some 40) (v := ?_) (a' := ?_) #[true, true, true, true, false, false, false, false, false, false, false] rfl rfl (any_of HT_.out (by kernel_rfl)) (fun _ _ _ h => h) (Or.inl ⟨by rfl, ?_⟩) ?_ ?_
          rotate_left
          · intro w'
            go_simp
            with_reducible rfl
          rotate_left
          · simp only [Act.put, List.setIfInBounds_toArray, List.set_cons_zero, List.set_cons_succ, i64_w, i32_w]
            rfl
          refine pure_ (i := 5) (N := some 42) (v := ?_) (a' := ?_) #[true, true, true, true, false, true, false, false, false, false, false] rfl rfl (any_of HT_.out (by kernel_rfl)) (fun _ _ _ h => h) (Or.inl ⟨by rfl, ?_⟩) ?_ ?_
          rotate_left
          · intro w'
            go_simp
            with_reducible rfl
          rotate_left
          · simp only [Act.put, List.setIfInBounds_toArray, List.set_cons_zero, List.set_cons_succ, i64_w, i32_w]
            rfl
          refine pure_ (i := 6) (N := some 43) (v := ?_) (a' := ?_) #[true, true, true, true, false, true, true, false, false, false, false] rfl rfl (any_of HT_.out (by kernel_rfl)) (fun _ _ _ h => h) (Or.inl ⟨by rfl, ?_⟩) ?_ ?_
          rotate_left
          · intro w'
            go_simp
            with_reducible rfl
          rotate_left
          · simp only [Act.put, List.setIfInBounds_toArray, List.set_cons_zero, List.set_cons_succ, i64_w, i32_w]
            rfl
          refine pure_ (i := 7) (N := some 44) (v := ?_) (a' := ?_) #[true, true, true, true, false, true, true, true, false, false, false] rfl rfl (any_of HT_.out (by kernel_rfl)) (fun _ _ _ h => h) (Or.inl ⟨by rfl, ?_⟩) ?_ ?_
          rotate_left
          · intro w'
            go_simp
            with_reducible rfl
          rotate_left
          · simp only [Act.put, List.setIfInBounds_toArray, List.set_cons_zero, List.set_cons_succ, i64_w, i32_w]
            rfl
          refine take_ (i := 4) (N := some 41) (v := ?_) (a' := ?_) #[true, true, true, true, true, true, true, true, false, false, false] rfl rfl (take_ofW HT_.out HW_.out (by kernel_rfl)) (fun _ _ _ h => h) (Or.inl ⟨by rfl, ?_⟩) hHeld ?_ ?_
          rotate_left
          · intro w' s0
            go_simp
            with_reducible rfl
          rotate_left
          · simp only [Act.put, List.setIfInBounds_toArray, List.set_cons_zero, List.set_cons_succ, i64_w, i32_w]
            rfl
          refine one_ (i := 8) (N := some 45) #[true, true, true, true, true, true, true, true, true, false, false] rfl rfl (one_of HT_.out (by kernel_rfl)) (by decide) (fun K hK => ?_)
          refine goes_ Try.func64 (by kernel_rfl) rfl #[.int .i64 nk, .int .i64 (i : Int)] (by rfl) rfl rfl (by simp only [List.map_toArray, List.map_cons, List.map_nil]; rfl) ?_
          with_reducible refine (stain_C nk (i : Int) _).mono ?_
          rintro e w9 ⟨rfl, ⟨⟨mq, rfl⟩⟩⟩
          refine ⟨_, rfl, ?_⟩
          refine hK.out _ _ (ckd) (fun hHeld => ?_)
          clear hK K
          refine norm_ (a' := ?_) ?_ ?_
          rotate_left
          · show Act.put _ (some 45) _ = _
            simp only [Act.put, List.setIfInBounds_toArray, List.set_cons_zero, List.set_cons_succ, i64_w, i32_w]
            rfl
          refine pure_ (i := 9) (N := some 46) (v := ?_) (a' := ?_) #[true, true, true, true, true, true, true, true, true, true, false] rfl rfl (any_of HT_.out (by kernel_rfl)) (fun _ _ _ h => h) (Or.inl ⟨by rfl, ?_⟩) ?_ ?_
          rotate_left
          · intro w'
            go_simp
            with_reducible rfl
          rotate_left
          · simp only [Act.put, List.setIfInBounds_toArray, List.set_cons_zero, List.set_cons_succ, i64_w, i32_w]
            rfl
          refine last_ (i := 10) (N := none) #[true, true, true, true, true, true, true, true, true, true, true] rfl rfl (one_of HT_.out (by kernel_rfl)) (by decide) (fun K hK => ?_)
          refine skip_ (w1 := ?_) (by rfl) rfl ?_ ?_
          rotate_left
          · go_simp
            rfl
          refine hK.out _ _ ?_
          clear hK K
          refine done_ (done_of HT_.out (by kernel_rfl)) ?_
          obtain ⟨w8, hw8⟩ : ∃ w8, w8 = (wr.drewN (1 + mq)).setCell ⟨g5, i, none⟩ (.int .u8 (stv nk (i : Int))) := ⟨_, rfl⟩
          have hput := own_set (W := wr.drewN (1 + mq)) (show (wr.drewN (1 + mq)).ownsRow base 5 1 (.slice (some ⟨g5, 0, none⟩) n5 c5) n5 (stl nk i ++ Y) from HY.out.2) (i := i) (by rw [List.length_append, stl_len, HY.out.1]; omega) (.int .u8 (stv nk (i : Int)))
          rw [stl_set nk (by rw [HY.out.1]; omega)] at hput
          have HPUT := Aside0.mk (show ∃ Z, Z.length = (n5 - (i + 1)) * 1 ∧ w8.ownsRow base 5 1 (.slice (some ⟨g5, 0, none⟩) n5 c5) n5 (stl nk (i + 1) ++ Z) from ⟨Y.drop 1, by rw [List.length_drop, HY.out.1]; omega, by rw [hw8]; exact hput⟩)
          have HF7 := Aside0.mk (show Frm wk w8 (fun q => (Value.slice (some ⟨g5, 0, none⟩) n5 c5).ownBlock = some q) by rw [hw8]; exact Frm.set_ (p := ⟨g5, i, none⟩) (HFI.out.drewN (1 + mq)) (.inl rfl) _)
          rw [← hw8]
          clear hput ck ckd hw8 hce hfe
          go_wp2
          go_roundw
          case rel => exact ⟨i + 1, by omega, by go_num, HF7, HPUT⟩
          case measure => simp [intOf]; omega
        · have hd3 : decide (i < n5) = false := decide_eq_false hin
          have hd4 : decide ((i : Int) < (n5 : Int)) = false := decide_eq_false (by omega)
          have hii : i = n5 := by omega
          obtain rfl := hii
          have hmk : Mk8 wr base nn1 k (.slice A5 i c5) := by
            obtain ⟨Y, hYl, hY⟩ := HXI.out
            rw [Nat.sub_self, Nat.zero_mul] at hYl
            obtain rfl := List.eq_nil_of_length_eq_zero hYl
            rw [List.append_nil] at hY
            exact ⟨i, hn5, by rw [HNK.out]; exact hY⟩
          have hother : ∀ (j : Nat) (u : Value), ls[j]? = some u → j ≠ k → ∀ q, u.ownBlock = some q → q < wk.heap.size → wr.heap[q]? = wk.heap[q]? := fun j u hj hne q hq hlt => HFI.out.block q hlt (fun h => HD.out k j _ u HV.out hj (fun e => hne e.symm) q h hq)
          have HMK2 := Aside0.mk (show ∀ (j : Nat) (u : Value), ls[j]? = some u → j < K1 → Mk8 wr base nn1 j u from fun j u hj hlt2 => by
            by_cases hjk : j = k
            · subst hjk
              rw [HV.out] at hj
              cases hj
              exact hmk
            · have := HMK.out j u hj (by have := HK1.out; omega)
              exact this.step (fun q hq => hother j u hj hjk q hq (this.lt q hq).2))
          have HRW2 := Aside0.mk (show ∀ (j : Nat) (u : Value), ls[j]? = some u → K1 ≤ j → Raw8 wr base u from fun j u hj hle => by
            have := HRW.out j u hj (by have := HK1.out; omega)
            exact this.step (fun q hq => hother j u hj (by have := HK1.out; omega) q hq (this.lt q hq).2))
          have HFR2 := Aside0.mk (HFR.out.then_ HFI.out (fun q hq _ => ⟨k, _, HV.out, hq⟩))
          clear hmk hother
          go_wp2
          go_roundw
          case rel => exact ⟨K1, by have := HK1.out; omega, by go_num, HFR2, HMK2, HRW2⟩
          case measure => have := HK1.out; simp [intOf]; omega
    · have hd1 : decide (k < N) = false := decide_eq_false hlt
      have hd2 : decide ((k : Int) < (N : Int)) = false := decide_eq_false (by omega)
      have HXM := Aside0.mk (own_step HX.out (fun q hq => keep_type HFR.out HT.out (t' := 74) (by decide) (own_type HX.out q hq)))
      have HMM := Aside0.mk (show ∀ (j : Nat) (v : Value), ls[j]? = some v → Mk8 wr base nn1 j v from fun j v hj => HMK.out j v hj (by have := (List.getElem?_eq_some_iff.1 hj).1; have := HN.out; omega))
      have HFW := Aside0.mk HFR.out
      obtain ⟨wm, hwm⟩ : ∃ wm, wm = wr := ⟨_, rfl⟩
      rw [← hwm] at HXM HMM HFW ⊢
      clear hwm HFR HMK HRW
      go_wp2
      clear hd1 hd2 hlt
      go_loopw [8, 9, 10] (fun v8 v9 v10 wr => ∃ (k : Nat) (X1 : List Value), k ≤ N ∧ v8 = .int .i64 (k : Int) ∧ Aside0 (wr.ownsRow base 74 3 (.slice (some ⟨gb, 0, none⟩) N cb) N X1 ∧ SameLW X X1) ∧ Aside0 (∀ (j : Nat) (v : Value), ls[j]? = some v → j < k → ∃ v', X1[j * 3 + 2]? = some v' ∧ Grown8 wr base wm.heap.size nn1 j v v') ∧ Aside0 (∀ (j : Nat) (v : Value), ls[j]? = some v → k ≤ j → Mk8 wr base nn1 j v) ∧ Aside0 (Frm wm wr (fun q => q = gb ∨ blocks ls q))) (fun v8 _ _ _ => N + 1 - (intOf v8).toNat)
      case atStart => exact ⟨0, X, Nat.zero_le _, rfl, ⟨HXM.out, SameLW.refl _⟩, ⟨fun j v _ h => absurd h (Nat.not_lt_zero _)⟩, ⟨fun j v hj _ => HMM.out j v hj⟩, ⟨Frm.refl _ _⟩⟩
      case round =>
        clear hk
        obtain ⟨k, X1, hk, rfl, HX1, HGR, HMK, HFR⟩ := hrel
        by_cases hlt : k < N
        · have hd1 : decide (k < N) = true := decide_eq_true hlt
          have hd2 : decide ((k : Int) < (N : Int)) = true := decide_eq_true (by omega)
          have hkv : k < ls.length := by rw [HN.out]; exact hlt
          obtain ⟨v, hv⟩ : ∃ v, ls[k]? = some v := ⟨_, List.getElem?_eq_getElem hkv⟩
          obtain ⟨n5, hn5, hX0⟩ := HMK.out k v hv (Nat.le_refl _)
          obtain ⟨A5, c5, rfl, hc5⟩ := own_form hX0
          have ck : wr.cell? ⟨gb, k * 3, none⟩ = some (.slice A5 n5 c5) := own_cell HX1.out.1 (((HX1.out.2.2 k).1).trans (HL.out k _ hv))
          obtain ⟨wk, hwk⟩ : ∃ wk, wk = wr := ⟨_, rfl⟩
          have HV := Aside0.mk hv
          have HX0 := Aside0.mk hX0
          have HE1 := Aside0.mk hX0
          have HE2 := Aside0.mk (show wr.ownsRow base 5 1 (.slice A5 n5 c5) (n5 + 0) (stl (nn1 k) n5 ++ List.replicate 0 (g2 k)) by rw [List.replicate_zero, List.append_nil]; exact hX0)
          rw [← hwk] at HX1 HGR HMK HFR HX0
          have HF1 := Aside0.mk (show Frm wk wr (fun q => (Value.slice A5 n5 c5).ownBlock = some q) by rw [hwk]; exact Frm.refl _ _)
          obtain ⟨K1, hK1⟩ : ∃ K1, K1 = k + 1 := ⟨_, rfl⟩
          have hkk1 : (k : Int) + 1 = (K1 : Int) := by omega
          have hkb : K1 ≤ 4001 := by omega
          have HK1 := Aside0.mk hK1
          clear hkv hv hX0 hc5 hwk hK1
          go_wp2
          clear ck
          go_loopw [9, 10] (fun v9 v10 wr => ∃ (i : Nat) (gv : Value), i ≤ 96 ∧ gv = v9 ∧ v10 = .int .i64 (i : Int) ∧ Aside0 (Frm wk wr (fun q => (Value.slice A5 n5 c5).ownBlock = some q)) ∧ Aside0 (wr.ownsRow base 5 1 (.slice A5 n5 c5) n5 (stl (nn1 k) n5)) ∧ Aside0 (wr.ownsRow base 5 1 gv (n5 + i) (stl (nn1 k) n5 ++ List.replicate i (g2 k))) ∧ Aside0 (∀ q, gv.ownBlock = some q → (Value.slice A5 n5 c5).ownBlock = some q ∨ wk.heap.size ≤ q)) (fun _ v10 _ => 96 + 1 - (intOf v10).toNat)
          case atStart => exact ⟨0, _, Nat.zero_le _, rfl, rfl, HF1, HE1, HE2, ⟨fun q hq => .inl hq⟩⟩
          case round =>
            obtain ⟨i, gv, hi, rfl, rfl, HFI, HXE, HXG, HGB⟩ := hrel
            by_cases hin : i < 96
            · have hd3 : decide (i < 96) = true := decide_eq_true hin
              have hd4 : decide ((i : Int) < 96) = true := decide_eq_true (by omega)
              go_wp2_with (with_reducible refine stop_append rfl ?_)
              refine own_append (W := wr) base rfl (.tmp 62) (.tmp 67) 22 5 (.int .u8 0) 1 1 rfl Try.underlying22 info5' rfl (by decide) (by decide) gv (n5 + i) (stl (nn1 k) n5 ++ List.replicate i (g2 k)) [g2 k] rfl rfl rfl (by simp [g2, Value.oneCell']) HXG.out (by have := HBS.out; have := HFW.out.size; have := HFR.out.size; have := HFI.out.size; omega) (by omega) ?_
              intro g1 w6 ho6 hg6 hat6
              rw [List.append_assoc, ← List.replicate_succ'] at ho6
              have hE6 := keep_elder (Y := List.replicate i (g2 k)) (Z := List.replicate (i + 1) (g2 k)) (m1 := n5 + i + 1) (by decide) HXE.out HXG.out ho6 (by omega) hg6 (hat6.imp (fun h => h) (fun h => h.2))
              have HXE3 := Aside0.mk hE6
              have HXG3 := Aside0.mk (show w6.ownsRow base 5 1 g1 (n5 + (i + 1)) (stl (nn1 k) n5 ++ List.replicate (i + 1) (g2 k)) from ho6)
              have HFI3 := Aside0.mk (HFI.out.then_ (Frm.of_grown hg6 (S := fun q => gv.ownBlock = some q) (fun q hq => hq)) (fun q hq hlt => (HGB.out q hq).elim (fun h => h) (fun h => by omega)))
              have HGB3 := Aside0.mk (show ∀ q, g1.ownBlock = some q → (Value.slice A5 n5 c5).ownBlock = some q ∨ wk.heap.size ≤ q from fun q hq => by
                rcases hat6 with ⟨b, cap, rfl, rfl⟩ | ⟨⟨b, hb, hlb⟩, _⟩
                · exact HGB.out q hq
                · rw [hb] at hq
                  cases hq
                  exact .inr (Nat.le_trans HFI.out.size hlb))
              clear ho6 hg6 hat6 hE6 HXE HXG HFI HGB
              go_wp2
              go_roundw
              case rel => exact ⟨i + 1, g1, by omega, rfl, by go_num, HFI3, HXE3, HXG3, HGB3⟩
              case measure => simp [intOf]; omega
            · have hd3 : decide (i < 96) = false := decide_eq_false hin
              have hd4 : decide ((i : Int) < 96) = false := decide_eq_false (by omega)
              obtain rfl : i = 96 := by omega
              have HT5 := Aside0.mk (show ∀ q, (Value.slice A5 n5 c5).ownBlock = some q → typed wk 5 q from fun q hq => own_type HX0.out q hq)
              have hrow := own_step HX1.out.1 (fun q hq => keep_type HFI.out HT5.out (t' := 74) (by decide) (own_type HX1.out.1 q hq))
              have hXl : X1.length = N * 3 := hrow.1
              obtain ⟨u0, hu0⟩ : ∃ u0, X1[k * 3 + 2]? = some u0 := ⟨_, List.getElem?_eq_getElem (by omega)⟩
              have ck : wr.cell? ⟨gb, k * 3 + 2, none⟩ = some u0 := own_cell hrow hu0
              obtain ⟨cells, hbk⟩ := own_type hrow gb rfl
              have fk : wr.frozen? ⟨gb, k * 3 + 2, none⟩ = false := blk_frozen hbk (k * 3 + 2)
              have HROW := Aside0.mk hrow
              have HXL := Aside0.mk hXl
              obtain ⟨A7, c7, rfl, hc7⟩ := own_form HXG.out
              obtain ⟨L7, hL7⟩ : ∃ L7, L7 = n5 + 96 := ⟨_, rfl⟩
              have HL7 := Aside0.mk hL7
              rw [← hL7] at HXG HGB ⊢
              clear hrow hXl hu0 hbk hc7 hL7
              go_wp2
              obtain ⟨w7, hw7⟩ : ∃ w7, w7 = wr.setCell ⟨gb, k * 3 + 2, none⟩ (.slice A7 L7 c7) := ⟨_, rfl⟩
              have HROW7 := Aside0.mk (show w7.ownsRow base 74 3 (.slice (some ⟨gb, 0, none⟩) N cb) N (X1.set (k * 3 + 2) (.slice A7 L7 c7)) by rw [hw7]; exact own_set HROW.out (by have := HXL.out; omega) _)
              have HF7 := Aside0.mk (show Frm wr w7 (fun q => q = gb) by rw [hw7]; exact Frm.set_ (S := fun q => q = gb) (p := ⟨gb, k * 3 + 2, none⟩) (Frm.refl _ _) (.inl rfl) _)
              rw [← hw7]
              clear hw7 ck fk
              have hgb : ∀ q, typed wr 5 q → w7.heap[q]? = wr.heap[q]? := fun q hq => by
                obtain ⟨cs, hcs⟩ := hq
                exact HF7.out.block q (blk_lt hcs) (fun e => absurd (typed_ne ⟨cs, hcs⟩ (e ▸ own_type HROW.out gb rfl : typed wr 74 q)) (by decide))
              have HGB7 := Aside0.mk hgb
              have HPAIR := Aside0.mk (show Grown8 w7 base wm.heap.size nn1 k (.slice A5 n5 c5) (.slice A7 L7 c7) from ⟨n5, hn5, own_step HXE.out (fun q hq => hgb q (own_type HXE.out q hq)), by rw [← HL7.out]; exact own_step HXG.out (fun q hq => hgb q (own_type HXG.out q hq)), fun q hq => (HGB.out q hq).imp (fun h => h) (fun h => Nat.le_trans HFR.out.size h)⟩)
              have hstep : ∀ (j : Nat) (u : Value), ls[j]? = some u → j ≠ k → ∀ q, typed wk 5 q → (u.ownBlock = some q ∨ wm.heap.size ≤ q) → w7.heap[q]? = wk.heap[q]? := fun j u hj hne q ht hq => by
                obtain ⟨cs, hcs⟩ := ht
                have h1 : wr.heap[q]? = wk.heap[q]? := by
                  refine HFI.out.block q (blk_lt hcs) (fun h => ?_)
                  rcases hq with hq | hq
                  · exact HD.out k j _ u HV.out hj (fun e => hne e.symm) q h hq
                  · have h2 := ((HMM.out k _ HV.out).lt q h).2
                    omega
                exact (hgb q ⟨cs, h1.trans hcs⟩).trans h1
              have HGR2 := Aside0.mk (show ∀ (j : Nat) (u : Value), ls[j]? = some u → j < K1 → ∃ v', (X1.set (k * 3 + 2) (.slice A7 L7 c7))[j * 3 + 2]? = some v' ∧ Grown8 w7 base wm.heap.size nn1 j u v' from fun j u hj hlt2 => by
                by_cases hjk : j = k
                · subst hjk
                  rw [HV.out] at hj
                  cases hj
                  exact ⟨_, List.getElem?_set_self (by have := HXL.out; omega), HPAIR.out⟩
                · obtain ⟨v', h1, h2⟩ := HGR.out j u hj (by have := HK1.out; omega)
                  exact ⟨v', by rw [List.getElem?_set_ne (by omega)]; exact h1, h2.step (hstep j u hj hjk)⟩)
              have HMK2 := Aside0.mk (show ∀ (j : Nat) (u : Value), ls[j]? = some u → K1 ≤ j → Mk8 w7 base nn1 j u from fun j u hj hle => by
                have h1 := HMK.out j u hj (by have := HK1.out; omega)
                exact h1.step (fun q hq => hstep j u hj (by have := HK1.out; omega) q (h1.raw.type q hq) (.inl hq)))
              have HX2 := Aside0.mk (And.intro HROW7.out (HX1.out.2.set k (.slice A7 L7 c7)))
              have HFR2 := Aside0.mk (HFR.out.then_ ((HFI.out.mono (S1 := fun q => (Value.slice A5 n5 c5).ownBlock = some q ∨ q = gb) (fun q hq _ => .inl hq)).then_ HF7.out (fun q hq _ => .inr hq)) (fun q hq hlt => by
                rcases hq with hq | hq
                · exact .inr ⟨k, _, HV.out, hq⟩
                · exact .inl hq))
              clear hgb hstep HXE HXG HPAIR HGR HMK HFR HFI HX1 HGB7 HROW HROW7 HF7
              go_roundw
              case rel => exact ⟨K1, _, by have := HK1.out; omega, by go_num, HX2, HGR2, HMK2, HFR2⟩
              case measure => have := HK1.out; simp [intOf]; omega
        · have hd1 : decide (k < N) = false := decide_eq_false hlt
          have hd2 : decide ((k : Int) < (N : Int)) = false := decide_eq_false (by omega)
          obtain ⟨wt, hwt⟩ : ∃ wt, wt = wr := ⟨_, rfl⟩
          have HGT := Aside0.mk (show ∀ (j : Nat) (v : Value), ls[j]? = some v → ∃ v', X1[j * 3 + 2]? = some v' ∧ Grown8 wr base wm.heap.size nn1 j v v' from fun j v hj => HGR.out j v hj (by have := (List.getElem?_eq_some_iff.1 hj).1; have := HN.out; omega))
          have HFT := Aside0.mk (show Frm W wr (fun q => q = gb ∨ blocks ls q) from (HFW.out.mono (fun q hq _ => .inr hq)).then_ HFR.out (fun q hq _ => hq))
          rw [← hwt] at HX1 HGT HFT ⊢
          clear hwt HGR HMK HFR
          go_wp2
          clear hd1 hd2 hlt
          go_loopw [4, 11, 12, 13, 14, 15] (fun v4 v11 v12 v13 v14 v15 wr => ∃ k : Nat, k ≤ N ∧ v4 = .bool false ∧ v11 = .int .i64 (k : Int) ∧ Aside0 (Frm wt wr (fun _ => False))) (fun _ v11 _ _ _ _ _ => N + 1 - (intOf v11).toNat)
          case atStart => exact ⟨0, Nat.zero_le _, rfl, rfl, ⟨Frm.refl _ _⟩⟩
          case round =>
            clear hk
            obtain ⟨k, hk, rfl, rfl, HFR⟩ := hrel
            by_cases hlt : k < N
            · have hd1 : decide (k < N) = true := decide_eq_true hlt
              have hd2 : decide ((k : Int) < (N : Int)) = true := decide_eq_true (by omega)
              have hkv : k < ls.length := by rw [HN.out]; exact hlt
              obtain ⟨v, hv⟩ : ∃ v, ls[k]? = some v := ⟨_, List.getElem?_eq_getElem hkv⟩
              obtain ⟨v', hg, n5, hn5, hX0, hX7, _⟩ := HGT.out k v hv
              obtain ⟨A5, c5, rfl, hc5⟩ := own_form hX0
              obtain ⟨A7, c7, rfl, hc7⟩ := own_form hX7
              obtain ⟨L7, hL7⟩ : ∃ L7, L7 = n5 + 96 := ⟨_, rfl⟩
              rw [← hL7] at hX7 hg
              have HCK := Aside0.mk (show wt.cell? ⟨gb, k * 3, none⟩ = some (.slice A5 n5 c5) from own_cell HX1.out.1 (((HX1.out.2.2 k).1).trans (HL.out k _ hv)))
              have HCG := Aside0.mk (show wt.cell? ⟨gb, k * 3 + 2, none⟩ = some (.slice A7 L7 c7) from own_cell HX1.out.1 hg)
              have HX0 := Aside0.mk hX0
              have HX7 := Aside0.mk hX7
              have HL7 := Aside0.mk hL7
              have HNK := Aside0.mk (show nn1 k = (k : Int) / 241 from rfl)
              obtain ⟨K1, hK1⟩ : ∃ K1, K1 = k + 1 := ⟨_, rfl⟩
              have hkk1 : (k : Int) + 1 = (K1 : Int) := by omega
              have hkb : K1 ≤ 4001 := by omega
              have HK1 := Aside0.mk hK1
              have ck : wr.cell? ⟨gb, k * 3, none⟩ = some (.slice A5 n5 c5) := Frm.cell_ HFR.out HCK.out
              clear hkv hv hX0 hX7 hc5 hc7 hL7 hK1 hg
              go_wp2
              clear ck
              have HF0 := HFR
              go_loopw [4, 14] (fun v4 v14 wr => ∃ i : Nat, i ≤ n5 ∧ v4 = .bool false ∧ v14 = .int .i64 (i : Int) ∧ Aside0 (Frm wt wr (fun _ => False))) (fun _ v14 _ => n5 + 1 - (intOf v14).toNat)
              case atStart => exact ⟨0, Nat.zero_le _, rfl, rfl, HF0⟩
              case round =>
                obtain ⟨i, hi, rfl, rfl, HFI⟩ := hrel
                by_cases hin : i < n5
                · have hd3 : decide (i < n5) = true := decide_eq_true hin
                  have hd4 : decide ((i : Int) < (n5 : Int)) = true := decide_eq_true (by omega)
                  have hin7 : i < L7 := by have := HL7.out; omega
                  have hd5 : decide (i < L7) = true := decide_eq_true hin7
                  have hd6 : decide ((i : Int) < (L7 : Int)) = true := decide_eq_true (by have := HL7.out; omega)
                  obtain ⟨g5, c6, cur5, hrow5, _, _, _, _⟩ := own_some HX0.out (by omega)
                  injection hrow5 with hA5 _ hc6
                  obtain rfl := hA5
                  clear hc6
                  obtain ⟨g7, c8, cur7, hrow7, _, _, _, _⟩ := own_some HX7.out (by have := HL7.out; omega)
                  injection hrow7 with hA7 _ hc8
                  obtain rfl := hA7
                  clear hc8
                  have ck : wr.drew.cell? ⟨gb, k * 3, none⟩ = some (.slice (some ⟨g5, 0, none⟩) n5 c5) := Frm.cell_ HFI.out.drew HCK.out
                  have cg : wr.drew.cell? ⟨gb, k * 3 + 2, none⟩ = some (.slice (some ⟨g7, 0, none⟩) L7 c7) := Frm.cell_ HFI.out.drew HCG.out
                  have cl : wr.drew.cell? ⟨g5, i, none⟩ = some (.int .u8 (stv ((k : Int) / 241) (i : Int))) := Frm.cell_ HFI.out.drew (own_cell HX0.out (stl_get _ hin))
                  have cm : wr.drew.cell? ⟨g7, i, none⟩ = some (.int .u8 (stv ((k : Int) / 241) (i : Int))) := Frm.cell_ HFI.out.drew (own_cell HX7.out (by rw [List.getElem?_append_left (by rw [stl_len]; exact hin)]; exact stl_get _ hin))
                  go_wp2
                  refine start_ (n := 26) (S := fun w' => w'.cell? ⟨gb, k * 3, none⟩ = some (.slice (some ⟨g5, 0, none⟩) n5 c5) ∧ w'.cell? ⟨gb, k * 3 + 2, none⟩ = some (.slice (some ⟨g7, 0, none⟩) L7 c7) ∧ w'.cell? ⟨g5, i, none⟩ = some (.int .u8 (stv ((k : Int) / 241) (i : Int))) ∧ w'.cell? ⟨g7, i, none⟩ = some (.int .u8 (stv ((k : Int) / 241) (i : Int)))) (ds := []) #[false, false, false, false, false, false, false, false, false, false, false, false, false, false, false, false, false, false, false, false, false, false, false, false, false, false] (by kernel_rfl) rfl rfl ⟨ck, cg, cl, cm⟩ (fun hHeld => ?_)
                  refine with_tabW rg49.tab30 rg49.bits30 (fun HT_ HW_ => ?_)
                  refine pure_ (i := 0) (N := some 96) (v := ?_) (a' := ?_) #[true, false, false, false, false, false, false, false, false, false, false, false, false, false, false, false, false, false, false, false, false, false, false, false, false, false] rfl rfl (any_of HT_.out (by kernel_rfl)) (fun _ _ _ h => h) (Or.inl ⟨by rfl, ?_⟩) ?_ ?_
                  rotate_left
                  · intro w'
                    go_simp
                    with_reducible rfl
                  rotate_left
                  · simp only [Act.put, List.setIfInBounds_toArray, List.set_cons_zero, List.set_cons_succ, i64_w, i32_w]
                    rfl
                  refine pure_ (i := 1) (N := some 97) (v := ?_) (a' := ?_) #[true, true, false, false, false, false, false, false, false, false, false, false, false, false, false, false, false, false, false, false, false, false, false, false, false, false] rfl rfl (any_of HT_.out (by kernel_rfl)) (fun _ _ _ h => h) (Or.inl ⟨by rfl, ?_⟩) ?_ ?_
                  rotate_left
                  · intro w'
                    go_simp
                    with_reducible rfl
                  rotate_left
                  · simp only [Act.put, List.setIfInBounds_toArray, List.set_cons_zero, List.set_cons_succ, i64_w, i32_w]
                    rfl
                  refine pure_ (i := 2) (N := some 98) (v := ?_) (a' := ?_) #[true, true, true, false, false, false, false, false, false, false, false, false, false, false, false, false, false, false, false, false, false, false, false, false, false, false] rfl rfl (any_of HT_.out (by kernel_rfl)) (fun _ _ _ h => h) (Or.inl ⟨by rfl, ?_⟩) ?_ ?_
                  rotate_left
                  · intro w'
                    go_simp
                    with_reducible rfl
                  rotate_left
                  · simp only [Act.put, List.setIfInBounds_toArray, List.set_cons_zero, List.set_cons_succ, i64_w, i32_w]
                    rfl
                  refine pure_ (i := 3) (N := some 99) (v := ?_) (a' := ?_) #[true, true, true, true, false, false, false, false, false, false, false, false, false, false, false, false, false, false, false, false, false, false, false, false, false, false] rfl rfl (any_of HT_.out (by kernel_rfl)) (fun _ _ _ h => h) (Or.inl ⟨by rfl, ?_⟩) ?_ ?_
                  rotate_left
                  · intro w'
                    go_simp
                    with_reducible rfl
                  rotate_left
                  · simp only [Act.put, List.setIfInBounds_toArray, List.set_cons_zero, List.set_cons_succ, i64_w, i32_w]
                    rfl
                  refine pure_ (i := 5) (N := some 101) (v := ?_) (a' := ?_) #[true, true, true, true, false, true, false, false, false, false, false, false, false, false, false, false, false, false, false, false, false, false, false, false, false, false] rfl rfl (any_of HT_.out (by kernel_rfl)) (fun _ _ _ h => h) (Or.inl ⟨by rfl, ?_⟩) ?_ ?_
                  rotate_left
                  · intro w'
                    go_simp
                    with_reducible rfl
                  rotate_left
                  · simp only [Act.put, List.setIfInBounds_toArray, List.set_cons_zero, List.set_cons_succ, i64_w, i32_w]
                    rfl
                  refine pure_ (i := 8) (N := some 104) (v := ?_) (a' := ?_) #[true, true, true, true, false, true, false, false, true, false, false, false, false, false, false, false, false, false, false, false, false, false, false, false, false, false] rfl rfl (any_of HT_.out (by kernel_rfl)) (fun _ _ _ h => h) (Or.inl ⟨by rfl, ?_⟩) ?_ ?_
                  rotate_left
                  · intro w'
                    go_simp
                    with_reducible rfl
                  rotate_left
                  · simp only [Act.put, List.setIfInBounds_toArray, List.set_cons_zero, List.set_cons_succ, i64_w, i32_w]
                    rfl
                  refine pure_ (i := 9) (N := some 105) (v := ?_) (a' := ?_) #[true, true, true, true, false, true, false, false, true, true, false, false, false, false, false, false, false, false, false, false, false, false, false, false, false, false] rfl rfl (any_of HT_.out (by kernel_rfl)) (fun _ _ _ h => h) (Or.inl ⟨by rfl, ?_⟩) ?_ ?_
                  rotate_left
                  · intro w'
                    go_simp
                    with_reducible rfl
                  rotate_left
                  · simp only [Act.put, List.setIfInBounds_toArray, List.set_cons_zero, List.set_cons_succ, i64_w, i32_w]
                    rfl
                  refine take_ (i := 4) (N := some 100) (v := ?_) (a' := ?_) #[true, true, true, true, true, true, false, false, true, true, false, false, false, false, false, false, false, false, false, false, false, false, false, false, false, false] rfl rfl (take_ofW HT_.out HW_.out (by kernel_rfl)) (fun _ _ _ h => h) (Or.inl ⟨by rfl, ?_⟩) hHeld ?_ ?_
                  rotate_left
                  · rintro w' ⟨s0, s1, s2, s3⟩
                    go_simp
                    with_reducible rfl
                  rotate_left
                  · simp only [Act.put, List.setIfInBounds_toArray, List.set_cons_zero, List.set_cons_succ, i64_w, i32_w]
                    rfl
                  refine pure_ (i := 6) (N := some 102) (v := ?_) (a' := ?_) #[true, true, true, true, true, true, true, false, true, true, false, false, false, false, false, false, false, false, false, false, false, false, false, false, false, false] rfl rfl (any_of HT_.out (by kernel_rfl)) (fun _ _ _ h => h) (Or.inl ⟨by rfl, ?_⟩) ?_ ?_
                  rotate_left
                  · intro w'
                    go_simp
                    with_reducible rfl
                  rotate_left
                  · simp only [Act.put, List.setIfInBounds_toArray, List.set_cons_zero, List.set_cons_succ, i64_w, i32_w]
                    rfl
                  refine take_ (i := 7) (N := some 103) (v := ?_) (a' := ?_) #[true, true, true, true, true, true, true, true, true, true, false, false, false, false, false, false, false, false, false, false, false, false, false, false, false, false] rfl rfl (take_ofW HT_.out HW_.out (by kernel_rfl)) (fun _ _ _ h => h) (Or.inl ⟨by rfl, ?_⟩) hHeld ?_ ?_
                  rotate_left
                  · rintro w' ⟨s0, s1, s2, s3⟩
                    go_simp
                    with_reducible rfl
                  rotate_left
                  · simp only [Act.put, List.setIfInBounds_toArray, List.set_cons_zero, List.set_cons_succ, i64_w, i32_w]
                    rfl
                  refine one_ (i := 10) (N := some 106) #[true, true, true, true, true, true, true, true, true, true, true, false, false, false, false, false, false, false, false, false, false, false, false, false, false, false] rfl rfl (one_of HT_.out (by kernel_rfl)) (by decide) (fun K hK => ?_)
                  refine goes_ Try.func64 (by kernel_rfl) rfl #[.int .i64 ((k : Int) / 241), .int .i64 (i : Int)] (by rfl) rfl rfl (by simp only [List.map_toArray, List.map_cons, List.map_nil]; rfl) ?_
                  with_reducible refine (stain_C ((k : Int) / 241) (i : Int) _).mono ?_
                  rintro e w9 ⟨rfl, ⟨⟨mq, rfl⟩⟩⟩
                  refine ⟨_, rfl, ?_⟩
                  refine hK.out _ _ ⟨ck, cg, cl, cm⟩ (fun hHeld => ?_)
                  clear hK K
                  refine norm_ (a' := ?_) ?_ ?_
                  rotate_left
                  · show Act.put _ (some 106) _ = _
                    simp only [Act.put, List.setIfInBounds_toArray, List.set_cons_zero, List.set_cons_succ, i64_w, i32_w]
                    rfl
                  refine pure_ (i := 11) (N := some 107) (v := ?_) (a' := ?_) #[true, true, true, true, true, true, true, true, true, true, true, true, false, false, false, false, false, false, false, false, false, false, false, false, false, false] rfl rfl (any_of HT_.out (by kernel_rfl)) (fun _ _ _ h => h) (Or.inl ⟨by rfl, ?_⟩) ?_ ?_
                  rotate_left
                  · intro w'
                    go_simp
                    with_reducible rfl
                  rotate_left
                  · simp only [Act.put, List.setIfInBounds_toArray, List.set_cons_zero, List.set_cons_succ, i64_w, i32_w]
                    rfl
                  refine pure_ (i := 12) (N := some 108) (v := ?_) (a' := ?_) #[true, true, true, true, true, true, true, true, true, true, true, true, true, false, false, false, false, false, false, false, false, false, false, false, false, false] rfl rfl (any_of HT_.out (by kernel_rfl)) (fun _ _ _ h => h) (Or.inl ⟨by rfl, ?_⟩) ?_ ?_
                  rotate_left
                  · intro w'
                    go_simp
                    with_reducible rfl
                  rotate_left
                  · simp only [Act.put, List.setIfInBounds_toArray, List.set_cons_zero, List.set_cons_succ, i64_w, i32_w]
                    rfl
                  refine pure_ (i := 13) (N := some 109) (v := ?_) (a' := ?_) #[true, true, true, true, true, true, true, true, true, true, true, true, true, true, false, false, false, false, false, false, false, false, false, false, false, false] rfl rfl (any_of HT_.out (by kernel_rfl)) (fun _ _ _ h => h) (Or.inl ⟨by rfl, ?_⟩) ?_ ?_
                  rotate_left
                  · intro w'
                    go_simp
                    with_reducible rfl
                  rotate_left
                  · simp only [Act.put, List.setIfInBounds_toArray, List.set_cons_zero, List.set_cons_succ, i64_w, i32_w]
                    rfl
                  refine pure_ (i := 14) (N := some 110) (v := ?_) (a' := ?_) #[true, true, true, true, true, true, true, true, true, true, true, true, true, true, true, false, false, false, false, false, false, false, false, false, false, false] rfl rfl (any_of HT_.out (by kernel_rfl)) (fun _ _ _ h => h) (Or.inl ⟨by rfl, ?_⟩) ?_ ?_
                  rotate_left
                  · intro w'
                    go_simp
                    with_reducible rfl
                  rotate_left
                  · simp only [Act.put, List.setIfInBounds_toArray, List.set_cons_zero, List.set_cons_succ, i64_w, i32_w]
                    rfl
                  refine pure_ (i := 15) (N := some 111) (v := ?_) (a' := ?_) #[true, true, true, true, true, true, true, true, true, true, true, true, true, true, true, true, false, false, false, false, false, false, false, false, false, false] rfl rfl (any_of HT_.out (by kernel_rfl)) (fun _ _ _ h => h) (Or.inl ⟨by rfl, ?_⟩) ?_ ?_
                  rotate_left
                  · intro w'
                    go_simp
                    with_reducible rfl
                  rotate_left
                  · simp only [Act.put, List.setIfInBounds_toArray, List.set_cons_zero, List.set_cons_succ, i64_w, i32_w]
                    rfl
                  refine pure_ (i := 16) (N := some 112) (v := ?_) (a' := ?_) #[true, true, true, true, true, true, true, true, true, true, true, true, true, true, true, true, true, false, false, false, false, false, false, false, false, false] rfl rfl (any_of HT_.out (by kernel_rfl)) (fun _ _ _ h => h) (Or.inl ⟨by rfl, ?_⟩) ?_ ?_
                  rotate_left
                  · intro w'
                    go_simp
                    with_reducible rfl
                  rotate_left
                  · simp only [Act.put, List.setIfInBounds_toArray, List.set_cons_zero, List.set_cons_succ, i64_w, i32_w]
                    rfl
                  refine pure_ (i := 18) (N := some 114) (v := ?_) (a' := ?_) #[true, true, true, true, true, true, true, true, true, true, true, true, true, true, true, true, true, false, true, false, false, false, false, false, false, false] rfl rfl (any_of HT_.out (by kernel_rfl)) (fun _ _ _ h => h) (Or.inl ⟨by rfl, ?_⟩) ?_ ?_
                  rotate_left
                  · intro w'
                    go_simp
                    with_reducible rfl
                  rotate_left
                  · simp only [Act.put, List.setIfInBounds_toArray, List.set_cons_zero, List.set_cons_succ, i64_w, i32_w]
                    rfl
                  refine pure_ (i := 21) (N := some 117) (v := ?_) (a' := ?_) #[true, true, true, true, true, true, true, true, true, true, true, true, true, true, true, true, true, false, true, false, false, true, false, false, false, false] rfl rfl (any_of HT_.out (by kernel_rfl)) (fun _ _ _ h => h) (Or.inl ⟨by rfl, ?_⟩) ?_ ?_
                  rotate_left
                  · intro w'
                    go_simp
                    with_reducible rfl
                  rotate_left
                  · simp only [Act.put, List.setIfInBounds_toArray, List.set_cons_zero, List.set_cons_succ, i64_w, i32_w]
                    rfl
                  refine pure_ (i := 22) (N := some 118) (v := ?_) (a' := ?_) #[true, true, true, true, true, true, true, true, true, true, true, true, true, true, true, true, true, false, true, false, false, true, true, false, false, false] rfl rfl (any_of HT_.out (by kernel_rfl)) (fun _ _ _ h => h) (Or.inl ⟨by rfl, ?_⟩) ?_ ?_
                  rotate_left
                  · intro w'
                    go_simp
                    with_reducible rfl
                  rotate_left
                  · simp only [Act.put, List.setIfInBounds_toArray, List.set_cons_zero, List.set_cons_succ, i64_w, i32_w]
                    rfl
                  refine take_ (i := 17) (N := some 113) (v := ?_) (a' := ?_) #[true, true, true, true, true, true, true, true, true, true, true, true, true, true, true, true, true, true, true, false, false, true, true, false, false, false] rfl rfl (take_ofW HT_.out HW_.out (by kernel_rfl)) (fun _ _ _ h => h) (Or.inl ⟨by rfl, ?_⟩) hHeld ?_ ?_
                  rotate_left
                  · rintro w' ⟨s0, s1, s2, s3⟩
                    go_simp
                    with_reducible rfl
                  rotate_left
                  · simp only [Act.put, List.setIfInBounds_toArray, List.set_cons_zero, List.set_cons_succ, i64_w, i32_w]
                    rfl
                  refine pure_ (i := 19) (N := some 115) (v := ?_) (a' := ?_) #[true, true, true, true, true, true, true, true, true, true, true, true, true, true, true, true, true, true, true, true, false, true, true, false, false, false] rfl rfl (any_of HT_.out (by kernel_rfl)) (fun _ _ _ h => h) (Or.inl ⟨by rfl, ?_⟩) ?_ ?_
                  rotate_left
                  · intro w'
                    go_simp
                    with_reducible rfl
                  rotate_left
                  · simp only [Act.put, List.setIfInBounds_toArray, List.set_cons_zero, List.set_cons_succ, i64_w, i32_w]
                    rfl
                  refine take_ (i := 20) (N := some 116) (v := ?_) (a' := ?_) #[true, true, true, true, true, true, true, true, true, true, true, true, true, true, true, true, true, true, true, true, true, true, true, false, false, false] rfl rfl (take_ofW HT_.out HW_.out (by kernel_rfl)) (fun _ _ _ h => h) (Or.inl ⟨by rfl, ?_⟩) hHeld ?_ ?_
                  rotate_left
                  · rintro w' ⟨s0, s1, s2, s3⟩
                    go_simp
                    with_reducible rfl
                  rotate_left
                  · simp only [Act.put, List.setIfInBounds_toArray, List.set_cons_zero, List.set_cons_succ, i64_w, i32_w]
                    rfl
                  refine one_ (i := 23) (N := some 119) #[true, true, true, true, true, true, true, true, true, true, true, true, true, true, true, true, true, true, true, true, true, true, true, true, false, false] rfl rfl (one_of HT_.out (by kernel_rfl)) (by decide) (fun K hK => ?_)
                  refine goes_ Try.func64 (by kernel_rfl) rfl #[.int .i64 ((k : Int) / 241), .int .i64 (i : Int)] (by rfl) rfl rfl (by simp only [List.map_toArray, List.map_cons, List.map_nil]; rfl) ?_
                  with_reducible refine (stain_C ((k : Int) / 241) (i : Int) _).mono ?_
                  rintro e w9 ⟨rfl, ⟨⟨mr, rfl⟩⟩⟩
                  refine ⟨_, rfl, ?_⟩
                  refine hK.out _ _ ⟨ck, cg, cl, cm⟩ (fun hHeld => ?_)
                  clear hK K
                  refine norm_ (a' := ?_) ?_ ?_
                  rotate_left
                  · show Act.put _ (some 119) _ = _
                    simp only [Act.put, List.setIfInBounds_toArray, List.set_cons_zero, List.set_cons_succ, i64_w, i32_w]
                    rfl
                  refine pure_ (i := 24) (N := some 120) (v := ?_) (a' := ?_) #[true, true, true, true, true, true, true, true, true, true, true, true, true, true, true, true, true, true, true, true, true, true, true, true, true, false] rfl rfl (any_of HT_.out (by kernel_rfl)) (fun _ _ _ h => h) (Or.inl ⟨by rfl, ?_⟩) ?_ ?_
                  rotate_left
                  · intro w'
                    go_simp
                    with_reducible rfl
                  rotate_left
                  · simp only [Act.put, List.setIfInBounds_toArray, List.set_cons_zero, List.set_cons_succ, i64_w, i32_w]
                    rfl
                  refine pure_ (i := 25) (N := some 121) (v := ?_) (a' := ?_) #[true, true, true, true, true, true, true, true, true, true, true, true, true, true, true, true, true, true, true, true, true, true, true, true, true, true] rfl rfl (any_of HT_.out (by kernel_rfl)) (fun _ _ _ h => h) (Or.inl ⟨by rfl, ?_⟩) ?_ ?_
                  rotate_left
                  · intro w'
                    go_simp
                    with_reducible rfl
                  rotate_left
                  · simp only [Act.put, List.setIfInBounds_toArray, List.set_cons_zero, List.set_cons_succ, i64_w, i32_w]
                    rfl
                  refine done_ (done_of HT_.out (by kernel_rfl)) ?_
                  have HF9 := Aside0.mk (show Frm wt ((wr.drew.drewN mq).drewN mr) (fun _ => False) from ((HFI.out.drew).drewN mq).drewN mr)
                  obtain ⟨w9, hw9⟩ : ∃ w9, w9 = (wr.drew.drewN mq).drewN mr := ⟨_, rfl⟩
                  rw [← hw9] at HF9 ⊢
                  clear hw9 ck cg cl cm
                  go_wp2
                  go_roundw
                  case rel => exact ⟨i + 1, by omega, rfl, by go_num, HF9⟩
                  case measure => simp [intOf]; omega
                · have hd3 : decide (i < n5) = false := decide_eq_false hin
                  have hd4 : decide ((i : Int) < (n5 : Int)) = false := decide_eq_false (by omega)
                  have HF0 := HFI
                  go_wp2
                  clear hd3 hd4
                  go_loopw [4, 15] (fun v4 v15 wr => ∃ i : Nat, i ≤ 96 ∧ v4 = .bool false ∧ v15 = .int .i64 (i : Int) ∧ Aside0 (Frm wt wr (fun _ => False))) (fun _ v15 _ => 96 + 1 - (intOf v15).toNat)
                  case atStart => exact ⟨0, Nat.zero_le _, rfl, rfl, HF0⟩
                  case round =>
                    clear hi hin
                    obtain ⟨i, hi, rfl, rfl, HFI⟩ := hrel
                    by_cases hin : i < 96
                    · have hd3 : decide (i < 96) = true := decide_eq_true hin
                      have hd4 : decide ((i : Int) < 96) = true := decide_eq_true (by omega)
                      obtain ⟨g7, c8, cur7, hrow7, _, _, _, _⟩ := own_some HX7.out (by have := HL7.out; omega)
                      injection hrow7 with hA7 _ hc8
                      obtain rfl := hA7
                      clear hc8
                      obtain ⟨NI, hNI⟩ : ∃ NI, NI = n5 + i := ⟨_, rfl⟩
                      have hsum : (n5 : Int) + (i : Int) = (NI : Int) := by omega
                      have hNI7 : NI < L7 := by have := HL7.out; omega
                      have hNI4 : NI ≤ 40096 := by omega
                      have hd5 : decide (NI < L7) = true := decide_eq_true hNI7
                      have cg : wr.cell? ⟨gb, k * 3 + 2, none⟩ = some (.slice (some ⟨g7, 0, none⟩) L7 c7) := Frm.cell_ HFI.out HCG.out
                      have cm : wr.cell? ⟨g7, NI, none⟩ = some (g2 k) := Frm.cell_ HFI.out (own_cell HX7.out (by rw [List.getElem?_append_right (by rw [stl_len]; omega), stl_len, List.getElem?_replicate]; rw [if_pos (by omega)]))
                      have cm2 : wr.cell? ⟨g7, NI, none⟩ = some (.int .u8 (242 + (k : Int) % 13)) := cm
                      clear cm hNI
                      go_wp2
                      go_roundw
                      case rel => exact ⟨i + 1, by omega, rfl, by go_num, HFI⟩
                      case measure => simp [intOf]; omega
                    · have hd3 : decide (i < 96) = false := decide_eq_false hin
                      have hd4 : decide ((i : Int) < 96) = false := decide_eq_false (by omega)
                      go_wp2
                      go_roundw
                      case rel => exact ⟨K1, by have := HK1.out; omega, rfl, by go_num, HFI⟩
                      case measure => have := HK1.out; simp [intOf]; omega
            · have hd1 : decide (k < N) = false := decide_eq_false hlt
              have hd2 : decide ((k : Int) < (N : Int)) = false := decide_eq_false (by omega)
              go_wp2
              go_ret
              have hst : ∀ q, q < wt.heap.size → wr.heap[q]? = wt.heap[q]? := fun q hq => HFR.out.block q hq (fun h => h)
              refine ⟨rfl, X1, own_step HX1.out.1 (fun q hq => hst q (HX1.out.1.lt q hq).2), HX1.out.2, fun j v hj => ?_, HFT.out.then_ HFR.out (fun q hq _ => hq.elim)⟩
              obtain ⟨v', _, n5, hn5, hX0, _, _⟩ := HGT.out j v hj
              exact ⟨n5, _, hn5, own_step hX0 (fun q hq => hst q (hX0.lt q hq).2)⟩
end Go.Proofs.Ytnanaojjhmpilaa.PW
