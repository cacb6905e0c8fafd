/- taken: the next bodies of a stream. -/
import Derived.Test.YtnanaojjhmpilaaL3
import Derived.Outline
namespace Go.Proofs.Ytnanaojjhmpilaa.PW
open Go.RowKit Go.Proofs.YtnanaojjhmpilaaW.PrintWords Go.Proofs.YtnanaojjhmpilaaW.PrintLast Go.Proofs.YtnanaojjhmpilaaW.PrintMore
set_option linter.unusedVariables false
set_option linter.unusedSimpArgs false
attribute [local go_sem] Oper.semAt_some

theorem fun_not_nil (n : Nat) : ∀ W : World, (binOp .eql 63 (.func (.func 62) #[] #[.pointer (some ⟨n, 0, none⟩)]) .nilFunc).run Try.prog W = .ok (.bool false) W := fun W => by kernel_rfl
/-- What is known behind taken: the bodies fs1 in rows of their own, the stream with the rest. -/
def TkPost (w : World) (base b : Nat) (ok : Nat → Prop) (op : List Int) (fs : List (List Int)) (sk : Nat) (most : Int) (e : Ending) (w' : World) : Prop :=
  ∃ v okS okr fs1 fs2, e = .returned (.tuple #[v, .bool true]) ∧ fs = fs1 ++ fs2 ∧ fs1.length = min most.toNat fs.length ∧ SQ (Kd.slice 5 (Kd.int .u8)) 22 w' base okr v fs1 ∧ Strm w' base okS b op fs2 sk ∧
    (∀ k, okS k → ok k ∧ ¬ okr k) ∧ (∀ k, okr k → ok k ∨ w.heap.size ≤ k) ∧ Frm w w' (fun k => k = b)

set_option maxHeartbeats 8000000 in
set_option maxRecDepth 100000 in
theorem taken_C (b base : Nat) (ok : Nat → Prop) (op : List Int) (fs : List (List Int)) (sk : Nat) (most : Int) (w : World) (hS : Strm w base ok b op fs sk) (hbase : base ≤ w.heap.size) (hfl : fs.length ≤ 1000000) :
    Calls Try.prog 42 #[.pointer (some ⟨b, 0, none⟩), .int .i64 most] w (TkPost w base b ok op fs sk most) := by
  have HS := Aside0.mk (Strm_bound hS)
  have HBS := Aside0.mk hbase
  have HFL := Aside0.mk hfl
  obtain ⟨wa, hwa⟩ : ∃ wa, wa = w.alloc (.cells #[.int .i64 most] 3) := ⟨_, rfl⟩
  obtain ⟨wb, hwb⟩ : ∃ wb, wb = wa.alloc (.cells #[.slice none 0 0] 37) := ⟨_, rfl⟩
  obtain ⟨wc, hwc⟩ : ∃ wc, wc = wb.alloc (.cells #[.pointer (some ⟨b, 0, none⟩)] 51) := ⟨_, rfl⟩
  have hza : wa.heap.size = w.heap.size + 1 := by rw [hwa]; simp
  have hzb : wb.heap.size = w.heap.size + 2 := by rw [hwb]; simp [hza]
  have hzc : wc.heap.size = w.heap.size + 3 := by rw [hwc]; simp [hzb]
  have h3a : wa.heap[w.heap.size]? = some (.cells #[.int .i64 most] 3 (0, 0)) := by rw [hwa]; exact World.alloc_heap_new w _
  have h3b : wb.heap[w.heap.size]? = some (.cells #[.int .i64 most] 3 (0, 0)) := by rw [hwb]; exact (Below.heap_alloc _ _ _ (by omega)).trans h3a
  have h3c : wc.heap[w.heap.size]? = some (.cells #[.int .i64 most] 3 (0, 0)) := by rw [hwc]; exact (Below.heap_alloc _ _ _ (by omega)).trans h3b
  have h6b : wb.heap[w.heap.size + 1]? = some (.cells #[.slice none 0 0] 37 (0, 0)) := by rw [hwb, ← hza]; exact World.alloc_heap_new wa _
  have h6c : wc.heap[w.heap.size + 1]? = some (.cells #[.slice none 0 0] 37 (0, 0)) := by rw [hwc]; exact (Below.heap_alloc _ _ _ (by omega)).trans h6b
  have hnc : wc.heap[w.heap.size + 2]? = some (.cells #[.pointer (some ⟨b, 0, none⟩)] 51 (0, 0)) := by rw [hwc, ← hzb]; exact World.alloc_heap_new wb _
  have HFC := Aside0.mk (show Frm w wc (fun k => k = b) by rw [hwc, hwb, hwa]; exact (((Frm.refl _ _).alloc _).alloc _).alloc _)
  have HSC := Aside0.mk (Strm_rowy (Strm_frm (S := fun _ => False) HS.out (by rw [hwc, hwb, hwa]; exact (((Frm.refl _ _).alloc _).alloc _).alloc _ : Frm w wc (fun _ => False)) (fun _ _ h => h)))
  have H3 := Aside0.mk h3c
  have H6 := Aside0.mk h6c
  have HN := Aside0.mk hnc
  have c3 := blk_cell h3c 0
  have c6 := blk_cell h6c 0
  simp only [List.getElem?_toArray, List.getElem?_cons_zero] at c3 c6
  have HWC := Aside0.mk (show wc = (((w.alloc (.cells #[.int .i64 most] 3)).alloc (.cells #[.slice none 0 0] 37)).alloc (.cells #[.pointer (some ⟨b, 0, none⟩)] 51)) by rw [hwc, hwb, hwa])
  have HZB := Aside0.mk (show ((w.alloc (.cells #[.int .i64 most] 3)).alloc (.cells #[.slice none 0 0] 37)).heap.size = w.heap.size + 2 by rw [← hwa, ← hwb]; exact hzb)
  clear h3a h3b h3c h6b h6c hnc hwc hwb hwa hza hzb hS hfl hbase
  have hfn := fun_not_nil (w.heap.size + 2)
  refine (callsIn_wide (n := 0)).1 (callsIn_of_wp_marks Try.func42 rfl trivial ?_)
  refine (wpIn_wide (n := 0)).2 ?_
  simp only [Try.ntmps42, List.size_toArray, List.length_cons, List.length_nil, Nat.reduceAdd, Nat.reduceSub, Array.replicate_succ, Array.replicate_zero, List.push_toArray, List.append_toArray, List.nil_append, List.cons_append]
  go_wp2_with fail
  refine (bodies_C _ _).mono ?_
  rintro e w1 ⟨rfl, rfl⟩
  rw [← HWC.out]
  rw [HZB.out]
  by_cases hm : most ≤ 0
  · go_wp2
    refine ⟨_, results_tmp2 rfl _ _ _, ?_⟩
    refine ⟨_, _, (fun _ => False), [], fs, rfl, rfl, ?_, SQ_nil _ _ _ _ _, HSC.out, fun k hk => ⟨hk.1.1, fun h => h⟩, fun k hk => hk.elim, HFC.out⟩
    have : most.toNat = 0 := by omega
    simp [this]
  · have HM0 := Aside0.mk (show (0 : Int) < most by omega)
    have hmb : decide (most ≤ 0) = false := decide_eq_false hm
    clear hm
    go_wp2
    refine rangeStream (σ := List (List Int)) (gf := 62) (Bn := w.heap.size + 2) (b := b) rfl (enters_ Try.func62 (by kernel_rfl) rfl) (bodies1_spec _ b) rfl
      (fun T pre W => ∃ fs2, fs = pre ++ fs2 ∧ (pre.length : Int) < most ∧ TkC w base b (w.heap.size + 1) w.heap.size (w.heap.size + 2) ok op sk most T pre fs2 (fun _ => False) W)
      (fun T pre x W => ∃ hd fs2 okx Ax cx, x = .slice Ax hd.length cx ∧ fs = pre ++ hd :: fs2 ∧ (pre.length : Int) < most ∧ Kd.R (Kd.int .u8) 5 W base okx x hd ∧ TkC w base b (w.heap.size + 1) w.heap.size (w.heap.size + 2) ok op sk most T pre fs2 okx W)
      (fun c W => c = .exit 0 ∧ ∃ pre fs2, fs = pre ++ fs2 ∧ (pre.length : Int) = most ∧ TkC w base b (w.heap.size + 1) w.heap.size (w.heap.size + 2) ok op sk most (fun _ => False) pre fs2 (fun _ => False) W)
      (fun pre => fs.length - pre.length) [] (fun _ => False) ?hI ?hIp ?hIx ?h0 ?hbox ?hpop
      (fun x => { tmps := #[.pointer (some ⟨b, 0, none⟩), .int .i64 most, undef, .pointer (some ⟨w.heap.size, 0, none⟩), .slice none 0 0, .bool false, .pointer (some ⟨w.heap.size + 1, 0, none⟩), .func (.func 62) #[] #[.pointer (some ⟨w.heap.size + 2, 0, none⟩)], x, .pointer (some ⟨b, 0, none⟩), .func (.func 62) #[] #[.pointer (some ⟨w.heap.size + 2, 0, none⟩)],
        .func (.func 62) #[] #[.pointer (some ⟨w.heap.size + 2, 0, none⟩)], .bool false, .int .i64 most, .bool false, undef, .func (.func 62) #[] #[.pointer (some ⟨w.heap.size + 2, 0, none⟩)], x, undef, undef, undef, undef, undef, undef, undef, undef, undef], defers := [] }) ?assign ?body ?done ?stop
    case hI =>
      rintro T pre A B row T' ⟨fs2, e1, e2, e3⟩ hg hr hT
      exact ⟨fs2, e1, e2, TkC_own e3 hg (fun r e => ⟨Nat.le_trans HFC.out.size (hr r e).1, (hr r e).2⟩) hT⟩
    case hIp =>
      rintro x T pre A B row T' ⟨hd, fs2, okx, Ax, cx, e0, e1, e2, hR, e3⟩ hg hr hT
      refine ⟨hd, fs2, okx, Ax, cx, e0, e1, e2, ?_, TkC_own e3 hg (fun r e => ⟨Nat.le_trans HFC.out.size (hr r e).1, (hr r e).2⟩) hT⟩
      obtain ⟨v, okS, okr, h1, h2, h3, h4, h5, h6, h7, h8, h9, h10, h11⟩ := e3
      refine Kd.R_step hR (fun k hk hlt => hg.block k hlt (fun e => ?_))
      obtain ⟨_, o, ho, hc⟩ := hr k e.symm
      obtain ⟨_, cs, q, hq, _⟩ := (h8 k hk).2
      rw [hq] at ho
      cases ho
      cases hc
    case hIx =>
      rintro c s A B row ⟨e0, pre, fs2, e1, e2, e3⟩ hg hr
      exact ⟨e0, pre, fs2, e1, e2, TkC_own e3 hg (fun r e => ⟨Nat.le_trans HFC.out.size (hr r e).1, (hr r e).2⟩) (fun k hk => hk.elim)⟩
    case h0 =>
      exact ⟨fs, rfl, HM0.out, _, _, (fun _ => False), HSC.out, SQ_nil _ _ _ _ _, H6.out, H3.out, HN.out, fun k hk => ⟨hk.1.1, fun h => h, fun h => h, hk.2⟩, fun k hk => hk.elim, fun k hk => hk.elim, fun k hk => hk.elim, HFC.out, fun k hk => by cases hk⟩
    case hbox =>
      rintro T pre W ⟨fs2, e1, e2, v, okS, okr, h1, h2, h3, h4, h5, _⟩
      exact blk_cell h5 0
    case hpop =>
      rintro T pre W ⟨fs2, e1, e2, e3⟩
      obtain ⟨vo, A, n, c, sk', hb, hl, hp⟩ := TkC_pop e3
      refine ⟨vo, A, n, c, sk', hb, hl, fun h => ?_⟩
      obtain ⟨ad, Ax, nx, cx, h4, h5, hd, fs3, okx, Ax', cx', h6, h7, h8, h9⟩ := hp h
      exact ⟨ad, Ax, nx, cx, h4, h5, hd, fs3, okx, Ax', cx', h6, by rw [e1, h7], e2, h8, h9⟩
    case assign =>
      intro l' x W K hK
      gi_wp2
      exact hK
    case body =>
      rintro T l' pre x W hT hTl hle _ ⟨hd, fs2, okx, Ax, cx, rfl, hfs, hlt, hr, v, okS, okr, h1, h2, h3, h4, h5, h6, h7, h8, h9, h10, h11⟩
      have c6 := blk_cell h3 0
      have z6 := blk_frozen h3 0
      have c3 := blk_cell h4 0
      simp only [List.getElem?_toArray, List.getElem?_cons_zero] at c3 c6
      have hb6 : some (w.heap.size + 1) ≠ v.ownBlock := fun e => ((h7 _ (SQ_ok h2 _ e.symm)).2.2.ne h3 (by decide)) rfl
      obtain ⟨pre1, hpre⟩ : ∃ p, pre ++ [hd] = p := ⟨_, rfl⟩
      have hlen : pre1.length = pre.length + 1 := by rw [← hpre]; simp
      have hfs1 : fs = pre1 ++ fs2 := by rw [hfs, ← hpre]; simp
      have hfl2 : fs.length = pre1.length + fs2.length := by rw [hfs1, List.length_append]
      have FN := Aside0.mk (show pre.length + 1 ≤ 1000000 ∧ fs.length - pre1.length < fs.length - pre.length by have := HFL.out; omega)
      clear hfl2
      have F11 := Aside0.mk h11
      have FTT := Aside0.mk hT
      have F1 := Aside0.mk h1
      have F2 := Aside0.mk h2
      have F3 := Aside0.mk h3
      have F4 := Aside0.mk h4
      have F5 := Aside0.mk h5
      have F6 := Aside0.mk h6
      have F7 := Aside0.mk h7
      have F8 := Aside0.mk h8
      have F9 := Aside0.mk h9
      have F10 := Aside0.mk h10
      have FR := Aside0.mk hr
      have FB6 := Aside0.mk hb6
      have FP := Aside0.mk hpre
      have FL := Aside0.mk hlen
      have FS := Aside0.mk hfs1
      have FT := Aside0.mk hlt
      have FW := Aside0.mk hle
      clear h1 h2 h3 h4 h5 h6 h7 h8 h9 h10 h11 hr hb6 hpre hlen hfs1 hfs hlt hT hTl hle
      refine wpIn_block ?_
      refine wpIn_seq ?_
      refine region_round l' (by rintro ⟨a, w, h⟩; exact h) (by simp) ?_
      go_wp2_with (with_reducible refine stop_append rfl ?_)
      refine SQ_append (Kd.slice 5 (Kd.int .u8)) (w0 := w) base rfl (.tmp 18) (.tmp 20) 37 22 (.slice none 0 0) 24 rfl Try.underlying37 info22 rfl (by decide) (by omega) v pre hd [.slice Ax hd.length cx] (fun k => okr k ∨ okx k ∨ W.heap.size ≤ k) okx rfl rfl
        (Kd.M_row FR.out) (fun k hk => ⟨.inr (.inl hk), fun e => (F7.out k (SQ_ok F2.out k e.symm)).2.1 hk⟩) (fun k hk => .inr (.inr hk)) (SQ_mono F2.out (fun k hk => ⟨.inl hk, (F7.out k hk).2.1⟩))
        (F10.out.below (fun k e _ => e ▸ F1.out.1) HBS.out) (Nat.le_trans HBS.out F10.out.size) (by have := FN.out; omega) ?_
      intro v1 w1 ho hb hg hat
      rw [FP.out] at ho
      obtain ⟨A1, c1, rfl, hl1⟩ := SQ_slice ho
      have hb3 := blk_grown F3.out hg FB6.out
      have c61 := blk_cell hb3 0
      have z61 := blk_frozen hb3 0
      simp only [List.getElem?_toArray, List.getElem?_cons_zero] at c61
      have G1 := Aside0.mk ho
      have G2 := Aside0.mk hg
      have G3 := Aside0.mk hb3
      have G4 := Aside0.mk hat
      clear ho hb hg hb3 hat c6 z6 c3 hl1
      go_wp2
      obtain ⟨W2, hW2⟩ : ∃ W2, W2 = w1.setCell ⟨w.heap.size + 1, 0, none⟩ (.slice A1 pre1.length c1) := ⟨_, rfl⟩
      rw [← hW2]
      have hb4 : W2.heap[w.heap.size + 1]? = some (.cells #[.slice A1 pre1.length c1] 37 (0, 0)) := by rw [hW2]; simpa using blk_set G3.out 0 (.slice A1 pre1.length c1)
      have hkeep : ∀ k, k < W.heap.size → some k ≠ v.ownBlock → k ≠ w.heap.size + 1 → W2.heap[k]? = W.heap[k]? := fun k h1 h2 h3 => by
        rw [hW2]
        exact (Below.heap_setCell w1 _ _ k h3).trans (G2.out.block k h1 h2)
      have hsz : W.heap.size ≤ W2.heap.size := by rw [hW2]; simpa [World.setCell] using G2.out.size
      have hrow2 : ∀ k, Rowy W base k → some k ≠ v.ownBlock → Rowy W2 base k := fun k h1 h2 => by
        have h3 := h1.ne F3.out (by decide)
        have h4 := h1.lt
        obtain ⟨hb, cs, q, hc, hq⟩ := h1
        exact ⟨hb, cs, q, (hkeep k h4 h2 h3).trans hc, hq⟩
      have hown : ∀ k, okS k ∨ okx k → some k ≠ v.ownBlock := fun k hk e => by
        have h1 := SQ_ok F2.out k e.symm
        rcases hk with h | h
        · exact (F6.out k h).2.1 h1
        · exact (F7.out k h1).2.1 h
      have hTK : TkC w base b (w.heap.size + 1) w.heap.size (w.heap.size + 2) ok op sk most T pre1 fs2 (fun _ => False) W2 := by
        refine ⟨_, okS, (fun k => (okr k ∨ okx k ∨ W.heap.size ≤ k) ∧ Rowy w1 base k), Strm_step F1.out (fun k hk hlt => hkeep k hlt (hown k (.inl hk)) ((F6.out k hk).2.2.2.ne F3.out (by decide))), ?_, hb4, ?_, ?_, fun k hk => ⟨(F6.out k hk).1, ?_, fun h => h, hrow2 k (F6.out k hk).2.2.2 (hown k (.inl hk))⟩,
          fun k hk => ⟨?_, fun h => h, by rw [hW2]; exact hk.2.set _⟩, fun k hk => hk.elim, fun k hk => ⟨(F9.out k hk).1, ?_, fun h => h, (F9.out k hk).2.2.2.1, Nat.lt_of_lt_of_le (F9.out k hk).2.2.2.2 hsz⟩, ?_, ?_⟩
        · rw [hW2]
          exact SQ_step (SQ_rowy G1.out) (fun k hk _ => Below.heap_setCell w1 _ _ k (hk.2.ne G3.out (by decide)))
        · exact (hkeep _ (blk_lt F4.out) (fun e => (F7.out _ (SQ_ok F2.out _ e.symm)).2.2.ne F4.out (by decide) rfl) (by omega)).trans F4.out
        · exact (hkeep _ (blk_lt F5.out) (fun e => (F7.out _ (SQ_ok F2.out _ e.symm)).2.2.ne F5.out (by decide) rfl) (by omega)).trans F5.out
        · rintro ⟨h | h | h, _⟩
          · exact (F6.out k hk).2.1 h
          · exact (F6.out k hk).2.2.1 h
          · have := (F6.out k hk).2.2.2.lt
            omega
        · rcases hk.1 with h | h | h
          · exact (F7.out k h).1
          · exact .inl (F8.out k h).1
          · exact .inr (Nat.le_trans F10.out.size h)
        · rintro ⟨h | h | h, _⟩
          · exact (F9.out k hk).2.1 h
          · exact (F9.out k hk).2.2.1 h
          · have := (F9.out k hk).2.2.2.2
            omega
        · rw [hW2]
          exact (F10.out.then_ (Frm.of_grown G2.out (S := fun k => w.heap.size ≤ k) (fun k e => F11.out k e)) (fun k h1 h2 => by omega)).set_ (.inr (by show w.heap.size ≤ w.heap.size + 1; omega)) _
        · intro k hk
          rcases G4.out with h | ⟨b', h, h2⟩
          · exact F11.out k (h ▸ hk)
          · rw [hk] at h
            cases h
            exact Nat.le_trans F10.out.size h2
      have hTkeep : ∀ k, T k → W2.heap[k]? = W.heap[k]? := fun k hk => hkeep k (F9.out k hk).2.2.2.2 (fun e => (F9.out k hk).2.1 (SQ_ok F2.out k e.symm)) (F9.out k hk).2.2.2.1
      have c62 := blk_cell hb4 0
      have c32 : W2.cell? ⟨w.heap.size, 0, none⟩ = some (.int .i64 most) := by
        obtain ⟨_, _, _, _, _, _, h4, _⟩ := hTK
        exact blk_cell h4 0
      simp only [List.getElem?_toArray, List.getElem?_cons_zero] at c62
      have K1 := Aside0.mk hTK
      have K2 := Aside0.mk hTkeep
      have hle1 : (pre1.length : Int) ≤ most := by have := FL.out; have := FT.out; omega
      clear hW2 hb4 hkeep hsz hrow2 hown hTK hTkeep c61 z61
      by_cases hge : most ≤ (pre1.length : Int)
      · have hge' : (pre1.length : Int) = most := by omega
        have K3 := Aside0.mk hge'
        clear hge' hle1
        gi_wp2
        exact ⟨fun k hk => K2.out k hk.1, rfl, pre1, fs2, FS.out, K3.out, TkC_own K1.out (W' := W2) (row := none) ⟨rfl, rfl, rfl, Nat.le_refl _, fun _ _ _ => rfl⟩ (fun r e => by cases e) (fun k hk => hk.elim)⟩
      · have hge' : (pre1.length : Int) < most := by omega
        have K3 := Aside0.mk hge'
        clear hge' hle1
        gi_wp2
        exact ⟨fun k hk => K2.out k hk.1, pre1, FN.out.2, fs2, FS.out, K3.out, K1.out⟩
    case done =>
      rintro D pre W hD ⟨fs2, hfs, hlt, hTK⟩ hn hdef
      have hD' : w.heap.size ≤ D := Nat.le_trans HFC.out.size hD
      have hF2 : fs2 = [] := by
        obtain ⟨v, okS, okr, h1, _⟩ := hTK
        obtain ⟨vo, A, c, hb, _⟩ := Strm_blk h1
        obtain ⟨vo', A', c', sk', hb'⟩ := hn
        rw [hb] at hb'
        injection hb' with hb'
        injection hb' with hb'
        simp only [Array.mk.injEq, List.cons.injEq, Value.slice.injEq] at hb'
        exact List.eq_nil_of_length_eq_zero hb'.2.1.2.1
      have hTK2 := TkC_own (W' := W.putObj D (.deferred none)) hTK (grownBy_putObj' W D _) (fun r e => by cases e; exact ⟨hD', _, hdef, rfl⟩) (T' := fun _ => False) (fun k hk => hk.elim)
      obtain ⟨v, okS, okr, h1, h2, h3, h4, h5, h6, h7, h8, h9, h10, h11⟩ := hTK2
      have hc6 : W.cell? ⟨w.heap.size + 1, 0, none⟩ = some v := by
        have := h3
        rw [World.putObj_heap_other (fun e => by rw [← e] at hdef; obtain ⟨v', _, _, _, _, h3', _⟩ := hTK; rw [h3'] at hdef; cases hdef)] at this
        exact blk_cell this 0
      have K := Aside0.mk (show TkPost w base b ok op fs sk most (.returned (.tuple #[v, .bool true])) (W.putObj D (.deferred none)) from
        ⟨v, okS, okr, pre, fs2, rfl, hfs, by rw [hfs, hF2, List.append_nil]; omega, h2, h1, fun k hk => ⟨(h6 k hk).1, (h6 k hk).2.1⟩, fun k hk => (h7 k hk).1, h10⟩)
      clear h1 h2 h3 h4 h5 h6 h7 h8 h9 h10 h11 hF2 hTK hn hfs
      go_wp2
      refine ⟨by simp, .inl ⟨_, _, rfl, run_takeDeferred hdef, ?_⟩⟩
      exact ⟨_, results_tmp2 (fn := Try.f42) (t := 4) (u := 5) rfl _ _ _, K.out⟩
    case stop =>
      rintro D c W hD ⟨rfl, pre, fs2, hfs, hlt, hTK⟩ hdef
      have hD' : w.heap.size ≤ D := Nat.le_trans HFC.out.size hD
      have hTK2 := TkC_own (W' := W.putObj D (.deferred none)) hTK (grownBy_putObj' W D _) (fun r e => by cases e; exact ⟨hD', _, hdef, rfl⟩) (T' := fun _ => False) (fun k hk => hk.elim)
      obtain ⟨v, okS, okr, h1, h2, h3, h4, h5, h6, h7, h8, h9, h10, h11⟩ := hTK2
      have hc6 : W.cell? ⟨w.heap.size + 1, 0, none⟩ = some v := by
        have := h3
        rw [World.putObj_heap_other (fun e => by rw [← e] at hdef; obtain ⟨v', _, _, _, _, h3', _⟩ := hTK; rw [h3'] at hdef; cases hdef)] at this
        exact blk_cell this 0
      have K := Aside0.mk (show TkPost w base b ok op fs sk most (.returned (.tuple #[v, .bool true])) (W.putObj D (.deferred none)) from
        ⟨v, okS, okr, pre, fs2, rfl, hfs, by rw [hfs, List.length_append]; omega, h2, h1, fun k hk => ⟨(h6 k hk).1, (h6 k hk).2.1⟩, fun k hk => (h7 k hk).1, h10⟩)
      clear h1 h2 h3 h4 h5 h6 h7 h8 h9 h10 h11 hTK hfs
      go_wp2
      refine ⟨by simp, .inl ⟨_, _, rfl, run_takeDeferred hdef, ?_⟩⟩
      exact ⟨_, results_tmp2 (fn := Try.f42) (t := 4) (u := 5) rfl _ _ _, K.out⟩
end Go.Proofs.Ytnanaojjhmpilaa.PW
