/- WireNothing: a nil and a zero Stream. -/
import Derived.Test.YtnanaojjhmpilaaS9
import Derived.Test.YtnanaojjhmpilaaPWx9
import Derived.Outline
namespace Go.Proofs.Ytnanaojjhmpilaa.PW
open Go.RowKit Go.Proofs.YtnanaojjhmpilaaW.PrintWords Go.Proofs.YtnanaojjhmpilaaW.PrintLast Go.Proofs.YtnanaojjhmpilaaW.PrintMore
set_option linter.unusedVariables false
set_option linter.unusedSimpArgs false

theorem feed_nil (A : Option Addr) (n c : Nat) (w : World) : Calls Try.prog 39 #[.pointer none, .slice A n c] w fun e w' => (∃ v, e = .returned v) ∧ w = w' := by
  go_enter Try.func39, Try.ntmps39
  go_wp2
  refine bodyPost_ret (results_none rfl _ _ _) rfl ?_
  exact ⟨⟨_, rfl⟩, rfl⟩
theorem skipped_nil (w : World) : Calls Try.prog 44 #[.pointer none] w fun e w' => e = .returned (.int .i64 0) ∧ w = w' := by
  go_enter Try.func44, Try.ntmps44
  go_wp2
  go_ret
  exact ⟨rfl, rfl⟩
theorem bodies1_nil (l Bn : Nat) (W : World) (hc : W.cell? ⟨Bn, 0, none⟩ = some (.pointer none)) : Calls Try.prog 62 #[.func (.yield l) #[] #[], .pointer (some ⟨Bn, 0, none⟩)] W fun e W' => (∃ v, e = .returned v) ∧ Below W.heap.size W W' := by
  have hc1 : (W.alloc (.cells #[.func (.yield l) #[] #[]] 33)).cell? ⟨Bn, 0, none⟩ = some (.pointer none) := pw_cell_below (below_alloc (Below.refl _ _) _) hc
  go_enter Try.func62, Try.ntmps62
  go_wp2
  refine bodyPost_ret (results_none rfl _ _ _) rfl ?_
  exact ⟨⟨_, rfl⟩, below_alloc (Below.refl _ _) _⟩
/-- A range over an iterator that hands on nothing. -/
theorem rangeNone {P : Program} {g : Operand} {ps : Array Tmp} {assign body : Code} {Q : Exit → Act → World → Prop} {a : Act} {w : World} {gf : Nat} {lb : Array Value}
    (hg : a.eval g = .func (.func gf) #[] lb) (eg : ∀ args w, (callFunc gf args).run P w = .ok (.enter gf args) w)
    (hit : ∀ l W, Below w.heap.size w W → Calls P gf (#[.func (.yield l) #[] #[]] ++ lb) W fun e W' => (∃ v, e = .returned v) ∧ Below W.heap.size W W')
    (hdone : ∀ (D : Nat) (W : World), w.heap.size ≤ D → Below w.heap.size w W → W.heap[D]? = some (.deferred (some [])) → Q .normal { a with defers := { target := .collected D, args := #[] } :: a.defers } W) :
    (Code.rangeFunc g ps assign body).wp P Q a w := by
  refine (wpIn_wide (n := 0)).1 ?_
  refine wpIn_rangeFunc ?_
  intro fn hfn
  show ∃ (l : Nat) (mark : List Deferred) (w₁ : World) (d : Deferred) (w₁' : World) (f : FuncId) (args : Array Value) (w₂ : World),
      (Instr.enterLoop fn a.tmps ps assign body none).run P w = .ok (l, mark) w₁ ∧ _
  obtain ⟨rec, hrec⟩ : ∃ rec : LoopState → Option Code → Loop, rec = fun st pe => { state := st, pending := pe, fn, tmps := a.tmps, params := ps, assign, body, defers := w.heap.size } := ⟨_, rfl⟩
  obtain ⟨W1, hW1⟩ : ∃ W1, (w.alloc (.deferred (some []))).alloc (.loop (rec .ready none)) = W1 := ⟨_, rfl⟩
  have hs1 : W1.heap.size = w.heap.size + 2 := by rw [← hW1]; simp
  have hb1 : Below w.heap.size w W1 := by rw [← hW1]; exact below_alloc (below_alloc (Below.refl _ _) _) _
  have hL1 : W1.heap[w.heap.size + 1]? = some (.loop (rec .ready none)) := by
    rw [← hW1]; have := World.alloc_heap_new (w.alloc (.deferred (some []))) (.loop (rec .ready none)); rwa [World.size_alloc] at this
  have hK1 : W1.heap[w.heap.size]? = some (.deferred (some [])) := by
    rw [← hW1]; exact (Below.heap_alloc _ _ _ (by simp)).trans (World.alloc_heap_new w _)
  refine ⟨w.heap.size + 1, [{ target := .collected w.heap.size, args := #[] }], W1, { target := .fn (.func gf) lb, args := #[.func (.yield (w.heap.size + 1)) #[] #[]] }, W1, gf,
    #[.func (.yield (w.heap.size + 1)) #[] #[]] ++ lb, W1, ?_, ?_, ?_, ?_, fun h => by simp [Fence.wide] at h, ?_⟩
  · rw [← hW1, hrec]; exact run_enterLoop_outer _ _ _ _ _
  · simp only [resolve, hg]
    simp [go_sem]
  · intro f' hf'; trivial
  · simp [invoke, go_sem, eg]
  · refine (callsIn_wide.2 (hit (w.heap.size + 1) W1 hb1)).mono ?_
    rintro e W2 ⟨⟨v, rfl⟩, hb⟩
    have hl : W2.heap[w.heap.size + 1]? = some (.loop (rec .ready none)) := (hb.block _ (by omega)).trans hL1
    have hk : W2.heap[w.heap.size]? = some (.deferred (some [])) := (hb.block _ (by omega)).trans hK1
    refine ⟨none, _, by have := run_endLoop (P := P) hl (by rw [hrec]; simp); rw [hrec] at this; exact this, hdone _ _ (Nat.le_refl _) ?_ ((World.putObj_heap_other (by omega)).trans hk)⟩
    exact (below_step hb1 hb).grown (grownBy_putObj' W2 _ _) (Nat.le_trans (Nat.le_of_lt (by omega)) hb.size) (fun k e => by cases e; omega)
set_option maxRecDepth 100000 in
theorem taken_nil (w : World) : Calls Try.prog 42 #[.pointer none, .int .i64 9] w fun e w' => e = .returned (.tuple #[.slice none 0 0, .bool true]) ∧ Below w.heap.size w w' := by
  obtain ⟨wc, hwc⟩ : ∃ wc, wc = ((w.alloc (.cells #[.int .i64 9] 3)).alloc (.cells #[.slice none 0 0] 37)).alloc (.cells #[.pointer none] 51) := ⟨_, rfl⟩
  have hsz : ((w.alloc (.cells #[.int .i64 9] 3)).alloc (.cells #[.slice none 0 0] 37)).heap.size = w.heap.size + 2 := by simp
  have hzc : wc.heap.size = w.heap.size + 3 := by rw [hwc]; simp
  have h3 : wc.heap[w.heap.size]? = some (.cells #[.int .i64 9] 3 (0, 0)) := by rw [hwc]; exact (Below.heap_alloc _ _ _ (by simp; omega)).trans ((Below.heap_alloc _ _ _ (by simp)).trans (World.alloc_heap_new w _))
  have h6 : wc.heap[w.heap.size + 1]? = some (.cells #[.slice none 0 0] 37 (0, 0)) := by
    have := World.alloc_heap_new (w.alloc (.cells #[.int .i64 9] 3)) (.cells #[.slice none 0 0] 37)
    rw [World.size_alloc] at this
    rw [hwc]; exact (Below.heap_alloc _ _ _ (by simp)).trans this
  have hn : wc.heap[w.heap.size + 2]? = some (.cells #[.pointer none] 51 (0, 0)) := by
    have := World.alloc_heap_new ((w.alloc (.cells #[.int .i64 9] 3)).alloc (.cells #[.slice none 0 0] 37)) (.cells #[.pointer none] 51)
    rw [hsz] at this
    rw [hwc]; exact this
  have c3 := blk_cell h3 0
  have c6 := blk_cell h6 0
  have hcn := blk_cell hn 0
  simp only [List.getElem?_toArray, List.getElem?_cons_zero] at c3 c6 hcn
  have H6 := Aside0.mk h6
  have HN := Aside0.mk hcn
  have HB := Aside0.mk (show Below w.heap.size w wc by rw [hwc]; exact below_alloc (below_alloc (below_alloc (Below.refl _ _) _) _) _)
  have HWC := Aside0.mk hwc
  have HSZ := Aside0.mk hsz
  have hfn := fun_not_nil (w.heap.size + 2)
  clear h3 h6 hn hcn hwc hsz
  refine (callsIn_wide (n := 0)).1 (callsIn_of_wp_marks Try.func42 rfl trivial ?_)
  refine (wpIn_wide (n := 0)).2 ?_
  simp only [Try.ntmps42, List.size_toArray, List.length_cons, List.length_nil, Nat.reduceAdd, Nat.reduceSub, Array.replicate_succ, Array.replicate_zero, List.push_toArray, List.append_toArray, List.nil_append, List.cons_append]
  go_wp2_with fail
  refine (bodies_C _ _).mono ?_
  rintro e w1 ⟨rfl, rfl⟩
  rw [← HWC.out, HSZ.out]
  go_wp2
  refine rangeNone (gf := 62) (lb := #[.pointer (some ⟨w.heap.size + 2, 0, none⟩)]) rfl (enters_ Try.func62 (by kernel_rfl) rfl) (fun l W hb => bodies1_nil l (w.heap.size + 2) W (pw_cell_below hb HN.out)) ?_
  intro D W hD hb hdef
  have hc6 : W.cell? ⟨w.heap.size + 1, 0, none⟩ = some (.slice none 0 0) := pw_cell_below hb (blk_cell H6.out 0)
  have HD := Aside0.mk (show Below w.heap.size w (W.putObj D (.deferred none)) from (below_step HB.out hb).grown (grownBy_putObj' W D _) (Nat.le_trans HB.out.size hb.size) (fun k e => by cases e; omega))
  clear hb
  go_wp2
  refine ⟨by simp, .inl ⟨_, _, rfl, run_takeDeferred hdef, ?_⟩⟩
  exact ⟨_, results_tmp2 (fn := Try.f42) (t := 4) (u := 5) rfl _ _ _, rfl, HD.out⟩
set_option maxHeartbeats 8000000 in
set_option maxRecDepth 100000 in
theorem wireNothing_walk (w : World) : Calls Try.prog 17 #[] w fun e w' => e = .returned (.bool true) ∧ Below w.heap.size w w' := by
  go_enter Try.func17, Try.ntmps17
  go_wp2_with fail
  refine (heraldlaw2_awake.calls true _ rfl).mono ?_
  rintro e1 w1 ⟨rfl, hb⟩
  have B1 := Aside0.mk hb
  clear hb
  go_wp2_with fail
  refine (frame_N none 0 0 [] (frameOf []) _ rfl (Kd.C_nil _ _) (by decide) (by decide) rfl).mono ?_
  rintro e2 w2 ⟨v2, rfl, ho, hb⟩
  obtain ⟨L, hL⟩ : ∃ L, L = frameOf [] := ⟨_, rfl⟩
  rw [← hL] at ho
  obtain ⟨A2, c2, rfl, hl2, hC2⟩ := Kd.R_reads ho
  have hLs : (scan ([] ++ [] ++ L)) = ([[]], 0, []) := by
    have h := scan_frame [] [] (by decide) (by decide)
    rw [scan_nil, List.append_nil] at h
    rw [List.nil_append, List.nil_append, hL, h]
  have hLl : L.length = 14 := by rw [hL, frameOf_length]; rfl
  have B2 := Aside0.mk (below_step B1.out hb)
  have C2 := Aside0.mk (show Kd.R (Kd.int .u8) 5 w2 w1.heap.size (fun k => k < w2.heap.size) (.slice A2 L.length c2) L from Kd.R_mono (Kd.R_bound ho) (fun k hk => hk.2.2.1))
  have L1 := Aside0.mk hLs
  have L2 := Aside0.mk hLl
  have L3 := Aside0.mk (show bytesOk L = true by rw [hL]; exact frameOf_ok _ (by decide))
  clear ho hb hC2 hLs hLl hL B1
  go_wp2_with fail
  refine (feed_nil _ _ _ _).mono ?_
  rintro e3 w3 ⟨⟨v3, rfl⟩, rfl⟩
  go_wp2_with fail
  refine (taken_nil _).mono ?_
  rintro e4 w4 ⟨rfl, hb⟩
  have B4 := Aside0.mk (below_step B2.out hb)
  have C4 := Aside0.mk (show Kd.R (Kd.int .u8) 5 w4 w1.heap.size (fun k => k < w4.heap.size) (.slice A2 L.length c2) L from Kd.R_mono (Kd.R_below C2.out hb) (fun k hk => Nat.lt_of_lt_of_le hk hb.size))
  clear hb B2 C2
  go_wp2_with fail
  refine (takenAt w4.heap.size w4.heap.size (fun k => k = w4.heap.size) [] [] [] 9 _ (StrmAt_new (World.alloc_heap_new w4 _) (Nat.le_refl _)) (by simp) (by decide)).mono ?_
  rintro e5 w5 ⟨v5, okS5, okr5, fs1, fs2, rfl, hfs, hl5, hq5, hs5, hd5, _, hf5⟩
  obtain ⟨rfl, rfl⟩ : fs1 = [] ∧ fs2 = [] := by simpa using hfs.symm
  obtain ⟨A5, c5, rfl, hc5⟩ := SQ_slice hq5
  have hf5' : Frm w4 w5 (fun k => k = w4.heap.size) := (Frm.alloc (Frm.refl w4 (fun k => k = w4.heap.size)) _).then_ hf5 (fun k hk _ => hk)
  have B5 := Aside0.mk (below_frm B4.out hf5' (fun k (hk : k = w4.heap.size) => (by omega : w4.heap.size ≤ k)) B4.out.size)
  have C5 := Aside0.mk (R_far_frm C4.out hf5' (fun k (hk : k = w4.heap.size) => (by omega : w4.heap.size ≤ k)))
  have S5 := Aside0.mk (StrmAt_mono hs5 (fun k hk => (hd5 k hk).1))
  have Z4 := Aside0.mk B4.out.size
  have Z5 := Aside0.mk hf5'.size
  clear hfs hl5 hq5 hs5 hd5 hf5 hf5' B4 C4
  go_wp2_with fail
  refine (feedAt w4.heap.size w4.heap.size _ none 0 0 [] [] [] [] _ rfl (Kd.C_nil _ _) (Nat.le_refl _) rfl rfl S5.out Z5.out (by decide)).mono ?_
  rintro e6 w6 ⟨⟨v6, rfl⟩, ⟨fs6, hs6⟩, hf6⟩
  have B6 := Aside0.mk (below_frm B5.out hf6 (fun k (hk : k = w4.heap.size) => (by omega : w4.heap.size ≤ k)) Z4.out)
  have C6 := Aside0.mk (R_far_frm C5.out hf6 (fun k (hk : k = w4.heap.size) => (by omega : w4.heap.size ≤ k)))
  have S6 := Aside0.mk hs6
  have Z6 := Aside0.mk (Nat.le_trans Z5.out hf6.size)
  clear hs6 hf6 B5 C5 S5
  go_wp2_with fail
  refine (feedAt w4.heap.size w4.heap.size _ A2 c2 L.length L ([] ++ []) [] fs6 _ rfl (Kd.R_reads' C6.out).2.2 hl2 rfl L3.out S6.out Z6.out (by rw [L2.out]; decide)).mono ?_
  rintro e7 w7 ⟨⟨v7, rfl⟩, ⟨fs7, hs7⟩, hf7⟩
  obtain rfl : fs7 = [[]] := by
    have h := hs7.2
    rw [L1.out] at h
    exact h.symm
  have hS7 : ∀ k, (k = w4.heap.size ∨ w5.heap.size ≤ k) → w4.heap.size ≤ k := fun k hk => by have := Z5.out; omega
  have B7 := Aside0.mk (below_frm B6.out hf7 hS7 Z4.out)
  have S7 := Aside0.mk hs7
  have Z7 := Aside0.mk (Nat.le_trans Z6.out hf7.size)
  have hsz6 := Z6.out
  clear hs7 hf7 B6 C6 S6 hS7
  go_wp2_with fail
  refine (takenAt w4.heap.size w4.heap.size _ _ [] [[]] 9 _ S7.out Z7.out (by rw [List.length_append, L2.out]; decide)).mono ?_
  rintro e8 w8 ⟨v8, okS8, okr8, fs1, fs2, rfl, hfs, hl8, hq8, hs8, hd8, _, hf8⟩
  obtain rfl : fs1 = [[]] := by
    have h1 : fs1.length = 1 := by rw [hl8]; rfl
    match fs1, h1 with
    | [x], _ => simp at hfs; rw [hfs.1]
  obtain ⟨A8, c8, rfl, hl8'⟩ := SQ_slice hq8
  obtain ⟨okx, ad8, cs, rfl, hcs, hM, hcell, _, _⟩ := SQ_pop hq8
  obtain ⟨vx, rfl, hrx⟩ : ∃ v, cs = [v] ∧ Kd.R (Kd.int .u8) 5 w8 w4.heap.size okx v [] := hM
  obtain ⟨Ax, cx, rfl, hlx, hCx⟩ := Kd.R_reads hrx
  have hz0 := hcell 0 _ (by simp; rfl)
  rw [Addr.add_zero'] at hz0
  have B8 := Aside0.mk (below_frm B7.out hf8 (fun k (hk : k = w4.heap.size) => (by omega : w4.heap.size ≤ k)) Z4.out)
  obtain ⟨vo8, A8', c8', hb8, _⟩ := Strm_blk hs8.1
  rw [show (scan ([] ++ [] ++ L)).2.1 = 0 by rw [L1.out]] at hb8
  have K8 := Aside0.mk hb8
  clear hfs hl8 hq8 hs8 hd8 hf8 hcell hrx hCx hcs hb8 B7
  go_wp2_with fail
  refine (skipped_nil _).mono ?_
  rintro e9 w9 ⟨rfl, rfl⟩
  go_wp2_with fail
  refine (skipped_C w4.heap.size 0 vo8 _ _ K8.out).mono ?_
  rintro e10 w10 ⟨rfl, rfl⟩
  go_wp2
  go_ret
  exact ⟨rfl, B8.out⟩
end Go.Proofs.Ytnanaojjhmpilaa.PW
