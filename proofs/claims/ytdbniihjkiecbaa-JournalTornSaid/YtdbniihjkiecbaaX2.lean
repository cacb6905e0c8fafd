/- Words, contracts and walks of the law JournalTorn, in one text. -/
import Derived.Test.YtdbniihjkiecbaaX1
import Derived.Test.YtdbniihjkiecbaaPWx14
import Derived.Test.YtdbniihjkiecbaaPWx16
import Derived.Laws.Rows
namespace Go.Proofs.Ytdbniihjkiecbaa.PW
open Go.RowKit Go.Proofs.YtdbniihjkiecbaaW.PrintWords Go.Proofs.YtdbniihjkiecbaaW.PrintLast Go.Proofs.YtdbniihjkiecbaaW.PrintMore
set_option linter.unusedVariables false
set_option linter.unusedSimpArgs false

theorem k24_types {t : Nat} (h : t ∈ 24 :: k24.E) : t = 24 ∨ t = 40 := by
  have h' : t ∈ [24, 40] := h
  simpa using h'
theorem info24' : (Try.prog.info? 24).map (fun i => (i.zero, i.size, i.bytes)) = some (some (.agg entZero), 6, 64) := by kernel_rfl
set_option maxHeartbeats 8000000 in
set_option maxRecDepth 100000 in
theorem says_matched (w : World) (p : Nat) (s : SV) (E : Option Addr) (ne ce : Nat) (hp : w.heap[p]? = some (.cells (s.cells E ne ce) 53 (0, 0))) (vn : Int) :
    Calls Try.prog 130 #[.int .i64 vn, .pointer (some ⟨p, 0, none⟩)] w fun e w' => (∃ v, e = .returned v) ∧ w'.heap[p]? = some (.cells (({ s with ma := vn } : SV).cells E ne ce) 53 (0, 0)) ∧ Frm w w' (fun k => k = p) := by
  have hu53 := Try.underlying53
  have c3 := (blk_cell hp 3).trans rfl
  have z3 := blk_frozen hp 3
  have HP := Aside0.mk hp
  clear hp
  go_enter Try.func130, Try.ntmps130
  go_wp2
  go_end0
  exact ⟨⟨_, rfl⟩, blk_put HP.out 3 _ rfl, Frm.set_ (p := ⟨p, 3, none⟩) (Frm.refl w (fun k => k = p)) (.inl rfl) _⟩
set_option maxHeartbeats 8000000 in
set_option maxRecDepth 100000 in
theorem says_commit (w : World) (p : Nat) (s : SV) (E : Option Addr) (ne ce : Nat) (hp : w.heap[p]? = some (.cells (s.cells E ne ce) 53 (0, 0))) (a : Int) :
    Calls Try.prog 137 #[.int .i64 a, .pointer (some ⟨p, 0, none⟩)] w fun e w' => (∃ v, e = .returned v) ∧ w'.heap[p]? = some (.cells (({ s with co := a } : SV).cells E ne ce) 53 (0, 0)) ∧ Frm w w' (fun k => k = p) := by
  have hu53 := Try.underlying53
  have c3 := (blk_cell hp 8).trans rfl
  have z3 := blk_frozen hp 8
  have HP := Aside0.mk hp
  clear hp
  go_enter Try.func137, Try.ntmps137
  go_wp2
  go_end0
  exact ⟨⟨_, rfl⟩, blk_put HP.out 8 _ rfl, Frm.set_ (p := ⟨p, 8, none⟩) (Frm.refl w (fun k => k = p)) (.inl rfl) _⟩
set_option maxHeartbeats 16000000 in
set_option maxRecDepth 100000 in
theorem says_entry (w : World) (p : Nat) (s : SV) (E : Option Addr) (ne ce : Nat) (hp : w.heap[p]? = some (.cells (s.cells E ne ce) 53 (0, 0))) (base : Nat) (ok okx : Nat → Prop) (hR : Kd.R k24 24 w base ok (.slice E ne ce) s.es) (e : S24) (B : Option Addr) (mb cb : Nat) (hv : Kd.R k40 40 w base okx (.slice B mb cb) e.f5) (hokx : ∀ k, okx k → ok k ∧ some k ≠ (Value.slice E ne ce).ownBlock) (hfresh : ∀ k, w.heap.size ≤ k → ok k) (hbase : base ≤ w.heap.size) (hlen : s.es.length ≤ 1000000) (m : Nat) (hm : m = (s.es ++ [e]).length) :
    Calls Try.prog 126 #[.agg #[.int .i64 e.f0, .int .i64 e.f1, .int .i64 e.f2, .int .i64 e.f3, .int .i64 e.f4, .slice B mb cb], .pointer (some ⟨p, 0, none⟩)] w fun r w' => (∃ v, r = .returned v) ∧ ∃ E' ce', w'.heap[p]? = some (.cells (({ s with es := s.es ++ [e] } : SV).cells E' m ce') 53 (0, 0)) ∧
      Kd.R k24 24 w' base ok (.slice E' m ce') (s.es ++ [e]) ∧ Frm w w' (fun k => k = p ∨ (Value.slice E ne ce).ownBlock = some k) := by
  have hu53 := Try.underlying53
  have hu112 := Try.underlying112
  have HP := Aside0.mk hp
  have HR := Aside0.mk hR
  have HV := Aside0.mk hv
  have HOX := Aside0.mk hokx
  have HFR := Aside0.mk hfresh
  have HBS := Aside0.mk hbase
  have HLN := Aside0.mk hlen
  have HMM := Aside0.mk hm
  clear hp hR hv hokx hfresh hbase hlen hm
  go_enter Try.func126, Try.ntmps126
  go_wp2_with fail
  obtain ⟨g, hg⟩ : ∃ g, g = w.heap.size := ⟨_, rfl⟩
  obtain ⟨w1, hw1⟩ : ∃ w1, w1 = w.alloc (.cells #[.int .i64 e.f0, .int .i64 e.f1, .int .i64 e.f2, .int .i64 e.f3, .int .i64 e.f4, .slice B mb cb] 112) := ⟨_, rfl⟩
  rw [← hw1, ← hg]
  have HB := Aside0.mk (show Below w.heap.size w w1 by rw [hw1]; exact below_alloc (Below.refl _ _) _)
  have HG := Aside0.mk (show w1.heap[g]? = some (.cells #[.int .i64 e.f0, .int .i64 e.f1, .int .i64 e.f2, .int .i64 e.f3, .int .i64 e.f4, .slice B mb cb] 112 (0, 0)) by rw [hw1, hg]; exact heap_alloc_new w _)
  have HP1 := Aside0.mk ((HB.out.block p (blk_lt HP.out)).trans HP.out)
  have HPG := Aside0.mk (show p ≠ g ∧ w.heap.size ≤ g by have := blk_lt HP.out; omega)
  have HR1 := Aside0.mk (Kd.R_below HR.out HB.out)
  have HV1 := Aside0.mk (Kd.R_below HV.out HB.out)
  clear hw1 hg
  have c7 : w1.drew.cell? ⟨p, 7, none⟩ = some (.slice E ne ce) := (blk_cell (w := w1.drew) HP1.out 7).trans rfl
  have g0 : w1.drew.cell? ⟨g, 0, none⟩ = _ := (blk_cell (w := w1.drew) HG.out 0).trans rfl
  have g1 : w1.drew.cell? ⟨g, 1, none⟩ = _ := (blk_cell (w := w1.drew) HG.out 1).trans rfl
  have g2 : w1.drew.cell? ⟨g, 2, none⟩ = _ := (blk_cell (w := w1.drew) HG.out 2).trans rfl
  have g3 : w1.drew.cell? ⟨g, 3, none⟩ = _ := (blk_cell (w := w1.drew) HG.out 3).trans rfl
  have g4 : w1.drew.cell? ⟨g, 4, none⟩ = _ := (blk_cell (w := w1.drew) HG.out 4).trans rfl
  have g5 : w1.drew.cell? ⟨g, 5, none⟩ = _ := (blk_cell (w := w1.drew) HG.out 5).trans rfl
  refine start_ (n := 11) (S := fun w' => w'.cell? ⟨p, 7, none⟩ = some (.slice E ne ce) ∧ w'.cell? ⟨g, 0, none⟩ = some (.int .i64 e.f0) ∧ w'.cell? ⟨g, 1, none⟩ = some (.int .i64 e.f1) ∧ w'.cell? ⟨g, 2, none⟩ = some (.int .i64 e.f2) ∧ w'.cell? ⟨g, 3, none⟩ = some (.int .i64 e.f3) ∧ w'.cell? ⟨g, 4, none⟩ = some (.int .i64 e.f4) ∧ w'.cell? ⟨g, 5, none⟩ = some (.slice B mb cb)) (ds := [10]) #[ff, ff, ff, ff, ff, ff, ff, ff, ff, ff, ff] (by kernel_rfl) rfl rfl ⟨c7, g0, g1, g2, g3, g4, g5⟩ (fun hHeld => ?_)
  refine pure_ (i := 0) (N := some 4) (v := ?_) (a' := ?_) #[tt, ff, ff, ff, ff, ff, ff, ff, ff, ff, ff] rfl rfl (by kernel_rfl) (fun _ _ _ h => h) (Or.inl ⟨by rfl, ?_⟩) ?_ ?_
  rotate_left
  · intro w'
    go_simp
    with_reducible rfl
  rotate_left
  · simp only [Act.put, sx1, sx2, sx3, i64_w, i32_w]
    rfl
  refine pure_ (i := 1) (N := some 5) (v := ?_) (a' := ?_) #[tt, tt, ff, ff, ff, ff, ff, ff, ff, ff, ff] rfl rfl (by kernel_rfl) (fun _ _ _ h => h) (Or.inl ⟨by rfl, ?_⟩) ?_ ?_
  rotate_left
  · intro w'
    go_simp
    with_reducible rfl
  rotate_left
  · simp only [Act.put, sx1, sx2, sx3, i64_w, i32_w]
    rfl
  refine pure_ (i := 2) (N := some 6) (v := ?_) (a' := ?_) #[tt, tt, tt, ff, ff, ff, ff, ff, ff, ff, ff] rfl rfl (by kernel_rfl) (fun _ _ _ h => h) (Or.inl ⟨by rfl, ?_⟩) ?_ ?_
  rotate_left
  · intro w'
    go_simp
    with_reducible rfl
  rotate_left
  · simp only [Act.put, sx1, sx2, sx3, i64_w, i32_w]
    rfl
  refine pure_ (i := 3) (N := some 7) (v := ?_) (a' := ?_) #[tt, tt, tt, tt, ff, ff, ff, ff, ff, ff, ff] rfl rfl (by kernel_rfl) (fun _ _ _ h => h) (Or.inl ⟨by rfl, ?_⟩) ?_ ?_
  rotate_left
  · intro w'
    go_simp
    with_reducible rfl
  rotate_left
  · simp only [Act.put, sx1, sx2, sx3, i64_w, i32_w]
    rfl
  refine take_ (i := 4) (N := some 8) (v := ?_) (a' := ?_) #[tt, tt, tt, tt, tt, ff, ff, ff, ff, ff, ff] rfl rfl (by kernel_rfl) (fun _ _ _ h => h) (Or.inl ⟨by rfl, ?_⟩) hHeld ?_ ?_
  rotate_left
  · rintro w' ⟨s0, s1, s2, s3, s4, s5, s6⟩
    go_simp
    with_reducible rfl
  rotate_left
  · simp only [Act.put, sx1, sx2, sx3, i64_w, i32_w]
    rfl
  refine take_ (i := 5) (N := some 9) (v := ?_) (a' := ?_) #[tt, tt, tt, tt, tt, tt, ff, ff, ff, ff, ff] rfl rfl (by kernel_rfl) (fun _ _ _ h => h) (Or.inl ⟨by rfl, ?_⟩) hHeld ?_ ?_
  rotate_left
  · rintro w' ⟨s0, s1, s2, s3, s4, s5, s6⟩
    go_simp
    with_reducible rfl
  rotate_left
  · simp only [Act.put, sx1, sx2, sx3, i64_w, i32_w]
    rfl
  refine one_ (i := 6) (N := some 10) #[tt, tt, tt, tt, tt, tt, tt, ff, ff, ff, ff] rfl rfl (by kernel_rfl) (by decide) (fun K hK => ?_)
  refine value_ (w1 := ?_) (v := ?_) (by rfl) rfl ?_ ?_
  rotate_left 2
  · go_simp
    constructor
    · rfl
    · rfl
  refine hK.out _ _ ⟨pw_cell_below (below_alloc (Below.refl _ _) _) c7, pw_cell_below (below_alloc (Below.refl _ _) _) g0, pw_cell_below (below_alloc (Below.refl _ _) _) g1, pw_cell_below (below_alloc (Below.refl _ _) _) g2, pw_cell_below (below_alloc (Below.refl _ _) _) g3, pw_cell_below (below_alloc (Below.refl _ _) _) g4, pw_cell_below (below_alloc (Below.refl _ _) _) g5⟩ (fun hHeld => ?_)
  clear hK K
  refine norm_ (a' := ?_) ?_ ?_
  rotate_left
  · show Act.put _ (some 10) _ = _
    simp only [Act.put, sx1, sx2, sx3, i64_w, i32_w]
    rfl
  refine one_ (i := 7) (N := some 11) #[tt, tt, tt, tt, tt, tt, tt, tt, ff, ff, ff] rfl rfl (by kernel_rfl) (by decide) (fun K hK => ?_)
  refine Kd.R_append_step k24 (w0 := w1.drew) (W := w1.drew) base (by rfl) (.tmp 8) (.tmp 10) 51 24 (.agg entZero) 64 rfl Try.underlying51 info24' rfl (by decide) (by decide) (.slice E ne ce) s.es e [.int .i64 e.f0, .int .i64 e.f1, .int .i64 e.f2, .int .i64 e.f3, .int .i64 e.f4, .slice B mb cb] ok okx rfl rfl
    (k24_mkM _ _ _ _ (Kd.R_step HV1.out (fun _ _ _ => rfl))) HOX.out (fun k hk => HFR.out k (Nat.le_trans HB.out.size hk)) (Kd.R_step HR1.out (fun _ _ _ => rfl)) (Below.refl _ _) (Nat.le_trans HBS.out HB.out.size) (by have := HLN.out; omega) ?_
  intro v6 w6 ho6 hb6 hg6 hat6
  obtain ⟨A6, c6, rfl⟩ := Kd.R_slice ho6
  rw [← HMM.out] at ho6 hat6 ⊢
  have hp6 := blk_grown (w := w1.drew) HP1.out hg6 (Kd.R_ne HR1.out HP1.out (by decide))
  have hg6b := blk_grown (w := w1.drew) HG.out hg6 (Kd.R_ne HR1.out HG.out (by decide))
  have p7 : w6.cell? ⟨p, 7, none⟩ = some (.slice E ne ce) := (blk_cell hp6 7).trans rfl
  have q0 : w6.cell? ⟨g, 0, none⟩ = _ := (blk_cell hg6b 0).trans rfl
  have q1 : w6.cell? ⟨g, 1, none⟩ = _ := (blk_cell hg6b 1).trans rfl
  have q2 : w6.cell? ⟨g, 2, none⟩ = _ := (blk_cell hg6b 2).trans rfl
  have q3 : w6.cell? ⟨g, 3, none⟩ = _ := (blk_cell hg6b 3).trans rfl
  have q4 : w6.cell? ⟨g, 4, none⟩ = _ := (blk_cell hg6b 4).trans rfl
  have q5 : w6.cell? ⟨g, 5, none⟩ = _ := (blk_cell hg6b 5).trans rfl
  have HO6 := Aside0.mk ho6
  have HG6 := Aside0.mk hg6
  have HP6 := Aside0.mk hp6
  have z7 := blk_frozen hp6 7
  clear ho6 hb6 hg6 hat6 hp6 hg6b
  refine hK.out _ _ ⟨p7, q0, q1, q2, q3, q4, q5⟩ (fun hHeld => ?_)
  clear hK K
  refine norm_ (a' := ?_) ?_ ?_
  rotate_left
  · show Act.put _ (some 11) _ = _
    simp only [Act.put, sx1, sx2, sx3, i64_w, i32_w]
    rfl
  refine pure_ (i := 8) (N := some 12) (v := ?_) (a' := ?_) #[tt, tt, tt, tt, tt, tt, tt, tt, tt, ff, ff] rfl rfl (by kernel_rfl) (fun _ _ _ h => h) (Or.inl ⟨by rfl, ?_⟩) ?_ ?_
  rotate_left
  · intro w'
    go_simp
    with_reducible rfl
  rotate_left
  · simp only [Act.put, sx1, sx2, sx3, i64_w, i32_w]
    rfl
  refine pure_ (i := 9) (N := some 13) (v := ?_) (a' := ?_) #[tt, tt, tt, tt, tt, tt, tt, tt, tt, tt, ff] rfl rfl (by kernel_rfl) (fun _ _ _ h => h) (Or.inl ⟨by rfl, ?_⟩) ?_ ?_
  rotate_left
  · intro w'
    go_simp
    with_reducible rfl
  rotate_left
  · simp only [Act.put, sx1, sx2, sx3, i64_w, i32_w]
    rfl
  refine last_ (i := 10) (N := none) #[tt, tt, tt, tt, tt, tt, tt, tt, tt, tt, tt] rfl rfl (by kernel_rfl) (by decide) (fun K hK => ?_)
  refine skip_ (w1 := ?_) (by rfl) rfl ?_ ?_
  rotate_left
  · go_simp
    rfl
  refine hK.out _ _ ?_
  clear hK K
  refine done_ (by kernel_rfl) ?_
  go_end0
  refine ⟨⟨_, rfl⟩, A6, c6, ?_, ?_, ?_⟩
  · exact blk_put HP6.out 7 _ rfl
  · exact Kd.R_set HO6.out HP6.out (fun t ht => by rcases k24_types ht with rfl | rfl <;> decide) 7 _
  · refine Frm.set_ (p := ⟨p, 7, none⟩) ?_ (.inl (.inl rfl)) _
    exact (Frm.of_below (below_drew1 HB.out) _).then_ (Frm.of_grown (S := fun k => k = p ∨ (Value.slice E ne ce).ownBlock = some k) (w := w1.drew) HG6.out (fun k e => .inr e)) (fun k hk _ => hk)
set_option maxHeartbeats 16000000 in
set_option maxRecDepth 100000 in
theorem says_reset (w : World) (p : Nat) (s : SV) (E : Option Addr) (ne ce : Nat) (hp : w.heap[p]? = some (.cells (s.cells E ne ce) 53 (0, 0))) (kd a v k se rq : Int) (A : Option Addr) (n c : Nat) (vn vp vb st of : Int) (x : ByteArray) :
    Calls Try.prog 132 #[.agg (recCells kd a v k se rq A n c vn vp vb st of x), .pointer (some ⟨p, 0, none⟩)] w fun r w' => (∃ v, r = .returned v) ∧ w'.heap[p]? = some (.cells (({ s with ma := vn, st := st, of := of, x := x, co := st, es := [] } : SV).cells none 0 0) 53 (0, 0)) ∧ Frm w w' (fun k => k = p) := by
  have hu53 := Try.underlying53
  have hu26 := Try.underlying26
  have hu115 := Try.underlying115
  have HP := Aside0.mk hp
  clear hp
  go_enter Try.func132, Try.ntmps132
  go_upto_region 1 with (fail)
  obtain ⟨g, hg⟩ : ∃ g, g = w.heap.size := ⟨_, rfl⟩
  obtain ⟨w1, hw1⟩ : ∃ w1, w1 = w.alloc (.cells (recCells kd a v k se rq A n c vn vp vb st of x) 115) := ⟨_, rfl⟩
  rw [← hw1, ← hg]
  have HB := Aside0.mk (show Below w.heap.size w w1 by rw [hw1]; exact below_alloc (Below.refl _ _) _)
  have HG := Aside0.mk (show w1.heap[g]? = some (.cells (recCells kd a v k se rq A n c vn vp vb st of x) 115 (0, 0)) by rw [hw1, hg]; exact heap_alloc_new w _)
  have HP1 := Aside0.mk ((HB.out.block p (blk_lt HP.out)).trans HP.out)
  have HPG := Aside0.mk (show g ≠ p by have := blk_lt HP.out; omega)
  clear hw1 hg
  have c3 := (blk_cell HP1.out 3).trans rfl
  have z3 := blk_frozen HP1.out 3
  have g7 := (blk_cell HG.out 7).trans rfl
  go_wp2_with fail
  clear c3 z3 g7
  obtain ⟨w2, hw2⟩ : ∃ w2, w2 = w1.setCell ⟨p, 3, none⟩ (.int .i64 vn) := ⟨_, rfl⟩
  rw [← hw2]
  have HP2 := Aside0.mk (show w2.heap[p]? = some (.cells (({ s with ma := vn } : SV).cells E ne ce) 53 (0, 0)) by rw [hw2]; exact blk_put HP1.out 3 _ rfl)
  have HG2 := Aside0.mk (show w2.heap[g]? = some (.cells (recCells kd a v k se rq A n c vn vp vb st of x) 115 (0, 0)) by rw [hw2]; exact blk_far HG.out (by simp only; exact HPG.out) _)
  have HX2 := Aside0.mk (show Frm w w2 (fun k => k = p) by rw [hw2]; exact Frm.set_ (p := ⟨p, 3, none⟩) (Frm.of_below HB.out (fun k => k = p)) (.inl rfl) _)
  clear hw2
  have a10 : w2.drew.cell? ⟨g, 10, none⟩ = some (.int .i64 st) := (blk_cell (w := w2.drew) HG2.out 10).trans rfl
  have a11 : w2.drew.cell? ⟨g, 11, none⟩ = some (.int .i64 of) := (blk_cell (w := w2.drew) HG2.out 11).trans rfl
  have a12 : w2.drew.cell? ⟨g, 12, none⟩ = some (.string x) := (blk_cell (w := w2.drew) HG2.out 12).trans rfl
  have b10 : w2.cell? ⟨g, 10, none⟩ = some (.int .i64 st) := a10
  have b11 : w2.cell? ⟨g, 11, none⟩ = some (.int .i64 of) := a11
  have b12 : w2.cell? ⟨g, 12, none⟩ = some (.string x) := a12
  have c4 := (blk_cell HP2.out 4).trans rfl
  have c5 := (blk_cell HP2.out 5).trans rfl
  have c6 := (blk_cell HP2.out 6).trans rfl
  have c8 := (blk_cell HP2.out 8).trans rfl
  have z4 := blk_frozen HP2.out 4
  have z5 := blk_frozen HP2.out 5
  have z6 := blk_frozen HP2.out 6
  have z8 := blk_frozen HP2.out 8
  have hgp := HPG.out
  refine start_ (n := 24) (S := fun w' => w'.cell? ⟨g, 10, none⟩ = some (.int .i64 st) ∧ w'.cell? ⟨g, 11, none⟩ = some (.int .i64 of) ∧ w'.cell? ⟨g, 12, none⟩ = some (.string x)) (ds := [23]) #[ff, ff, ff, ff, ff, ff, ff, ff, ff, ff, ff, ff, ff, ff, ff, ff, ff, ff, ff, ff, ff, ff, ff, ff] (by kernel_rfl) rfl rfl ⟨a10, a11, a12⟩ (fun hHeld => ?_)
  refine pure_ (i := 0) (N := some 10) (v := ?_) (a' := ?_) #[tt, ff, ff, ff, ff, ff, ff, ff, ff, ff, ff, ff, ff, ff, ff, ff, ff, ff, ff, ff, ff, ff, ff, ff] rfl rfl (by kernel_rfl) (fun _ _ _ h => h) (Or.inl ⟨by rfl, ?_⟩) ?_ ?_
  rotate_left
  · intro w'
    go_simp
    with_reducible rfl
  rotate_left
  · simp only [Act.put, sx1, sx2, sx3, i64_w, i32_w]
    rfl
  refine pure_ (i := 1) (N := some 11) (v := ?_) (a' := ?_) #[tt, tt, ff, ff, ff, ff, ff, ff, ff, ff, ff, ff, ff, ff, ff, ff, ff, ff, ff, ff, ff, ff, ff, ff] rfl rfl (by kernel_rfl) (fun _ _ _ h => h) (Or.inl ⟨by rfl, ?_⟩) ?_ ?_
  rotate_left
  · intro w'
    go_simp
    with_reducible rfl
  rotate_left
  · simp only [Act.put, sx1, sx2, sx3, i64_w, i32_w]
    rfl
  refine pure_ (i := 2) (N := some 12) (v := ?_) (a' := ?_) #[tt, tt, tt, ff, ff, ff, ff, ff, ff, ff, ff, ff, ff, ff, ff, ff, ff, ff, ff, ff, ff, ff, ff, ff] rfl rfl (by kernel_rfl) (fun _ _ _ h => h) (Or.inl ⟨by rfl, ?_⟩) ?_ ?_
  rotate_left
  · intro w'
    go_simp
    with_reducible rfl
  rotate_left
  · simp only [Act.put, sx1, sx2, sx3, i64_w, i32_w]
    rfl
  refine pure_ (i := 3) (N := some 13) (v := ?_) (a' := ?_) #[tt, tt, tt, tt, ff, ff, ff, ff, ff, ff, ff, ff, ff, ff, ff, ff, ff, ff, ff, ff, ff, ff, ff, ff] rfl rfl (by kernel_rfl) (fun _ _ _ h => h) (Or.inl ⟨by rfl, ?_⟩) ?_ ?_
  rotate_left
  · intro w'
    go_simp
    with_reducible rfl
  rotate_left
  · simp only [Act.put, sx1, sx2, sx3, i64_w, i32_w]
    rfl
  refine pure_ (i := 4) (N := some 14) (v := ?_) (a' := ?_) #[tt, tt, tt, tt, tt, ff, ff, ff, ff, ff, ff, ff, ff, ff, ff, ff, ff, ff, ff, ff, ff, ff, ff, ff] rfl rfl (by kernel_rfl) (fun _ _ _ h => h) (Or.inl ⟨by rfl, ?_⟩) ?_ ?_
  rotate_left
  · intro w'
    go_simp
    with_reducible rfl
  rotate_left
  · simp only [Act.put, sx1, sx2, sx3, i64_w, i32_w]
    rfl
  refine pure_ (i := 6) (N := some 16) (v := ?_) (a' := ?_) #[tt, tt, tt, tt, tt, ff, tt, ff, ff, ff, ff, ff, ff, ff, ff, ff, ff, ff, ff, ff, ff, ff, ff, ff] rfl rfl (by kernel_rfl) (fun _ _ _ h => h) (Or.inl ⟨by rfl, ?_⟩) ?_ ?_
  rotate_left
  · intro w'
    go_simp
    with_reducible rfl
  rotate_left
  · simp only [Act.put, sx1, sx2, sx3, i64_w, i32_w]
    rfl
  refine pure_ (i := 8) (N := some 18) (v := ?_) (a' := ?_) #[tt, tt, tt, tt, tt, ff, tt, ff, tt, ff, ff, ff, ff, ff, ff, ff, ff, ff, ff, ff, ff, ff, ff, ff] rfl rfl (by kernel_rfl) (fun _ _ _ h => h) (Or.inl ⟨by rfl, ?_⟩) ?_ ?_
  rotate_left
  · intro w'
    go_simp
    with_reducible rfl
  rotate_left
  · simp only [Act.put, sx1, sx2, sx3, i64_w, i32_w]
    rfl
  refine pure_ (i := 10) (N := some 20) (v := ?_) (a' := ?_) #[tt, tt, tt, tt, tt, ff, tt, ff, tt, ff, tt, ff, ff, ff, ff, ff, ff, ff, ff, ff, ff, ff, ff, ff] rfl rfl (by kernel_rfl) (fun _ _ _ h => h) (Or.inl ⟨by rfl, ?_⟩) ?_ ?_
  rotate_left
  · intro w'
    go_simp
    with_reducible rfl
  rotate_left
  · simp only [Act.put, sx1, sx2, sx3, i64_w, i32_w]
    rfl
  refine take_ (i := 5) (N := some 15) (v := ?_) (a' := ?_) #[tt, tt, tt, tt, tt, tt, tt, ff, tt, ff, tt, ff, ff, ff, ff, ff, ff, ff, ff, ff, ff, ff, ff, ff] rfl rfl (by kernel_rfl) (fun _ _ _ h => h) (Or.inl ⟨by rfl, ?_⟩) hHeld ?_ ?_
  rotate_left
  · rintro w' ⟨s0, s1, s2⟩
    go_simp
    with_reducible rfl
  rotate_left
  · simp only [Act.put, sx1, sx2, sx3, i64_w, i32_w]
    rfl
  refine pure_ (i := 12) (N := some 22) (v := ?_) (a' := ?_) #[tt, tt, tt, tt, tt, tt, tt, ff, tt, ff, tt, ff, tt, ff, ff, ff, ff, ff, ff, ff, ff, ff, ff, ff] rfl rfl (by kernel_rfl) (fun _ _ _ h => h) (Or.inl ⟨by rfl, ?_⟩) ?_ ?_
  rotate_left
  · intro w'
    go_simp
    with_reducible rfl
  rotate_left
  · simp only [Act.put, sx1, sx2, sx3, i64_w, i32_w]
    rfl
  refine pure_ (i := 13) (N := some 23) (v := ?_) (a' := ?_) #[tt, tt, tt, tt, tt, tt, tt, ff, tt, ff, tt, ff, tt, tt, ff, ff, ff, ff, ff, ff, ff, ff, ff, ff] rfl rfl (by kernel_rfl) (fun _ _ _ h => h) (Or.inl ⟨by rfl, ?_⟩) ?_ ?_
  rotate_left
  · intro w'
    go_simp
    with_reducible rfl
  rotate_left
  · simp only [Act.put, sx1, sx2, sx3, i64_w, i32_w]
    rfl
  refine take_ (i := 7) (N := some 17) (v := ?_) (a' := ?_) #[tt, tt, tt, tt, tt, tt, tt, tt, tt, ff, tt, ff, tt, tt, ff, ff, ff, ff, ff, ff, ff, ff, ff, ff] rfl rfl (by kernel_rfl) (fun _ _ _ h => h) (Or.inl ⟨by rfl, ?_⟩) hHeld ?_ ?_
  rotate_left
  · rintro w' ⟨s0, s1, s2⟩
    go_simp
    with_reducible rfl
  rotate_left
  · simp only [Act.put, sx1, sx2, sx3, i64_w, i32_w]
    rfl
  refine take_ (i := 9) (N := some 19) (v := ?_) (a' := ?_) #[tt, tt, tt, tt, tt, tt, tt, tt, tt, tt, tt, ff, tt, tt, ff, ff, ff, ff, ff, ff, ff, ff, ff, ff] rfl rfl (by kernel_rfl) (fun _ _ _ h => h) (Or.inl ⟨by rfl, ?_⟩) hHeld ?_ ?_
  rotate_left
  · rintro w' ⟨s0, s1, s2⟩
    go_simp
    with_reducible rfl
  rotate_left
  · simp only [Act.put, sx1, sx2, sx3, i64_w, i32_w]
    rfl
  refine take_ (i := 11) (N := some 21) (v := ?_) (a' := ?_) #[tt, tt, tt, tt, tt, tt, tt, tt, tt, tt, tt, tt, tt, tt, ff, ff, ff, ff, ff, ff, ff, ff, ff, ff] rfl rfl (by kernel_rfl) (fun _ _ _ h => h) (Or.inl ⟨by rfl, ?_⟩) hHeld ?_ ?_
  rotate_left
  · rintro w' ⟨s0, s1, s2⟩
    go_simp
    with_reducible rfl
  rotate_left
  · simp only [Act.put, sx1, sx2, sx3, i64_w, i32_w]
    rfl
  refine one_ (i := 14) (N := none) #[tt, tt, tt, tt, tt, tt, tt, tt, tt, tt, tt, tt, tt, tt, tt, ff, ff, ff, ff, ff, ff, ff, ff, ff] rfl rfl (by kernel_rfl) (by decide) (fun K hK => ?_)
  refine skip_ (w1 := ?_) (by rfl) rfl ?_ ?_
  rotate_left
  · go_simp
    rfl
  refine hK.out _ _ ⟨(by first | exact set_other hgp a10 | exact drew_cell (set_other hgp b10) | exact set_other hgp b10), (by first | exact set_other hgp a11 | exact drew_cell (set_other hgp b11) | exact set_other hgp b11), (by first | exact set_other hgp a12 | exact drew_cell (set_other hgp b12) | exact set_other hgp b12)⟩ (fun hHeld => ?_)
  clear hK K
  refine pure_ (i := 15) (N := some 24) (v := ?_) (a' := ?_) #[tt, tt, tt, tt, tt, tt, tt, tt, tt, tt, tt, tt, tt, tt, tt, tt, ff, ff, ff, ff, ff, ff, ff, ff] rfl rfl (by kernel_rfl) (fun _ _ _ h => h) (Or.inl ⟨by rfl, ?_⟩) ?_ ?_
  rotate_left
  · intro w'
    go_simp
    with_reducible rfl
  rotate_left
  · simp only [Act.put, sx1, sx2, sx3, i64_w, i32_w]
    rfl
  refine pure_ (i := 16) (N := some 25) (v := ?_) (a' := ?_) #[tt, tt, tt, tt, tt, tt, tt, tt, tt, tt, tt, tt, tt, tt, tt, tt, tt, ff, ff, ff, ff, ff, ff, ff] rfl rfl (by kernel_rfl) (fun _ _ _ h => h) (Or.inl ⟨by rfl, ?_⟩) ?_ ?_
  rotate_left
  · intro w'
    go_simp
    with_reducible rfl
  rotate_left
  · simp only [Act.put, sx1, sx2, sx3, i64_w, i32_w]
    rfl
  refine one_ (i := 17) (N := none) #[tt, tt, tt, tt, tt, tt, tt, tt, tt, tt, tt, tt, tt, tt, tt, tt, tt, tt, ff, ff, ff, ff, ff, ff] rfl rfl (by kernel_rfl) (by decide) (fun K hK => ?_)
  refine skip_ (w1 := ?_) (by rfl) rfl ?_ ?_
  rotate_left
  · go_simp
    rfl
  refine hK.out _ _ ⟨(by first | exact set_other hgp (set_other hgp a10) | exact drew_cell (set_other hgp (set_other hgp b10)) | exact set_other hgp (set_other hgp b10)), (by first | exact set_other hgp (set_other hgp a11) | exact drew_cell (set_other hgp (set_other hgp b11)) | exact set_other hgp (set_other hgp b11)), (by first | exact set_other hgp (set_other hgp a12) | exact drew_cell (set_other hgp (set_other hgp b12)) | exact set_other hgp (set_other hgp b12))⟩ (fun hHeld => ?_)
  clear hK K
  refine pure_ (i := 18) (N := some 26) (v := ?_) (a' := ?_) #[tt, tt, tt, tt, tt, tt, tt, tt, tt, tt, tt, tt, tt, tt, tt, tt, tt, tt, tt, ff, ff, ff, ff, ff] rfl rfl (by kernel_rfl) (fun _ _ _ h => h) (Or.inl ⟨by rfl, ?_⟩) ?_ ?_
  rotate_left
  · intro w'
    go_simp
    with_reducible rfl
  rotate_left
  · simp only [Act.put, sx1, sx2, sx3, i64_w, i32_w]
    rfl
  refine pure_ (i := 19) (N := some 27) (v := ?_) (a' := ?_) #[tt, tt, tt, tt, tt, tt, tt, tt, tt, tt, tt, tt, tt, tt, tt, tt, tt, tt, tt, tt, ff, ff, ff, ff] rfl rfl (by kernel_rfl) (fun _ _ _ h => h) (Or.inl ⟨by rfl, ?_⟩) ?_ ?_
  rotate_left
  · intro w'
    go_simp
    with_reducible rfl
  rotate_left
  · simp only [Act.put, sx1, sx2, sx3, i64_w, i32_w]
    rfl
  refine one_ (i := 20) (N := none) #[tt, tt, tt, tt, tt, tt, tt, tt, tt, tt, tt, tt, tt, tt, tt, tt, tt, tt, tt, tt, tt, ff, ff, ff] rfl rfl (by kernel_rfl) (by decide) (fun K hK => ?_)
  refine skip_ (w1 := ?_) (by rfl) rfl ?_ ?_
  rotate_left
  · go_simp
    rfl
  refine hK.out _ _ ⟨(by first | exact set_other hgp (set_other hgp (set_other hgp a10)) | exact drew_cell (set_other hgp (set_other hgp (set_other hgp b10))) | exact set_other hgp (set_other hgp (set_other hgp b10))), (by first | exact set_other hgp (set_other hgp (set_other hgp a11)) | exact drew_cell (set_other hgp (set_other hgp (set_other hgp b11))) | exact set_other hgp (set_other hgp (set_other hgp b11))), (by first | exact set_other hgp (set_other hgp (set_other hgp a12)) | exact drew_cell (set_other hgp (set_other hgp (set_other hgp b12))) | exact set_other hgp (set_other hgp (set_other hgp b12)))⟩ (fun hHeld => ?_)
  clear hK K
  refine pure_ (i := 21) (N := some 28) (v := ?_) (a' := ?_) #[tt, tt, tt, tt, tt, tt, tt, tt, tt, tt, tt, tt, tt, tt, tt, tt, tt, tt, tt, tt, tt, tt, ff, ff] rfl rfl (by kernel_rfl) (fun _ _ _ h => h) (Or.inl ⟨by rfl, ?_⟩) ?_ ?_
  rotate_left
  · intro w'
    go_simp
    with_reducible rfl
  rotate_left
  · simp only [Act.put, sx1, sx2, sx3, i64_w, i32_w]
    rfl
  refine pure_ (i := 22) (N := some 29) (v := ?_) (a' := ?_) #[tt, tt, tt, tt, tt, tt, tt, tt, tt, tt, tt, tt, tt, tt, tt, tt, tt, tt, tt, tt, tt, tt, tt, ff] rfl rfl (by kernel_rfl) (fun _ _ _ h => h) (Or.inl ⟨by rfl, ?_⟩) ?_ ?_
  rotate_left
  · intro w'
    go_simp
    with_reducible rfl
  rotate_left
  · simp only [Act.put, sx1, sx2, sx3, i64_w, i32_w]
    rfl
  refine last_ (i := 23) (N := none) #[tt, tt, tt, tt, tt, tt, tt, tt, tt, tt, tt, tt, tt, tt, tt, tt, tt, tt, tt, tt, tt, tt, tt, tt] rfl rfl (by kernel_rfl) (by decide) (fun K hK => ?_)
  refine skip_ (w1 := ?_) (by rfl) rfl ?_ ?_
  rotate_left
  · go_simp
    rfl
  refine hK.out _ _ ?_
  clear hK K
  refine done_ (by kernel_rfl) ?_
  clear hHeld a10 a11 a12 b10 b11 b12 c4 c5 c6 c8 z4 z5 z6 z8 hgp
  obtain ⟨w7, hw7⟩ : ∃ w7, w7 = ((((w2.setCell ⟨p, 4, none⟩ (.int .i64 st)).setCell ⟨p, 5, none⟩ (.int .i64 of)).setCell ⟨p, 6, none⟩ (.string x)).setCell ⟨p, 8, none⟩ (.int .i64 st)).drew := ⟨_, rfl⟩
  rw [← hw7]
  have HP7 := Aside0.mk (show w7.heap[p]? = some (.cells (({ s with ma := vn, st := st, of := of, x := x, co := st } : SV).cells E ne ce) 53 (0, 0)) by
    rw [hw7]
    show ((((w2.setCell ⟨p, 4, none⟩ (.int .i64 st)).setCell ⟨p, 5, none⟩ (.int .i64 of)).setCell ⟨p, 6, none⟩ (.string x)).setCell ⟨p, 8, none⟩ (.int .i64 st)).heap[p]? = _
    refine blk_put (cs := ({ s with ma := vn, st := st, of := of, x := x } : SV).cells E ne ce) ?_ 8 _ rfl
    refine blk_put (cs := ({ s with ma := vn, st := st, of := of } : SV).cells E ne ce) ?_ 6 _ rfl
    refine blk_put (cs := ({ s with ma := vn, st := st } : SV).cells E ne ce) ?_ 5 _ rfl
    exact blk_put HP2.out 4 _ rfl)
  have HX7 := Aside0.mk (show Frm w w7 (fun k => k = p) by
    rw [hw7]
    exact ((((HX2.out.set_ (p := ⟨p, 4, none⟩) (.inl rfl) _).set_ (p := ⟨p, 5, none⟩) (.inl rfl) _).set_ (p := ⟨p, 6, none⟩) (.inl rfl) _).set_ (p := ⟨p, 8, none⟩) (.inl rfl) _).drew)
  clear hw7
  have c7 := (blk_cell HP7.out 7).trans rfl
  have z7 := blk_frozen HP7.out 7
  go_wp2
  go_end0
  exact ⟨⟨_, rfl⟩, blk_put HP7.out 7 _ rfl, HX7.out.set_ (p := ⟨p, 7, none⟩) (.inl rfl) _⟩
end Go.Proofs.Ytdbniihjkiecbaa.PW
namespace Go.Proofs.Ytdbniihjkiecbaa.PW
open Go.RowKit Go.Proofs.YtdbniihjkiecbaaW.PrintWords Go.Proofs.YtdbniihjkiecbaaW.PrintLast Go.Proofs.YtdbniihjkiecbaaW.PrintMore
set_option linter.unusedVariables false
set_option linter.unusedSimpArgs false

theorem R_empty {α : Type} (d : Kd α) (e : Nat) (w : World) (base : Nat) (ok : Nat → Prop) (hb : base ≤ w.heap.size) (hok : ok w.heap.size) : d.R e (w.alloc (.cells #[] e)) base ok (.slice (some ⟨w.heap.size, 0, none⟩) 0 0) [] :=
  ⟨fun k hk => by
    have : w.heap.size = k := by simpa [Value.ownBlock] using hk
    exact this ▸ hok, [], ⟨by simp, .inr ⟨w.heap.size, 0, #[], rfl, hb, (by show (w.heap.push _)[w.heap.size]? = _; simp), Nat.le_refl _, Nat.zero_le _, by simp, by simp⟩⟩, ⟨by simp, fun j p hj => by simp at hj⟩⟩
theorem reads_drop {α : Type} {R : α → List Value → Prop} {size : Nat} {w : World} {A : Option Addr} {xs : List α} {c m : Nat} (h : ReadsRow R size w A xs.length xs) (hm : m ≤ xs.length) (hc : xs.length ≤ c) : ReadsRow R size w (if c = m then A else A.map (·.add (m * size))) (xs.drop m).length (xs.drop m) := by
  have hl : (xs.drop m).length = xs.length - m := List.length_drop
  refine ⟨rfl, by rw [hl]; have := h.2.1; omega, fun hp => ?_⟩
  rw [hl] at hp
  obtain ⟨ad, rfl, hcell⟩ := h.2.2 (by omega)
  rw [if_neg (by omega)]
  refine ⟨ad.add (m * size), rfl, fun j p hj => ?_⟩
  rw [List.getElem?_drop] at hj
  obtain ⟨cs, h1, h2, h3⟩ := hcell (m + j) p hj
  refine ⟨cs, h1, h2, fun i u hu => ?_⟩
  rw [add_add, show m * size + (j * size + i) = (m + j) * size + i by rw [Nat.add_mul]; omega]
  exact h3 i u hu
theorem cut51 {A : Option Addr} {n c : Nat} (j : Nat) (hj : j ≤ n) (hc : n ≤ c) :
    ∃ A', (∀ W : World, (Instr.slice 51 (.slice A n c) (some (.int .i64 (j : Int))) none none).run Try.prog W = .ok (.slice A' (n - j) (c - j)) W) ∧ ∀ (W : World) (R : S24 → List Value → Prop) (xs : List S24), ReadsRow R 6 W A n xs → ReadsRow R 6 W A' (n - j) (xs.drop j) := by
  obtain ⟨i0, hi, hzz⟩ := Option.map_eq_some_iff.1 info24'
  simp only [Prod.mk.injEq] at hzz
  have hrun := cut_from (P := Try.prog) 51 24 .i64 Try.underlying51 hi 6 hzz.2.1 A n c (j : Int) (by omega) (by omega)
  refine ⟨_, hrun, fun W R xs HR => ?_⟩
  obtain rfl : xs.length = n := HR.1
  have hd := reads_drop (m := j) HR hj hc
  rw [List.length_drop] at hd
  rw [Int.toNat_natCast]
  exact hd
theorem eq51_some (ad : Addr) (n c : Nat) : ∀ W : World, (binOp .eql 51 (.slice (some ad) n c) (.slice none 0 0)).run Try.prog W = .ok (.bool false) W := fun W => by kernel_rfl
theorem eq51_none (n c : Nat) : ∀ W : World, (binOp .eql 51 (.slice none n c) (.slice none 0 0)).run Try.prog W = .ok (.bool true) W := fun W => by kernel_rfl
set_option maxRecDepth 100000 in
theorem clone_none (w : World) (n c : Nat) : Calls Try.prog 135 #[.slice none n c] w fun e w' => e = .returned (.slice none 0 0) ∧ w' = w := by
  have he := eq51_none n c
  go_enter Try.func135, Try.ntmps135
  go_wp2
  go_ret
  exact ⟨rfl, rfl⟩
set_option maxHeartbeats 8000000 in
set_option maxRecDepth 100000 in
theorem clone_some (ad : Addr) (n c : Nat) (l : List S24) (w : World) (base : Nat) (ok : Nat → Prop) (hn : l.length = n) (hr : ReadsRow (k24.M w base ok) 6 w (some ad) n l) (hm : n ≤ 1000000) (hfresh : ∀ k, w.heap.size ≤ k → ok k) (hbase : base ≤ w.heap.size) :
    Calls Try.prog 135 #[.slice (some ad) n c] w fun e w' => ∃ v, e = .returned v ∧ Kd.R k24 24 w' base ok v l ∧ Below w.heap.size w w' := by
  have HR := Aside0.mk hr
  have HN := Aside0.mk hn
  have HF := Aside0.mk hfresh
  have HBS := Aside0.mk hbase
  have he := eq51_some ad n c
  clear hr hn hfresh hbase
  go_enter Try.func135, Try.ntmps135
  go_wp2_with (with_reducible refine stop_append rfl ?_)
  refine Kd.R_append_rows k24 (Rr := k24.M (w.alloc (.cells #[] 24)) base (fun k => ok k ∧ k < w.heap.size)) (w0 := w) base rfl (.tmp 5) (.tmp 6) 51 24 (.agg entZero) 64 rfl Try.underlying51 info24' rfl (by decide) (by decide) _ [] l (some ad) n c ok (fun k => ok k ∧ k < w.heap.size) rfl rfl (R_empty k24 24 w base ok HBS.out (HF.out _ (Nat.le_refl _))) ?_ (fun x cs h => h) (fun k hk => ⟨hk.1, fun e => by
    have h1 := hk.2
    have h2 : k = w.heap.size := by injection e
    omega⟩) (fun k hk => HF.out k (by have := hk; simp at this; omega)) ((Frm.of_below (below_alloc (Below.refl _ _) _) (fun _ => False)).below (fun _ h _ => h.elim) HBS.out) (by have := HBS.out; simp; omega) (by simp; omega) ?_
  · refine HR.out.imp_ (below_alloc (Below.refl _ _) _) (fun x cs h => ?_)
    exact Kd.M_below (k24.M_mono (fun k hk => ⟨hk.1, hk.2.2.1⟩) (k24.M_bound h)) (below_alloc (Below.refl _ _) _)
  intro v1 w1 ho hb hg hat
  rw [List.nil_append] at ho
  have H1 := Aside0.mk ho
  have H2 := Aside0.mk (show Below w.heap.size w w1 from ((Frm.of_below (below_alloc (Below.refl _ _) _) (fun k => k = w.heap.size)).then_ (Frm.of_grown hg (S := fun k => k = w.heap.size) (fun k e => by
    have h2 : w.heap.size = k := by injection e
    exact h2.symm)) (fun k hk _ => hk)).below (fun k hk hlt => by omega) (Nat.le_refl _))
  clear ho hb hg hat
  go_wp2
  go_ret
  exact ⟨_, rfl, H1.out, H2.out⟩
theorem clone_R (A : Option Addr) (n c : Nat) (l : List S24) (w : World) (base : Nat) (ok : Nat → Prop) (hn : l.length = n) (hr : ReadsRow (k24.M w base ok) 6 w A n l) (hm : n ≤ 1000000) (hfresh : ∀ k, w.heap.size ≤ k → ok k) (hbase : base ≤ w.heap.size) :
    Calls Try.prog 135 #[.slice A n c] w fun e w' => ∃ A2 c2, e = .returned (.slice A2 n c2) ∧ Kd.R k24 24 w' base ok (.slice A2 n c2) l ∧ Below w.heap.size w w' := by
  have hmain : Calls Try.prog 135 #[.slice A n c] w fun e w' => ∃ v, e = .returned v ∧ Kd.R k24 24 w' base ok v l ∧ Below w.heap.size w w' := by
    cases A with
    | some ad => exact clone_some ad n c l w base ok hn hr hm hfresh hbase
    | none =>
      have h0 : l = [] := by
        rcases Nat.eq_zero_or_pos n with h0 | h0
        · exact List.eq_nil_of_length_eq_zero (hn.trans h0)
        · obtain ⟨ad, h, _⟩ := hr.2.2 h0
          cases h
      subst h0
      refine (clone_none w n c).mono ?_
      rintro e w1 ⟨rfl, rfl⟩
      exact ⟨_, rfl, Kd.R_nil _ _ _ _ _, Below.refl _ _⟩
  refine hmain.mono ?_
  rintro e w1 ⟨v, rfl, hv, hb⟩
  obtain ⟨A2, c2, rfl⟩ := Kd.R_slice hv
  rw [hn] at hv ⊢
  exact ⟨A2, c2, rfl, hv, hb⟩
end Go.Proofs.Ytdbniihjkiecbaa.PW
namespace Go.Proofs.Ytdbniihjkiecbaa.PW
open Go.RowKit Go.Proofs.YtdbniihjkiecbaaW.PrintWords Go.Proofs.YtdbniihjkiecbaaW.PrintLast Go.Proofs.YtdbniihjkiecbaaW.PrintMore
set_option linter.unusedVariables false
set_option linter.unusedSimpArgs false

theorem if_max (a b : Int) : (if a < b then b else a) = max a b := by
  rw [Int.max_def]
  split <;> split <;> omega
set_option maxHeartbeats 16000000 in
set_option maxRecDepth 100000 in
theorem says_save (w : World) (p : Nat) (s : SV) (E : Option Addr) (ne ce : Nat) (hp : w.heap[p]? = some (.cells (s.cells E ne ce) 53 (0, 0))) (base : Nat) (ok : Nat → Prop) (hR : Kd.R k24 24 w base ok (.slice E ne ce) s.es) (hfresh : ∀ k, w.heap.size ≤ k → ok k) (hbase : base ≤ w.heap.size) (hs : s.small) (kd a v k se rq : Int) (A : Option Addr) (n c : Nat) (vn vp vb st of : Int) (x : ByteArray) (d : Nat) (hd : st = s.st + (d : Int)) (hdd : d ≤ ne ∨ s.es = []) (hst : st ≤ 2147483647) (m : Nat) (hm : m = (s.es.drop d).length) :
    Calls Try.prog 134 #[.agg (recCells kd a v k se rq A n c vn vp vb st of x), .pointer (some ⟨p, 0, none⟩)] w fun r w' => (∃ v, r = .returned v) ∧ ∃ E' ce', w'.heap[p]? = some (.cells (({ s with es := s.es.drop d, st := st, of := of, x := x, co := max s.co st } : SV).cells E' m ce') 53 (0, 0)) ∧
      Kd.R k24 24 w' base ok (.slice E' m ce') (s.es.drop d) ∧ Frm w w' (fun k => k = p) := by
  have hu53 := Try.underlying53
  have hu26 := Try.underlying26
  have hu116 := Try.underlying116
  have HN := Aside0.mk (show s.es.length = ne by
    obtain ⟨A0, c0, he0, hle⟩ := Kd.R_reads hR
    injection he0 with eA eN eC
    exact eN.symm)
  have HLE := Aside0.mk (show ne ≤ ce by
    obtain ⟨A0, c0, he0, hle, _⟩ := Kd.R_reads hR
    injection he0 with eA eN eC
    omega)
  have HP := Aside0.mk hp
  have HR := Aside0.mk hR
  have HFR := Aside0.mk hfresh
  have HBS := Aside0.mk hbase
  have HLN := Aside0.mk hs.2.2.1
  have HMM := Aside0.mk hm
  have HDD := Aside0.mk hdd
  have w0 : IntKind.i64.wrap (st - s.st) = (d : Int) := (i64_w _).trans (by
    have m1 := hs.1
    have m2 := hs.2.1
    unfold wrap64
    omega)
  clear hp hR hfresh hbase hm hs hd hst hdd
  go_enter Try.func134, Try.ntmps134
  go_wp2_with fail
  obtain ⟨g, hg⟩ : ∃ g, g = w.heap.size := ⟨_, rfl⟩
  obtain ⟨w1, hw1⟩ : ∃ w1, w1 = w.alloc (.cells (recCells kd a v k se rq A n c vn vp vb st of x) 116) := ⟨_, rfl⟩
  rw [← hw1, ← hg]
  have HB := Aside0.mk (show Below w.heap.size w w1 by rw [hw1]; exact below_alloc (Below.refl _ _) _)
  have HG := Aside0.mk (show w1.heap[g]? = some (.cells (recCells kd a v k se rq A n c vn vp vb st of x) 116 (0, 0)) by rw [hw1, hg]; exact heap_alloc_new w _)
  have HP1 := Aside0.mk ((HB.out.block p (blk_lt HP.out)).trans HP.out)
  have HPG := Aside0.mk (show g ≠ p by have := blk_lt HP.out; omega)
  have HR1 := Aside0.mk (Kd.R_below HR.out HB.out)
  clear hw1 hg
  have g10 := (blk_cell HG.out 10).trans rfl
  have c4 := (blk_cell HP1.out 4).trans rfl
  go_quiet (fail)
  clear g10 c4
  obtain ⟨w2, hw2⟩ : ∃ w2, w2 = w1.drewN nq := ⟨_, rfl⟩
  rw [← hw2]
  have HP2 := Aside0.mk (show w2.heap[p]? = some (.cells (s.cells E ne ce) 53 (0, 0)) by rw [hw2]; exact HP1.out)
  have HG2 := Aside0.mk (show w2.heap[g]? = some (.cells (recCells kd a v k se rq A n c vn vp vb st of x) 116 (0, 0)) by rw [hw2]; exact HG.out)
  have HX2 := Aside0.mk (show Frm w w2 (fun k => k = p) by rw [hw2]; exact Frm.of_below (pw_below_drewN HB.out _) _)
  have HR2 := Aside0.mk (show Kd.R k24 24 w2 base ok (.slice E ne ce) s.es by rw [hw2]; exact Kd.R_step HR1.out (fun _ _ _ => rfl))
  have HF2 := Aside0.mk (show ∀ k, w2.heap.size ≤ k → ok k from fun k hk => HFR.out k (Nat.le_trans HX2.out.size hk))
  have HB2 := Aside0.mk (Nat.le_trans HBS.out HX2.out.size)
  clear hw2
  have c7 := (blk_cell HP2.out 7).trans rfl
  by_cases h1 : d ≤ ne
  · have e1 : decide ((d : Int) ≤ (ne : Int)) = true := decide_eq_true (by omega)
    have e2 : decide (d ≤ ne) = true := decide_eq_true h1
    obtain ⟨A3, hcut, hrow⟩ := cut51 (A := E) (n := ne) (c := ce) d h1 HLE.out
    have HRW := Aside0.mk hrow
    have HH := Aside0.mk h1
    clear hrow h1
    go_wp2_with fail
    refine (clone_R A3 (ne - d) (ce - d) (s.es.drop d) _ base ok (by rw [List.length_drop, HN.out]) (HRW.out _ _ _ (by
      obtain ⟨A0, c0, he0, hle, hrd⟩ := OwnRow.reads HR2.out.2
      injection he0 with eA eN eC
      rw [← eN] at hrd
      rw [← eA] at hrd
      exact hrd.imp_ (Below.refl _ _) (fun x cs h => k24.M_mono (fun k hk => hk.1) h))) (by have := HLN.out; have := HN.out; omega) HF2.out HB2.out).mono ?_
    rintro e w5 ⟨E1, c1, rfl, hr5, hb5⟩
    obtain ⟨nd, hnd⟩ : ∃ nd, nd = ne - d := ⟨_, rfl⟩
    rw [← hnd] at hr5 ⊢
    have HND := Aside0.mk (show nd = m by rw [hnd, HMM.out, List.length_drop, HN.out])
    have HP5 := Aside0.mk ((hb5.block p (blk_lt HP2.out)).trans HP2.out)
    have HG5 := Aside0.mk ((hb5.block g (blk_lt HG2.out)).trans HG2.out)
    have HX5 := Aside0.mk (HX2.out.step hb5)
    have HR5 := Aside0.mk hr5
    clear hb5 hr5 hnd c7
    have c7 := (blk_cell HP5.out 7).trans rfl
    have z7 := blk_frozen HP5.out 7
    go_wp2_with fail
    obtain ⟨wa, hwa⟩ : ∃ wa, wa = w5.setCell ⟨p, 7, none⟩ (.slice E1 nd c1) := ⟨_, rfl⟩
    rw [← hwa]
    have HPa := Aside0.mk (show wa.heap[p]? = some (.cells ((({ s with es := s.es.drop d } : SV)).cells E1 m c1) 53 (0, 0)) by rw [hwa, ← HND.out]; exact blk_put HP5.out 7 _ rfl)
    have HGa := Aside0.mk (show wa.heap[g]? = some (.cells (recCells kd a v k se rq A n c vn vp vb st of x) 116 (0, 0)) by rw [hwa]; exact blk_far HG5.out (by simp only; exact HPG.out) _)
    have HXa := Aside0.mk (show Frm w wa (fun k => k = p) by rw [hwa]; exact HX5.out.set_ (p := ⟨p, 7, none⟩) (.inl rfl) _)
    have HRa := Aside0.mk (show Kd.R k24 24 wa base ok (.slice E1 m c1) (s.es.drop d) by
      rw [hwa, ← HND.out]
      exact Kd.R_set HR5.out HP5.out (fun t ht => by rcases k24_types ht with rfl | rfl <;> decide) 7 _)
    clear hwa c7 z7 hcut e1 e2 w0
    have a10 : wa.drew.cell? ⟨g, 10, none⟩ = some (.int .i64 st) := (blk_cell (w := wa.drew) HGa.out 10).trans rfl
    have b10 : wa.cell? ⟨g, 10, none⟩ = some (.int .i64 st) := a10
    have a11 : wa.drew.cell? ⟨g, 11, none⟩ = some (.int .i64 of) := (blk_cell (w := wa.drew) HGa.out 11).trans rfl
    have b11 : wa.cell? ⟨g, 11, none⟩ = some (.int .i64 of) := a11
    have a12 : wa.drew.cell? ⟨g, 12, none⟩ = some (.string x) := (blk_cell (w := wa.drew) HGa.out 12).trans rfl
    have b12 : wa.cell? ⟨g, 12, none⟩ = some (.string x) := a12
    have c4 := (blk_cell HPa.out 4).trans rfl
    have z4 := blk_frozen HPa.out 4
    have c5 := (blk_cell HPa.out 5).trans rfl
    have z5 := blk_frozen HPa.out 5
    have c6 := (blk_cell HPa.out 6).trans rfl
    have z6 := blk_frozen HPa.out 6
    have hgp := HPG.out
    refine start_ (n := 18) (S := fun w' => w'.cell? ⟨g, 10, none⟩ = some (.int .i64 st) ∧ w'.cell? ⟨g, 11, none⟩ = some (.int .i64 of) ∧ w'.cell? ⟨g, 12, none⟩ = some (.string x)) (ds := [17]) #[ff, ff, ff, ff, ff, ff, ff, ff, ff, ff, ff, ff, ff, ff, ff, ff, ff, ff] (by kernel_rfl) rfl rfl ⟨a10, a11, a12⟩ (fun hHeld => ?_)
    refine pure_ (i := 0) (N := some 29) (v := ?_) (a' := ?_) #[tt, ff, ff, ff, ff, ff, ff, ff, ff, ff, ff, ff, ff, ff, ff, ff, ff, ff] rfl rfl (by kernel_rfl) (fun _ _ _ h => h) (Or.inl ⟨by rfl, ?_⟩) ?_ ?_
    rotate_left
    · intro w'
      go_simp
      with_reducible rfl
    rotate_left
    · simp only [Act.put, sx1, sx2, sx3, i64_w, i32_w]
      rfl
    refine pure_ (i := 1) (N := some 30) (v := ?_) (a' := ?_) #[tt, tt, ff, ff, ff, ff, ff, ff, ff, ff, ff, ff, ff, ff, ff, ff, ff, ff] rfl rfl (by kernel_rfl) (fun _ _ _ h => h) (Or.inl ⟨by rfl, ?_⟩) ?_ ?_
    rotate_left
    · intro w'
      go_simp
      with_reducible rfl
    rotate_left
    · simp only [Act.put, sx1, sx2, sx3, i64_w, i32_w]
      rfl
    refine pure_ (i := 2) (N := some 31) (v := ?_) (a' := ?_) #[tt, tt, tt, ff, ff, ff, ff, ff, ff, ff, ff, ff, ff, ff, ff, ff, ff, ff] rfl rfl (by kernel_rfl) (fun _ _ _ h => h) (Or.inl ⟨by rfl, ?_⟩) ?_ ?_
    rotate_left
    · intro w'
      go_simp
      with_reducible rfl
    rotate_left
    · simp only [Act.put, sx1, sx2, sx3, i64_w, i32_w]
      rfl
    refine pure_ (i := 3) (N := some 32) (v := ?_) (a' := ?_) #[tt, tt, tt, tt, ff, ff, ff, ff, ff, ff, ff, ff, ff, ff, ff, ff, ff, ff] rfl rfl (by kernel_rfl) (fun _ _ _ h => h) (Or.inl ⟨by rfl, ?_⟩) ?_ ?_
    rotate_left
    · intro w'
      go_simp
      with_reducible rfl
    rotate_left
    · simp only [Act.put, sx1, sx2, sx3, i64_w, i32_w]
      rfl
    refine pure_ (i := 5) (N := some 34) (v := ?_) (a' := ?_) #[tt, tt, tt, tt, ff, tt, ff, ff, ff, ff, ff, ff, ff, ff, ff, ff, ff, ff] rfl rfl (by kernel_rfl) (fun _ _ _ h => h) (Or.inl ⟨by rfl, ?_⟩) ?_ ?_
    rotate_left
    · intro w'
      go_simp
      with_reducible rfl
    rotate_left
    · simp only [Act.put, sx1, sx2, sx3, i64_w, i32_w]
      rfl
    refine pure_ (i := 7) (N := some 36) (v := ?_) (a' := ?_) #[tt, tt, tt, tt, ff, tt, ff, tt, ff, ff, ff, ff, ff, ff, ff, ff, ff, ff] rfl rfl (by kernel_rfl) (fun _ _ _ h => h) (Or.inl ⟨by rfl, ?_⟩) ?_ ?_
    rotate_left
    · intro w'
      go_simp
      with_reducible rfl
    rotate_left
    · simp only [Act.put, sx1, sx2, sx3, i64_w, i32_w]
      rfl
    refine take_ (i := 4) (N := some 33) (v := ?_) (a' := ?_) #[tt, tt, tt, tt, tt, tt, ff, tt, ff, ff, ff, ff, ff, ff, ff, ff, ff, ff] rfl rfl (by kernel_rfl) (fun _ _ _ h => h) (Or.inl ⟨by rfl, ?_⟩) hHeld ?_ ?_
    rotate_left
    · rintro w' ⟨s0, s1, s2⟩
      go_simp
      with_reducible rfl
    rotate_left
    · simp only [Act.put, sx1, sx2, sx3, i64_w, i32_w]
      rfl
    refine pure_ (i := 9) (N := some 38) (v := ?_) (a' := ?_) #[tt, tt, tt, tt, tt, tt, ff, tt, ff, tt, ff, ff, ff, ff, ff, ff, ff, ff] rfl rfl (by kernel_rfl) (fun _ _ _ h => h) (Or.inl ⟨by rfl, ?_⟩) ?_ ?_
    rotate_left
    · intro w'
      go_simp
      with_reducible rfl
    rotate_left
    · simp only [Act.put, sx1, sx2, sx3, i64_w, i32_w]
      rfl
    refine pure_ (i := 10) (N := some 39) (v := ?_) (a' := ?_) #[tt, tt, tt, tt, tt, tt, ff, tt, ff, tt, tt, ff, ff, ff, ff, ff, ff, ff] rfl rfl (by kernel_rfl) (fun _ _ _ h => h) (Or.inl ⟨by rfl, ?_⟩) ?_ ?_
    rotate_left
    · intro w'
      go_simp
      with_reducible rfl
    rotate_left
    · simp only [Act.put, sx1, sx2, sx3, i64_w, i32_w]
      rfl
    refine take_ (i := 6) (N := some 35) (v := ?_) (a' := ?_) #[tt, tt, tt, tt, tt, tt, tt, tt, ff, tt, tt, ff, ff, ff, ff, ff, ff, ff] rfl rfl (by kernel_rfl) (fun _ _ _ h => h) (Or.inl ⟨by rfl, ?_⟩) hHeld ?_ ?_
    rotate_left
    · rintro w' ⟨s0, s1, s2⟩
      go_simp
      with_reducible rfl
    rotate_left
    · simp only [Act.put, sx1, sx2, sx3, i64_w, i32_w]
      rfl
    refine take_ (i := 8) (N := some 37) (v := ?_) (a' := ?_) #[tt, tt, tt, tt, tt, tt, tt, tt, tt, tt, tt, ff, ff, ff, ff, ff, ff, ff] rfl rfl (by kernel_rfl) (fun _ _ _ h => h) (Or.inl ⟨by rfl, ?_⟩) hHeld ?_ ?_
    rotate_left
    · rintro w' ⟨s0, s1, s2⟩
      go_simp
      with_reducible rfl
    rotate_left
    · simp only [Act.put, sx1, sx2, sx3, i64_w, i32_w]
      rfl
    refine one_ (i := 11) (N := none) #[tt, tt, tt, tt, tt, tt, tt, tt, tt, tt, tt, tt, ff, ff, ff, ff, ff, ff] rfl rfl (by kernel_rfl) (by decide) (fun K hK => ?_)
    refine skip_ (w1 := ?_) (by rfl) rfl ?_ ?_
    rotate_left
    · go_simp
      rfl
    refine hK.out _ _ ⟨(by first | exact set_other hgp a10 | exact drew_cell (set_other hgp b10) | exact set_other hgp b10), (by first | exact set_other hgp a11 | exact drew_cell (set_other hgp b11) | exact set_other hgp b11), (by first | exact set_other hgp a12 | exact drew_cell (set_other hgp b12) | exact set_other hgp b12)⟩ (fun hHeld => ?_)
    clear hK K
    refine pure_ (i := 12) (N := some 40) (v := ?_) (a' := ?_) #[tt, tt, tt, tt, tt, tt, tt, tt, tt, tt, tt, tt, tt, ff, ff, ff, ff, ff] rfl rfl (by kernel_rfl) (fun _ _ _ h => h) (Or.inl ⟨by rfl, ?_⟩) ?_ ?_
    rotate_left
    · intro w'
      go_simp
      with_reducible rfl
    rotate_left
    · simp only [Act.put, sx1, sx2, sx3, i64_w, i32_w]
      rfl
    refine pure_ (i := 13) (N := some 41) (v := ?_) (a' := ?_) #[tt, tt, tt, tt, tt, tt, tt, tt, tt, tt, tt, tt, tt, tt, ff, ff, ff, ff] rfl rfl (by kernel_rfl) (fun _ _ _ h => h) (Or.inl ⟨by rfl, ?_⟩) ?_ ?_
    rotate_left
    · intro w'
      go_simp
      with_reducible rfl
    rotate_left
    · simp only [Act.put, sx1, sx2, sx3, i64_w, i32_w]
      rfl
    refine one_ (i := 14) (N := none) #[tt, tt, tt, tt, tt, tt, tt, tt, tt, tt, tt, tt, tt, tt, tt, ff, ff, ff] rfl rfl (by kernel_rfl) (by decide) (fun K hK => ?_)
    refine skip_ (w1 := ?_) (by rfl) rfl ?_ ?_
    rotate_left
    · go_simp
      rfl
    refine hK.out _ _ ⟨(by first | exact set_other hgp (set_other hgp a10) | exact drew_cell (set_other hgp (set_other hgp b10)) | exact set_other hgp (set_other hgp b10)), (by first | exact set_other hgp (set_other hgp a11) | exact drew_cell (set_other hgp (set_other hgp b11)) | exact set_other hgp (set_other hgp b11)), (by first | exact set_other hgp (set_other hgp a12) | exact drew_cell (set_other hgp (set_other hgp b12)) | exact set_other hgp (set_other hgp b12))⟩ (fun hHeld => ?_)
    clear hK K
    refine pure_ (i := 15) (N := some 42) (v := ?_) (a' := ?_) #[tt, tt, tt, tt, tt, tt, tt, tt, tt, tt, tt, tt, tt, tt, tt, tt, ff, ff] rfl rfl (by kernel_rfl) (fun _ _ _ h => h) (Or.inl ⟨by rfl, ?_⟩) ?_ ?_
    rotate_left
    · intro w'
      go_simp
      with_reducible rfl
    rotate_left
    · simp only [Act.put, sx1, sx2, sx3, i64_w, i32_w]
      rfl
    refine pure_ (i := 16) (N := some 43) (v := ?_) (a' := ?_) #[tt, tt, tt, tt, tt, tt, tt, tt, tt, tt, tt, tt, tt, tt, tt, tt, tt, ff] rfl rfl (by kernel_rfl) (fun _ _ _ h => h) (Or.inl ⟨by rfl, ?_⟩) ?_ ?_
    rotate_left
    · intro w'
      go_simp
      with_reducible rfl
    rotate_left
    · simp only [Act.put, sx1, sx2, sx3, i64_w, i32_w]
      rfl
    refine last_ (i := 17) (N := none) #[tt, tt, tt, tt, tt, tt, tt, tt, tt, tt, tt, tt, tt, tt, tt, tt, tt, tt] rfl rfl (by kernel_rfl) (by decide) (fun K hK => ?_)
    refine skip_ (w1 := ?_) (by rfl) rfl ?_ ?_
    rotate_left
    · go_simp
      rfl
    refine hK.out _ _ ?_
    clear hK K
    refine done_ (by kernel_rfl) ?_
    clear hHeld a10 a11 a12 b10 b11 b12 c4 c5 c6 z4 z5 z6 hgp
    obtain ⟨w7, hw7⟩ : ∃ w7, w7 = (((wa.setCell ⟨p, 4, none⟩ (.int .i64 st)).setCell ⟨p, 5, none⟩ (.int .i64 of)).setCell ⟨p, 6, none⟩ (.string x)).drew := ⟨_, rfl⟩
    rw [← hw7]
    have HP7 := Aside0.mk (show w7.heap[p]? = some (.cells (({ ({ s with es := s.es.drop d } : SV) with st := st, of := of, x := x } : SV).cells E1 m c1) 53 (0, 0)) by
      rw [hw7]
      show (((wa.setCell ⟨p, 4, none⟩ (.int .i64 st)).setCell ⟨p, 5, none⟩ (.int .i64 of)).setCell ⟨p, 6, none⟩ (.string x)).heap[p]? = _
      refine blk_put (cs := ({ ({ s with es := s.es.drop d } : SV) with st := st, of := of } : SV).cells E1 m c1) ?_ 6 _ rfl
      refine blk_put (cs := ({ ({ s with es := s.es.drop d } : SV) with st := st } : SV).cells E1 m c1) ?_ 5 _ rfl
      exact blk_put HPa.out 4 _ rfl)
    have HG7 := Aside0.mk (show w7.heap[g]? = some (.cells (recCells kd a v k se rq A n c vn vp vb st of x) 116 (0, 0)) by
      rw [hw7]
      exact blk_far (blk_far (blk_far HGa.out (by simp only; exact HPG.out) _) (by simp only; exact HPG.out) _) (by simp only; exact HPG.out) _)
    have HX7 := Aside0.mk (show Frm w w7 (fun k => k = p) by
      rw [hw7]
      exact (((HXa.out.set_ (p := ⟨p, 4, none⟩) (.inl rfl) _).set_ (p := ⟨p, 5, none⟩) (.inl rfl) _).set_ (p := ⟨p, 6, none⟩) (.inl rfl) _).drew)
    have HR7 := Aside0.mk (show Kd.R k24 24 w7 base ok (.slice E1 m c1) (s.es.drop d) by
      rw [hw7]
      have ht : ∀ t, t ∈ 24 :: k24.E → t ≠ 53 := fun t ht => by rcases k24_types ht with rfl | rfl <;> decide
      have h4 := Kd.R_set HRa.out HPa.out ht 4 (.int .i64 st)
      have h5 := Kd.R_set h4 (blk_put HPa.out 4 _ rfl) ht 5 (.int .i64 of)
      have h6 := Kd.R_set h5 (blk_put (blk_put HPa.out 4 _ rfl) 5 _ rfl) ht 6 (.string x)
      exact Kd.R_step h6 (fun _ _ _ => rfl))
    clear hw7
    have c8 : w7.drew.cell? ⟨p, 8, none⟩ = some (.int .i64 s.co) := (blk_cell (w := w7.drew) HP7.out 8).trans rfl
    have a10 : w7.drew.cell? ⟨g, 10, none⟩ = some (.int .i64 st) := (blk_cell (w := w7.drew) HG7.out 10).trans rfl
    have z8 := blk_frozen HP7.out 8
    go_wp2_with fail
    refine start_ (n := 11) (S := fun w' => w'.cell? ⟨p, 8, none⟩ = some (.int .i64 s.co) ∧ w'.cell? ⟨g, 10, none⟩ = some (.int .i64 st)) (ds := [10]) #[ff, ff, ff, ff, ff, ff, ff, ff, ff, ff, ff] (by kernel_rfl) rfl rfl ⟨c8, a10⟩ (fun hHeld => ?_)
    refine pure_ (i := 0) (N := some 44) (v := ?_) (a' := ?_) #[tt, ff, ff, ff, ff, ff, ff, ff, ff, ff, ff] rfl rfl (by kernel_rfl) (fun _ _ _ h => h) (Or.inl ⟨by rfl, ?_⟩) ?_ ?_
    rotate_left
    · intro w'
      go_simp
      with_reducible rfl
    rotate_left
    · simp only [Act.put, sx1, sx2, sx3, i64_w, i32_w]
      rfl
    refine pure_ (i := 1) (N := some 45) (v := ?_) (a' := ?_) #[tt, tt, ff, ff, ff, ff, ff, ff, ff, ff, ff] rfl rfl (by kernel_rfl) (fun _ _ _ h => h) (Or.inl ⟨by rfl, ?_⟩) ?_ ?_
    rotate_left
    · intro w'
      go_simp
      with_reducible rfl
    rotate_left
    · simp only [Act.put, sx1, sx2, sx3, i64_w, i32_w]
      rfl
    refine pure_ (i := 2) (N := some 46) (v := ?_) (a' := ?_) #[tt, tt, tt, ff, ff, ff, ff, ff, ff, ff, ff] rfl rfl (by kernel_rfl) (fun _ _ _ h => h) (Or.inl ⟨by rfl, ?_⟩) ?_ ?_
    rotate_left
    · intro w'
      go_simp
      with_reducible rfl
    rotate_left
    · simp only [Act.put, sx1, sx2, sx3, i64_w, i32_w]
      rfl
    refine pure_ (i := 3) (N := some 47) (v := ?_) (a' := ?_) #[tt, tt, tt, tt, ff, ff, ff, ff, ff, ff, ff] rfl rfl (by kernel_rfl) (fun _ _ _ h => h) (Or.inl ⟨by rfl, ?_⟩) ?_ ?_
    rotate_left
    · intro w'
      go_simp
      with_reducible rfl
    rotate_left
    · simp only [Act.put, sx1, sx2, sx3, i64_w, i32_w]
      rfl
    refine pure_ (i := 5) (N := some 49) (v := ?_) (a' := ?_) #[tt, tt, tt, tt, ff, tt, ff, ff, ff, ff, ff] rfl rfl (by kernel_rfl) (fun _ _ _ h => h) (Or.inl ⟨by rfl, ?_⟩) ?_ ?_
    rotate_left
    · intro w'
      go_simp
      with_reducible rfl
    rotate_left
    · simp only [Act.put, sx1, sx2, sx3, i64_w, i32_w]
      rfl
    refine take_ (i := 4) (N := some 48) (v := ?_) (a' := ?_) #[tt, tt, tt, tt, tt, tt, ff, ff, ff, ff, ff] rfl rfl (by kernel_rfl) (fun _ _ _ h => h) (Or.inl ⟨by rfl, ?_⟩) hHeld ?_ ?_
    rotate_left
    · rintro w' ⟨s0, s1⟩
      go_simp
      with_reducible rfl
    rotate_left
    · simp only [Act.put, sx1, sx2, sx3, i64_w, i32_w]
      rfl
    refine take_ (i := 6) (N := some 50) (v := ?_) (a' := ?_) #[tt, tt, tt, tt, tt, tt, tt, ff, ff, ff, ff] rfl rfl (by kernel_rfl) (fun _ _ _ h => h) (Or.inl ⟨by rfl, ?_⟩) hHeld ?_ ?_
    rotate_left
    · rintro w' ⟨s0, s1⟩
      go_simp
      with_reducible rfl
    rotate_left
    · simp only [Act.put, sx1, sx2, sx3, i64_w, i32_w]
      rfl
    refine pure_ (i := 7) (N := some 51) (v := ?_) (a' := ?_) #[tt, tt, tt, tt, tt, tt, tt, tt, ff, ff, ff] rfl rfl (by kernel_rfl) (fun _ _ _ h => h) (Or.inl ⟨by rfl, ?_⟩) ?_ ?_
    rotate_left
    · intro w'
      go_simp
      with_reducible rfl
    rotate_left
    · simp only [Act.put, sx1, sx2, sx3, i64_w, i32_w]
      rfl
    refine pure_ (i := 8) (N := some 52) (v := ?_) (a' := ?_) #[tt, tt, tt, tt, tt, tt, tt, tt, tt, ff, ff] rfl rfl (by kernel_rfl) (fun _ _ _ h => h) (Or.inl ⟨by rfl, ?_⟩) ?_ ?_
    rotate_left
    · intro w'
      go_simp
      with_reducible rfl
    rotate_left
    · simp only [Act.put, sx1, sx2, sx3, i64_w, i32_w]
      rfl
    refine pure_ (i := 9) (N := some 53) (v := ?_) (a' := ?_) #[tt, tt, tt, tt, tt, tt, tt, tt, tt, tt, ff] rfl rfl (by kernel_rfl) (fun _ _ _ h => h) (Or.inl ⟨by rfl, ?_⟩) ?_ ?_
    rotate_left
    · intro w'
      go_simp
      with_reducible rfl
    rotate_left
    · simp only [Act.put, sx1, sx2, sx3, i64_w, i32_w]
      rfl
    refine last_ (i := 10) (N := none) #[tt, tt, tt, tt, tt, tt, tt, tt, tt, tt, tt] rfl rfl (by kernel_rfl) (by decide) (fun K hK => ?_)
    refine skip_ (w1 := ?_) (by rfl) rfl ?_ ?_
    rotate_left
    · go_simp
      rfl
    refine hK.out _ _ ?_
    clear hK K
    refine done_ (by kernel_rfl) ?_
    go_end0
    rw [if_max s.co st]
    refine ⟨⟨_, rfl⟩, E1, c1, ?_, ?_, ?_⟩
    · exact blk_put HP7.out 8 _ rfl
    · exact Kd.R_set HR7.out HP7.out (fun t ht => by rcases k24_types ht with rfl | rfl <;> decide) 8 _
    · exact (HX7.out.set_ (p := ⟨p, 8, none⟩) (.inl rfl) _).drew
  · have e1 : decide ((d : Int) ≤ (ne : Int)) = false := decide_eq_false (by omega)
    have e2 : decide (d ≤ ne) = false := decide_eq_false h1
    have HNL := Aside0.mk (show s.es = [] from HDD.out.resolve_left h1)
    have HND := Aside0.mk (show ne = m by rw [HMM.out, HNL.out, List.drop_nil, ← HN.out, HNL.out])
    clear h1
    go_wp2_with fail
    clear c7 e1 e2 w0
    obtain ⟨wa, hwa⟩ : ∃ wa, wa = w2 := ⟨_, rfl⟩
    rw [← hwa]
    have HPa := Aside0.mk (show wa.heap[p]? = some (.cells ((({ s with es := s.es.drop d } : SV)).cells E m ce) 53 (0, 0)) by
      rw [hwa, ← HND.out]
      have : (({ s with es := s.es.drop d } : SV)) = s := by
        cases s
        have h := HNL.out
        simp only at h
        subst h
        simp
      rw [this]
      exact HP2.out)
    have HGa := Aside0.mk (show wa.heap[g]? = some (.cells (recCells kd a v k se rq A n c vn vp vb st of x) 116 (0, 0)) by rw [hwa]; exact HG2.out)
    have HXa := Aside0.mk (show Frm w wa (fun k => k = p) by rw [hwa]; exact HX2.out)
    have HRa := Aside0.mk (show Kd.R k24 24 wa base ok (.slice E m ce) (s.es.drop d) by
      rw [hwa, ← HND.out, HNL.out, List.drop_nil]
      have h := HR2.out
      rw [HNL.out] at h
      exact h)
    clear hwa
    have a10 : wa.drew.cell? ⟨g, 10, none⟩ = some (.int .i64 st) := (blk_cell (w := wa.drew) HGa.out 10).trans rfl
    have b10 : wa.cell? ⟨g, 10, none⟩ = some (.int .i64 st) := a10
    have a11 : wa.drew.cell? ⟨g, 11, none⟩ = some (.int .i64 of) := (blk_cell (w := wa.drew) HGa.out 11).trans rfl
    have b11 : wa.cell? ⟨g, 11, none⟩ = some (.int .i64 of) := a11
    have a12 : wa.drew.cell? ⟨g, 12, none⟩ = some (.string x) := (blk_cell (w := wa.drew) HGa.out 12).trans rfl
    have b12 : wa.cell? ⟨g, 12, none⟩ = some (.string x) := a12
    have c4 := (blk_cell HPa.out 4).trans rfl
    have z4 := blk_frozen HPa.out 4
    have c5 := (blk_cell HPa.out 5).trans rfl
    have z5 := blk_frozen HPa.out 5
    have c6 := (blk_cell HPa.out 6).trans rfl
    have z6 := blk_frozen HPa.out 6
    have hgp := HPG.out
    refine start_ (n := 18) (S := fun w' => w'.cell? ⟨g, 10, none⟩ = some (.int .i64 st) ∧ w'.cell? ⟨g, 11, none⟩ = some (.int .i64 of) ∧ w'.cell? ⟨g, 12, none⟩ = some (.string x)) (ds := [17]) #[ff, ff, ff, ff, ff, ff, ff, ff, ff, ff, ff, ff, ff, ff, ff, ff, ff, ff] (by kernel_rfl) rfl rfl ⟨a10, a11, a12⟩ (fun hHeld => ?_)
    refine pure_ (i := 0) (N := some 29) (v := ?_) (a' := ?_) #[tt, ff, ff, ff, ff, ff, ff, ff, ff, ff, ff, ff, ff, ff, ff, ff, ff, ff] rfl rfl (by kernel_rfl) (fun _ _ _ h => h) (Or.inl ⟨by rfl, ?_⟩) ?_ ?_
    rotate_left
    · intro w'
      go_simp
      with_reducible rfl
    rotate_left
    · simp only [Act.put, sx1, sx2, sx3, i64_w, i32_w]
      rfl
    refine pure_ (i := 1) (N := some 30) (v := ?_) (a' := ?_) #[tt, tt, ff, ff, ff, ff, ff, ff, ff, ff, ff, ff, ff, ff, ff, ff, ff, ff] rfl rfl (by kernel_rfl) (fun _ _ _ h => h) (Or.inl ⟨by rfl, ?_⟩) ?_ ?_
    rotate_left
    · intro w'
      go_simp
      with_reducible rfl
    rotate_left
    · simp only [Act.put, sx1, sx2, sx3, i64_w, i32_w]
      rfl
    refine pure_ (i := 2) (N := some 31) (v := ?_) (a' := ?_) #[tt, tt, tt, ff, ff, ff, ff, ff, ff, ff, ff, ff, ff, ff, ff, ff, ff, ff] rfl rfl (by kernel_rfl) (fun _ _ _ h => h) (Or.inl ⟨by rfl, ?_⟩) ?_ ?_
    rotate_left
    · intro w'
      go_simp
      with_reducible rfl
    rotate_left
    · simp only [Act.put, sx1, sx2, sx3, i64_w, i32_w]
      rfl
    refine pure_ (i := 3) (N := some 32) (v := ?_) (a' := ?_) #[tt, tt, tt, tt, ff, ff, ff, ff, ff, ff, ff, ff, ff, ff, ff, ff, ff, ff] rfl rfl (by kernel_rfl) (fun _ _ _ h => h) (Or.inl ⟨by rfl, ?_⟩) ?_ ?_
    rotate_left
    · intro w'
      go_simp
      with_reducible rfl
    rotate_left
    · simp only [Act.put, sx1, sx2, sx3, i64_w, i32_w]
      rfl
    refine pure_ (i := 5) (N := some 34) (v := ?_) (a' := ?_) #[tt, tt, tt, tt, ff, tt, ff, ff, ff, ff, ff, ff, ff, ff, ff, ff, ff, ff] rfl rfl (by kernel_rfl) (fun _ _ _ h => h) (Or.inl ⟨by rfl, ?_⟩) ?_ ?_
    rotate_left
    · intro w'
      go_simp
      with_reducible rfl
    rotate_left
    · simp only [Act.put, sx1, sx2, sx3, i64_w, i32_w]
      rfl
    refine pure_ (i := 7) (N := some 36) (v := ?_) (a' := ?_) #[tt, tt, tt, tt, ff, tt, ff, tt, ff, ff, ff, ff, ff, ff, ff, ff, ff, ff] rfl rfl (by kernel_rfl) (fun _ _ _ h => h) (Or.inl ⟨by rfl, ?_⟩) ?_ ?_
    rotate_left
    · intro w'
      go_simp
      with_reducible rfl
    rotate_left
    · simp only [Act.put, sx1, sx2, sx3, i64_w, i32_w]
      rfl
    refine take_ (i := 4) (N := some 33) (v := ?_) (a' := ?_) #[tt, tt, tt, tt, tt, tt, ff, tt, ff, ff, ff, ff, ff, ff, ff, ff, ff, ff] rfl rfl (by kernel_rfl) (fun _ _ _ h => h) (Or.inl ⟨by rfl, ?_⟩) hHeld ?_ ?_
    rotate_left
    · rintro w' ⟨s0, s1, s2⟩
      go_simp
      with_reducible rfl
    rotate_left
    · simp only [Act.put, sx1, sx2, sx3, i64_w, i32_w]
      rfl
    refine pure_ (i := 9) (N := some 38) (v := ?_) (a' := ?_) #[tt, tt, tt, tt, tt, tt, ff, tt, ff, tt, ff, ff, ff, ff, ff, ff, ff, ff] rfl rfl (by kernel_rfl) (fun _ _ _ h => h) (Or.inl ⟨by rfl, ?_⟩) ?_ ?_
    rotate_left
    · intro w'
      go_simp
      with_reducible rfl
    rotate_left
    · simp only [Act.put, sx1, sx2, sx3, i64_w, i32_w]
      rfl
    refine pure_ (i := 10) (N := some 39) (v := ?_) (a' := ?_) #[tt, tt, tt, tt, tt, tt, ff, tt, ff, tt, tt, ff, ff, ff, ff, ff, ff, ff] rfl rfl (by kernel_rfl) (fun _ _ _ h => h) (Or.inl ⟨by rfl, ?_⟩) ?_ ?_
    rotate_left
    · intro w'
      go_simp
      with_reducible rfl
    rotate_left
    · simp only [Act.put, sx1, sx2, sx3, i64_w, i32_w]
      rfl
    refine take_ (i := 6) (N := some 35) (v := ?_) (a' := ?_) #[tt, tt, tt, tt, tt, tt, tt, tt, ff, tt, tt, ff, ff, ff, ff, ff, ff, ff] rfl rfl (by kernel_rfl) (fun _ _ _ h => h) (Or.inl ⟨by rfl, ?_⟩) hHeld ?_ ?_
    rotate_left
    · rintro w' ⟨s0, s1, s2⟩
      go_simp
      with_reducible rfl
    rotate_left
    · simp only [Act.put, sx1, sx2, sx3, i64_w, i32_w]
      rfl
    refine take_ (i := 8) (N := some 37) (v := ?_) (a' := ?_) #[tt, tt, tt, tt, tt, tt, tt, tt, tt, tt, tt, ff, ff, ff, ff, ff, ff, ff] rfl rfl (by kernel_rfl) (fun _ _ _ h => h) (Or.inl ⟨by rfl, ?_⟩) hHeld ?_ ?_
    rotate_left
    · rintro w' ⟨s0, s1, s2⟩
      go_simp
      with_reducible rfl
    rotate_left
    · simp only [Act.put, sx1, sx2, sx3, i64_w, i32_w]
      rfl
    refine one_ (i := 11) (N := none) #[tt, tt, tt, tt, tt, tt, tt, tt, tt, tt, tt, tt, ff, ff, ff, ff, ff, ff] rfl rfl (by kernel_rfl) (by decide) (fun K hK => ?_)
    refine skip_ (w1 := ?_) (by rfl) rfl ?_ ?_
    rotate_left
    · go_simp
      rfl
    refine hK.out _ _ ⟨(by first | exact set_other hgp a10 | exact drew_cell (set_other hgp b10) | exact set_other hgp b10), (by first | exact set_other hgp a11 | exact drew_cell (set_other hgp b11) | exact set_other hgp b11), (by first | exact set_other hgp a12 | exact drew_cell (set_other hgp b12) | exact set_other hgp b12)⟩ (fun hHeld => ?_)
    clear hK K
    refine pure_ (i := 12) (N := some 40) (v := ?_) (a' := ?_) #[tt, tt, tt, tt, tt, tt, tt, tt, tt, tt, tt, tt, tt, ff, ff, ff, ff, ff] rfl rfl (by kernel_rfl) (fun _ _ _ h => h) (Or.inl ⟨by rfl, ?_⟩) ?_ ?_
    rotate_left
    · intro w'
      go_simp
      with_reducible rfl
    rotate_left
    · simp only [Act.put, sx1, sx2, sx3, i64_w, i32_w]
      rfl
    refine pure_ (i := 13) (N := some 41) (v := ?_) (a' := ?_) #[tt, tt, tt, tt, tt, tt, tt, tt, tt, tt, tt, tt, tt, tt, ff, ff, ff, ff] rfl rfl (by kernel_rfl) (fun _ _ _ h => h) (Or.inl ⟨by rfl, ?_⟩) ?_ ?_
    rotate_left
    · intro w'
      go_simp
      with_reducible rfl
    rotate_left
    · simp only [Act.put, sx1, sx2, sx3, i64_w, i32_w]
      rfl
    refine one_ (i := 14) (N := none) #[tt, tt, tt, tt, tt, tt, tt, tt, tt, tt, tt, tt, tt, tt, tt, ff, ff, ff] rfl rfl (by kernel_rfl) (by decide) (fun K hK => ?_)
    refine skip_ (w1 := ?_) (by rfl) rfl ?_ ?_
    rotate_left
    · go_simp
      rfl
    refine hK.out _ _ ⟨(by first | exact set_other hgp (set_other hgp a10) | exact drew_cell (set_other hgp (set_other hgp b10)) | exact set_other hgp (set_other hgp b10)), (by first | exact set_other hgp (set_other hgp a11) | exact drew_cell (set_other hgp (set_other hgp b11)) | exact set_other hgp (set_other hgp b11)), (by first | exact set_other hgp (set_other hgp a12) | exact drew_cell (set_other hgp (set_other hgp b12)) | exact set_other hgp (set_other hgp b12))⟩ (fun hHeld => ?_)
    clear hK K
    refine pure_ (i := 15) (N := some 42) (v := ?_) (a' := ?_) #[tt, tt, tt, tt, tt, tt, tt, tt, tt, tt, tt, tt, tt, tt, tt, tt, ff, ff] rfl rfl (by kernel_rfl) (fun _ _ _ h => h) (Or.inl ⟨by rfl, ?_⟩) ?_ ?_
    rotate_left
    · intro w'
      go_simp
      with_reducible rfl
    rotate_left
    · simp only [Act.put, sx1, sx2, sx3, i64_w, i32_w]
      rfl
    refine pure_ (i := 16) (N := some 43) (v := ?_) (a' := ?_) #[tt, tt, tt, tt, tt, tt, tt, tt, tt, tt, tt, tt, tt, tt, tt, tt, tt, ff] rfl rfl (by kernel_rfl) (fun _ _ _ h => h) (Or.inl ⟨by rfl, ?_⟩) ?_ ?_
    rotate_left
    · intro w'
      go_simp
      with_reducible rfl
    rotate_left
    · simp only [Act.put, sx1, sx2, sx3, i64_w, i32_w]
      rfl
    refine last_ (i := 17) (N := none) #[tt, tt, tt, tt, tt, tt, tt, tt, tt, tt, tt, tt, tt, tt, tt, tt, tt, tt] rfl rfl (by kernel_rfl) (by decide) (fun K hK => ?_)
    refine skip_ (w1 := ?_) (by rfl) rfl ?_ ?_
    rotate_left
    · go_simp
      rfl
    refine hK.out _ _ ?_
    clear hK K
    refine done_ (by kernel_rfl) ?_
    clear hHeld a10 a11 a12 b10 b11 b12 c4 c5 c6 z4 z5 z6 hgp
    obtain ⟨w7, hw7⟩ : ∃ w7, w7 = (((wa.setCell ⟨p, 4, none⟩ (.int .i64 st)).setCell ⟨p, 5, none⟩ (.int .i64 of)).setCell ⟨p, 6, none⟩ (.string x)).drew := ⟨_, rfl⟩
    rw [← hw7]
    have HP7 := Aside0.mk (show w7.heap[p]? = some (.cells (({ ({ s with es := s.es.drop d } : SV) with st := st, of := of, x := x } : SV).cells E m ce) 53 (0, 0)) by
      rw [hw7]
      show (((wa.setCell ⟨p, 4, none⟩ (.int .i64 st)).setCell ⟨p, 5, none⟩ (.int .i64 of)).setCell ⟨p, 6, none⟩ (.string x)).heap[p]? = _
      refine blk_put (cs := ({ ({ s with es := s.es.drop d } : SV) with st := st, of := of } : SV).cells E m ce) ?_ 6 _ rfl
      refine blk_put (cs := ({ ({ s with es := s.es.drop d } : SV) with st := st } : SV).cells E m ce) ?_ 5 _ rfl
      exact blk_put HPa.out 4 _ rfl)
    have HG7 := Aside0.mk (show w7.heap[g]? = some (.cells (recCells kd a v k se rq A n c vn vp vb st of x) 116 (0, 0)) by
      rw [hw7]
      exact blk_far (blk_far (blk_far HGa.out (by simp only; exact HPG.out) _) (by simp only; exact HPG.out) _) (by simp only; exact HPG.out) _)
    have HX7 := Aside0.mk (show Frm w w7 (fun k => k = p) by
      rw [hw7]
      exact (((HXa.out.set_ (p := ⟨p, 4, none⟩) (.inl rfl) _).set_ (p := ⟨p, 5, none⟩) (.inl rfl) _).set_ (p := ⟨p, 6, none⟩) (.inl rfl) _).drew)
    have HR7 := Aside0.mk (show Kd.R k24 24 w7 base ok (.slice E m ce) (s.es.drop d) by
      rw [hw7]
      have ht : ∀ t, t ∈ 24 :: k24.E → t ≠ 53 := fun t ht => by rcases k24_types ht with rfl | rfl <;> decide
      have h4 := Kd.R_set HRa.out HPa.out ht 4 (.int .i64 st)
      have h5 := Kd.R_set h4 (blk_put HPa.out 4 _ rfl) ht 5 (.int .i64 of)
      have h6 := Kd.R_set h5 (blk_put (blk_put HPa.out 4 _ rfl) 5 _ rfl) ht 6 (.string x)
      exact Kd.R_step h6 (fun _ _ _ => rfl))
    clear hw7
    have c8 : w7.drew.cell? ⟨p, 8, none⟩ = some (.int .i64 s.co) := (blk_cell (w := w7.drew) HP7.out 8).trans rfl
    have a10 : w7.drew.cell? ⟨g, 10, none⟩ = some (.int .i64 st) := (blk_cell (w := w7.drew) HG7.out 10).trans rfl
    have z8 := blk_frozen HP7.out 8
    go_wp2_with fail
    refine start_ (n := 11) (S := fun w' => w'.cell? ⟨p, 8, none⟩ = some (.int .i64 s.co) ∧ w'.cell? ⟨g, 10, none⟩ = some (.int .i64 st)) (ds := [10]) #[ff, ff, ff, ff, ff, ff, ff, ff, ff, ff, ff] (by kernel_rfl) rfl rfl ⟨c8, a10⟩ (fun hHeld => ?_)
    refine pure_ (i := 0) (N := some 44) (v := ?_) (a' := ?_) #[tt, ff, ff, ff, ff, ff, ff, ff, ff, ff, ff] rfl rfl (by kernel_rfl) (fun _ _ _ h => h) (Or.inl ⟨by rfl, ?_⟩) ?_ ?_
    rotate_left
    · intro w'
      go_simp
      with_reducible rfl
    rotate_left
    · simp only [Act.put, sx1, sx2, sx3, i64_w, i32_w]
      rfl
    refine pure_ (i := 1) (N := some 45) (v := ?_) (a' := ?_) #[tt, tt, ff, ff, ff, ff, ff, ff, ff, ff, ff] rfl rfl (by kernel_rfl) (fun _ _ _ h => h) (Or.inl ⟨by rfl, ?_⟩) ?_ ?_
    rotate_left
    · intro w'
      go_simp
      with_reducible rfl
    rotate_left
    · simp only [Act.put, sx1, sx2, sx3, i64_w, i32_w]
      rfl
    refine pure_ (i := 2) (N := some 46) (v := ?_) (a' := ?_) #[tt, tt, tt, ff, ff, ff, ff, ff, ff, ff, ff] rfl rfl (by kernel_rfl) (fun _ _ _ h => h) (Or.inl ⟨by rfl, ?_⟩) ?_ ?_
    rotate_left
    · intro w'
      go_simp
      with_reducible rfl
    rotate_left
    · simp only [Act.put, sx1, sx2, sx3, i64_w, i32_w]
      rfl
    refine pure_ (i := 3) (N := some 47) (v := ?_) (a' := ?_) #[tt, tt, tt, tt, ff, ff, ff, ff, ff, ff, ff] rfl rfl (by kernel_rfl) (fun _ _ _ h => h) (Or.inl ⟨by rfl, ?_⟩) ?_ ?_
    rotate_left
    · intro w'
      go_simp
      with_reducible rfl
    rotate_left
    · simp only [Act.put, sx1, sx2, sx3, i64_w, i32_w]
      rfl
    refine pure_ (i := 5) (N := some 49) (v := ?_) (a' := ?_) #[tt, tt, tt, tt, ff, tt, ff, ff, ff, ff, ff] rfl rfl (by kernel_rfl) (fun _ _ _ h => h) (Or.inl ⟨by rfl, ?_⟩) ?_ ?_
    rotate_left
    · intro w'
      go_simp
      with_reducible rfl
    rotate_left
    · simp only [Act.put, sx1, sx2, sx3, i64_w, i32_w]
      rfl
    refine take_ (i := 4) (N := some 48) (v := ?_) (a' := ?_) #[tt, tt, tt, tt, tt, tt, ff, ff, ff, ff, ff] rfl rfl (by kernel_rfl) (fun _ _ _ h => h) (Or.inl ⟨by rfl, ?_⟩) hHeld ?_ ?_
    rotate_left
    · rintro w' ⟨s0, s1⟩
      go_simp
      with_reducible rfl
    rotate_left
    · simp only [Act.put, sx1, sx2, sx3, i64_w, i32_w]
      rfl
    refine take_ (i := 6) (N := some 50) (v := ?_) (a' := ?_) #[tt, tt, tt, tt, tt, tt, tt, ff, ff, ff, ff] rfl rfl (by kernel_rfl) (fun _ _ _ h => h) (Or.inl ⟨by rfl, ?_⟩) hHeld ?_ ?_
    rotate_left
    · rintro w' ⟨s0, s1⟩
      go_simp
      with_reducible rfl
    rotate_left
    · simp only [Act.put, sx1, sx2, sx3, i64_w, i32_w]
      rfl
    refine pure_ (i := 7) (N := some 51) (v := ?_) (a' := ?_) #[tt, tt, tt, tt, tt, tt, tt, tt, ff, ff, ff] rfl rfl (by kernel_rfl) (fun _ _ _ h => h) (Or.inl ⟨by rfl, ?_⟩) ?_ ?_
    rotate_left
    · intro w'
      go_simp
      with_reducible rfl
    rotate_left
    · simp only [Act.put, sx1, sx2, sx3, i64_w, i32_w]
      rfl
    refine pure_ (i := 8) (N := some 52) (v := ?_) (a' := ?_) #[tt, tt, tt, tt, tt, tt, tt, tt, tt, ff, ff] rfl rfl (by kernel_rfl) (fun _ _ _ h => h) (Or.inl ⟨by rfl, ?_⟩) ?_ ?_
    rotate_left
    · intro w'
      go_simp
      with_reducible rfl
    rotate_left
    · simp only [Act.put, sx1, sx2, sx3, i64_w, i32_w]
      rfl
    refine pure_ (i := 9) (N := some 53) (v := ?_) (a' := ?_) #[tt, tt, tt, tt, tt, tt, tt, tt, tt, tt, ff] rfl rfl (by kernel_rfl) (fun _ _ _ h => h) (Or.inl ⟨by rfl, ?_⟩) ?_ ?_
    rotate_left
    · intro w'
      go_simp
      with_reducible rfl
    rotate_left
    · simp only [Act.put, sx1, sx2, sx3, i64_w, i32_w]
      rfl
    refine last_ (i := 10) (N := none) #[tt, tt, tt, tt, tt, tt, tt, tt, tt, tt, tt] rfl rfl (by kernel_rfl) (by decide) (fun K hK => ?_)
    refine skip_ (w1 := ?_) (by rfl) rfl ?_ ?_
    rotate_left
    · go_simp
      rfl
    refine hK.out _ _ ?_
    clear hK K
    refine done_ (by kernel_rfl) ?_
    go_end0
    rw [if_max s.co st]
    refine ⟨⟨_, rfl⟩, E, ce, ?_, ?_, ?_⟩
    · exact blk_put HP7.out 8 _ rfl
    · exact Kd.R_set HR7.out HP7.out (fun t ht => by rcases k24_types ht with rfl | rfl <;> decide) 8 _
    · exact (HX7.out.set_ (p := ⟨p, 8, none⟩) (.inl rfl) _).drew
end Go.Proofs.Ytdbniihjkiecbaa.PW
namespace Go.Proofs.Ytdbniihjkiecbaa.PW
open Go.RowKit Go.Proofs.YtdbniihjkiecbaaW.PrintWords Go.Proofs.YtdbniihjkiecbaaW.PrintLast Go.Proofs.YtdbniihjkiecbaaW.PrintMore
set_option linter.unusedVariables false
set_option linter.unusedSimpArgs false

theorem R40_any {W : World} {base : Nat} {ok ok' : Nat → Prop} {v : Value} {l : List S40} (h : Kd.R k40 40 W base ok v l) (hk : ∀ k, v.ownBlock = some k → ok' k) : Kd.R k40 40 W base ok' v l :=
  ⟨hk, h.2.imp_ (fun _ _ hp => by rw [k40_openM hp]; exact k40_mkM _ _ _ _)⟩
end Go.Proofs.Ytdbniihjkiecbaa.PW
namespace Go.Proofs.Ytdbniihjkiecbaa.PW
open Go.RowKit Go.Proofs.YtdbniihjkiecbaaW.PrintWords Go.Proofs.YtdbniihjkiecbaaW.PrintLast Go.Proofs.YtdbniihjkiecbaaW.PrintMore
set_option linter.unusedVariables false
set_option linter.unusedSimpArgs false

abbrev JR.enc (y : JR) (sq : Int) : List Int × Int := recEnc sq y.kd y.s y.v y.k y.se y.rq y.ops y.vn y.vp y.vb y.st y.of y.x
/-- What is written of records: the bytes, the places behind each, the records that were taken. -/
def wrGo : List JR → List Int × List Int × List JR → List Int × List Int × List JR
  | [], s => s
  | y :: l, (d, es, ys) => if d.length < 60000 then
      (if (y.enc ((es.length : Int) + 1)).2 = 0 then wrGo l (d ++ (y.enc ((es.length : Int) + 1)).1, es ++ [((d.length + (y.enc ((es.length : Int) + 1)).1.length : Nat) : Int)], ys ++ [y]) else wrGo l (d, es, ys))
    else (d, es, ys)
abbrev R3 (w : World) (base : Nat) (v : Value) (l : List Int) : Prop := Kd.R (Kd.int .i64) 3 w base (fun _ => True) v l
theorem info3' : (Try.prog.info? 3).map (fun i => (i.zero, i.size, i.bytes)) = some (some (.int .i64 0), 1, 8) := by kernel_rfl
theorem k3_only {t : Nat} (h : t ∈ 3 :: (Kd.int .i64).E) : t = 3 := by
  have h' : t ∈ [3] := h
  simpa using h'
theorem k8_only {t : Nat} (h : t ∈ 5 :: (Kd.int .u8).E) : t = 5 := by
  have h' : t ∈ [5] := h
  simpa using h'
theorem R3_far {W w1 : World} {base : Nat} {v u : Value} {l k : List Int} (h : R3 W base v l) (hu : R8 W base u k) (hg : W.grownBy w1 u.ownBlock) : R3 w1 base v l :=
  Kd.R_mono (Kd.R_step (Kd.R_bound h) (fun j hj hlt => hg.block j hlt (fun e => by
    obtain ⟨q, hq, hc⟩ := hj.2.2.2
    have h1 : typed W 5 j := Kd.R_typed hu j e.symm
    rw [k3_only hq] at hc
    exact absurd (typed_ne hc h1) (by decide)))) (fun _ _ => trivial)
theorem R8_far {W w1 : World} {base : Nat} {v u : Value} {l k : List Int} (h : R8 W base v l) (hu : R3 W base u k) (hg : W.grownBy w1 u.ownBlock) : R8 w1 base v l :=
  Kd.R_mono (Kd.R_step (Kd.R_bound h) (fun j hj hlt => hg.block j hlt (fun e => by
    obtain ⟨q, hq, hc⟩ := hj.2.2.2
    have h1 : typed W 3 j := Kd.R_typed hu j e.symm
    rw [k8_only hq] at hc
    exact absurd (typed_ne hc h1) (by decide)))) (fun _ _ => trivial)
theorem wr_succ {m : Nat} (h : m ≤ 3000000000000) : wrap64 ((m : Int) + 1) = (m : Int) + 1 := by unfold wrap64; omega
theorem enc_len (y : JR) (sq : Int) : (y.enc sq).1.length ≤ 4000000 := recEnc_len _ _ _ _ _ _ _ _ _ _ _ _ _ _
set_option maxHeartbeats 16000000 in
set_option maxRecDepth 100000 in
theorem written_R (w : World) (A : Option Addr) (n c : Nat) (l : List JR) (hn : l.length = n) (hc : n ≤ c) (hm : n ≤ 2513169434843) (hC : Kd.C kJ w A n l) :
    Calls Try.prog 17 #[.slice A n c] w fun e w' => ∃ V U, e = .returned (.tuple #[V, U]) ∧ R8 w' w.heap.size V (wrGo l ([], [], [])).1 ∧ R3 w' w.heap.size U (wrGo l ([], [], [])).2.1 ∧ Below w.heap.size w w' := by
  have hu28 := Try.underlying28
  have hu26 := Try.underlying26
  have hu24 := Try.underlying24
  have HN := Aside0.mk hn
  have HC := Aside0.mk hC
  have HCC := Aside0.mk hc
  obtain ⟨F, hF⟩ : ∃ F, F = wrGo l ([], [], []) := ⟨_, rfl⟩
  rw [← hF]
  have HFF := Aside0.mk hF
  clear hn hC hc hF
  go_enter Try.func17, Try.ntmps17
  go_wp2
  go_loopw [4, 5, 6] (fun v4 v5 v6 wr => ∃ i : Nat, i ≤ n ∧ v6 = .int .i64 (i : Int) ∧ ∃ (d es : List Int) (ys : List JR), Aside0 (R8 wr w.heap.size v4 d) ∧ Aside0 (R3 wr w.heap.size v5 es) ∧ Aside0 (Below w.heap.size w wr) ∧ Aside0 (wrGo (l.drop i) (d, es, ys) = F) ∧ Aside0 (d.length ≤ 4100000 ∧ es.length ≤ i)) (fun v4 v5 v6 _ => n - (intOf v6).toNat)
  case atStart => exact ⟨0, Nat.zero_le _, rfl, [], [], [], ⟨Kd.R_nil _ _ _ _ _⟩, ⟨Kd.R_nil _ _ _ _ _⟩, ⟨Below.refl _ _⟩, ⟨HFF.out.symm⟩, ⟨by simp, by simp⟩⟩
  case round =>
    obtain ⟨i, hi, rfl, d, es, ys, HO, HE, HB, HW, HL⟩ := hrel
    obtain ⟨A4, c4, rfl⟩ := Kd.R_slice HO.out
    obtain ⟨A5, c5, rfl⟩ := Kd.R_slice HE.out
    obtain ⟨m4, hm4⟩ : ∃ m4, m4 = d.length := ⟨_, rfl⟩
    obtain ⟨m5, hm5⟩ : ∃ m5, m5 = es.length := ⟨_, rfl⟩
    rw [← hm4] at HO
    rw [← hm5] at HE
    rw [← hm4, ← hm5]
    have HM4 := Aside0.mk hm4
    have HM5 := Aside0.mk hm5
    clear hm4 hm5
    by_cases hlt : i < n
    · have hd1 : decide ((i : Int) < (n : Int)) = true := decide_eq_true (by omega)
      have hd2 : decide (i < n) = true := decide_eq_true hlt
      have hil : i < l.length := by rw [HN.out]; exact hlt
      have hdr : l.drop i = l[i] :: l.drop (i + 1) := List.drop_eq_getElem_cons hil
      have HDR := Aside0.mk hdr
      by_cases h6 : m4 < 60000
      · have g1 : decide ((m4 : Int) < 60000) = true := decide_eq_true (by omega)
        have g2 : decide (m4 < 60000) = true := decide_eq_true h6
        obtain ⟨ad, A1, c1, rfl, f0, f1, f2, f3, f4, f5, f6, f7, f8, f9, f10, f11, f12, hlc, hCo⟩ := at_J HC.out (i : Int) (by omega) (by omega)
        obtain ⟨y, hy⟩ : ∃ y, rd_J l (i : Int) = y := ⟨_, rfl⟩
        rw [hy, Int.toNat_natCast] at f0 f1 f2 f3 f4 f5 f6 f7 f8 f9 f10 f11 f12
        rw [hy] at hlc hCo
        have hyi : l[i] = y := by
          rw [← hy]
          unfold rd_J
          rw [Int.toNat_natCast, List.getD_eq_getElem?_getD, List.getElem?_eq_getElem hil]
          rfl
        have HYI := Aside0.mk hyi
        obtain ⟨m6, hm6⟩ : ∃ m6, m6 = y.ops.length := ⟨_, rfl⟩
        rw [← hm6] at f6 hlc hCo
        replace f0 := pw_cell_below HB.out f0
        replace f1 := pw_cell_below HB.out f1
        replace f2 := pw_cell_below HB.out f2
        replace f3 := pw_cell_below HB.out f3
        replace f4 := pw_cell_below HB.out f4
        replace f5 := pw_cell_below HB.out f5
        replace f6 := pw_cell_below HB.out f6
        replace f7 := pw_cell_below HB.out f7
        replace f8 := pw_cell_below HB.out f8
        replace f9 := pw_cell_below HB.out f9
        replace f10 := pw_cell_below HB.out f10
        replace f11 := pw_cell_below HB.out f11
        replace f12 := pw_cell_below HB.out f12
        have HCO := Aside0.mk (Kd.C_below hCo HB.out)
        have HLC := Aside0.mk hlc
        have HM6 := Aside0.mk hm6
        have hws := wr_succ (m := m5) (by have := HL.out.2; have := HM5.out; omega)
        clear hCo hlc hm6 hy hyi hdr
        go_wp2_with fail
        obtain ⟨r, hr⟩ : ∃ r, r = y.enc ((m5 : Int) + 1) := ⟨_, rfl⟩
        refine (encode_C ((m5 : Int) + 1) y.kd y.s y.v y.k y.se y.rq A1 c1 m6 y.ops y.vn y.vp y.vb y.st y.of y.x wr HM6.out.symm HCO.out HLC.out r.1 r.2 (by rw [hr])).mono ?_
        rintro e1 w1 ⟨V, rfl, hv, hb⟩
        have HV := Aside0.mk hv
        have HO1 := Aside0.mk (Kd.R_below HO.out hb)
        have HE1 := Aside0.mk (Kd.R_below HE.out hb)
        have HB1 := Aside0.mk (below_step HB.out hb)
        have HR := Aside0.mk hr
        clear hv hb hr f0 f1 f2 f3 f4 f5 f6 f7 f8 f9 f10 f11 f12 hws HO HE HB HCO
        go_wp2_with fail
        refine (num_N r.2 w1).mono ?_
        rintro e2 w2 ⟨rfl, hd⟩
        have HV2 := Aside0.mk (Kd.R_below HV.out hd.below)
        have HO2 := Aside0.mk (Kd.R_below HO1.out hd.below)
        have HE2 := Aside0.mk (Kd.R_below HE1.out hd.below)
        have HB2 := Aside0.mk (below_step HB1.out hd.below)
        clear hd HV HO1 HE1 HB1
        have hgo : F = wrGo (l.drop (i + 1)) (if r.2 = 0 then (d ++ r.1, es ++ [((d.length + r.1.length : Nat) : Int)], ys ++ [y]) else (d, es, ys)) := by
          rw [← HW.out, HDR.out, HYI.out]
          show (if d.length < 60000 then _ else _) = _
          rw [if_pos (by rw [← HM4.out]; exact h6), ← HM5.out, ← HR.out]
          by_cases h0 : r.2 = 0
          · rw [if_pos h0, if_pos h0]
          · rw [if_neg h0, if_neg h0]
        have HGO := Aside0.mk hgo
        have HRL := Aside0.mk (show r.1.length ≤ 4000000 by rw [HR.out]; exact enc_len y _)
        clear hgo
        by_cases h0 : r.2 = 0
        · have q1 : (r.2 == 0) = true := by simpa using h0
          have q2 : decide (r.2 = 0) = true := decide_eq_true h0
          rw [if_pos h0] at HGO
          obtain ⟨A7, c7, rfl, hc7, hC7⟩ := Kd.R_reads HV2.out
          obtain ⟨m7, hm7⟩ : ∃ m7, m7 = r.1.length := ⟨_, rfl⟩
          rw [← hm7] at hC7
          have HC7 := Aside0.mk hC7
          have HM7 := Aside0.mk hm7
          rw [← hm7]
          clear hC7 hc7 hm7
          go_wp2_with (with_reducible refine stop_append rfl ?_)
          refine app8 (v := .slice A4 m4 c4) (xs := d) (ys := r.1) w w.heap.size rfl _ _ rfl rfl rfl HO2.out HC7.out HB2.out HB2.out.size (by have := HL.out.1; have := HM7.out; have := HRL.out; omega) ?_
          intro v3 w3 ho3 hb3 hg3 hat3
          obtain ⟨A8, c8, rfl⟩ := Kd.R_slice ho3
          obtain ⟨m8, hm8⟩ : ∃ m8, m8 = (d ++ r.1).length := ⟨_, rfl⟩
          rw [← hm8] at ho3 ⊢
          have HO3 := Aside0.mk ho3
          have HE3 := Aside0.mk (R3_far HE2.out HO2.out hg3)
          have HB3 := Aside0.mk hb3
          have HM8 := Aside0.mk hm8
          clear ho3 hb3 hg3 hat3 hm8
          go_wp2_with (with_reducible refine stop_append rfl ?_)
          refine Kd.R_append (Kd.int .i64) (w0 := w) w.heap.size rfl _ _ 44 3 (.int .i64 0) 8 rfl Try.underlying44 info3' rfl (by decide) (by decide) (.slice A5 m5 c5) es (m8 : Int) [.int .i64 (m8 : Int)] (fun _ => True) (fun _ => False) rfl rfl rfl (fun _ h => h.elim) (fun _ _ => trivial) HE3.out HB3.out HB3.out.size (by have := HL.out.2; omega) ?_
          intro v4 w4 ho4 hb4 hg4 hat4
          have HO4 := Aside0.mk (R8_far HO3.out HE3.out hg4)
          have HE4 := Aside0.mk ho4
          have HB4 := Aside0.mk hb4
          clear ho4 hb4 hg4 hat4 q1 q2
          go_wp2
          go_roundw
          case rel => exact ⟨i + 1, by omega, by go_num, d ++ r.1, es ++ [(m8 : Int)], ys ++ [y], ⟨HO4.out⟩, ⟨HE4.out⟩, HB4, ⟨by rw [HGO.out, HM8.out, List.length_append]⟩, ⟨by have := HM4.out; have := HRL.out; rw [List.length_append]; omega, by rw [List.length_append]; have := HL.out.2; simp; omega⟩⟩
          case measure => simp [intOf]; omega
        · have q1 : (r.2 == 0) = false := by simpa using h0
          have q2 : decide (r.2 = 0) = false := decide_eq_false h0
          rw [if_neg h0] at HGO
          go_wp2
          go_roundw
          case rel => exact ⟨i + 1, by omega, by go_num, d, es, ys, ⟨HO2.out⟩, ⟨HE2.out⟩, HB2, ⟨HGO.out.symm⟩, ⟨HL.out.1, by have := HL.out.2; omega⟩⟩
          case measure => simp [intOf]; omega
      · have g1 : decide ((m4 : Int) < 60000) = false := decide_eq_false (by omega)
        have g2 : decide (m4 < 60000) = false := decide_eq_false h6
        have hfin : (d, es, ys) = F := by
          rw [← HW.out, hdr]
          unfold wrGo
          rw [if_neg (by rw [← HM4.out]; exact h6)]
        clear hdr
        go_wp2
        go_ret2
        rw [← hfin]
        exact ⟨_, _, rfl, HO.out, HE.out, HB.out⟩
    · have hd1 : decide ((i : Int) < (n : Int)) = false := decide_eq_false (by omega)
      have hd2 : decide (i < n) = false := decide_eq_false hlt
      have hdr : l.drop i = [] := List.drop_of_length_le (by rw [HN.out]; omega)
      have hfin : (d, es, ys) = F := by
        rw [← HW.out, hdr]
        rfl
      clear hdr
      go_wp2
      go_ret2
      rw [← hfin]
      exact ⟨_, _, rfl, HO.out, HE.out, HB.out⟩
end Go.Proofs.Ytdbniihjkiecbaa.PW
namespace Go.Proofs.Ytdbniihjkiecbaa.PW
open Go.RowKit Go.Proofs.YtdbniihjkiecbaaW.PrintWords Go.Proofs.YtdbniihjkiecbaaW.PrintLast Go.Proofs.YtdbniihjkiecbaaW.PrintMore
set_option linter.unusedVariables false
set_option linter.unusedSimpArgs false

abbrev entArr (s v k se rq : Int) (V : Value) : Array Value := #[.int .i64 s, .int .i64 v, .int .i64 k, .int .i64 se, .int .i64 rq, V]
set_option maxHeartbeats 8000000 in
set_option maxRecDepth 100000 in
theorem dec_in (w : World) (d e n c : Nat) (A : Option Addr) (l : List Int) (s v k se rq : Int) (ops : List S40) (m : Nat) (hm2 : ops.length = m) (hm1 : m ≤ 1000000) (hn : l.length = n) (hc : n ≤ c) (hok : bytesOk l = true) (hm : n ≤ 140737488355328) (hC : C8 w A n l) (hd : w.heap[d]? = some (.cells #[.slice A n c] 29 (0, 0))) (he : w.heap[e]? = some (.cells entZero 24 (0, 0))) (hr : EntAt l 0 s v k se rq ops (n : Int)) :
    Calls Try.prog 98 #[.pointer (some ⟨d, 0, none⟩), .pointer (some ⟨e, 0, none⟩)] w fun r w' => (∃ x, r = .returned x) ∧ ∃ V, R40 w' w.heap.size V ops ∧ w'.heap[e]? = some (.cells (entArr s v k se rq V) 24 (0, 0)) ∧ Frm w w' (fun k => k = e) := by
  have hu163 := Try.underlying163
  have hu24 := Try.underlying24
  have d0 := (blk_cell hd 0).trans rfl
  have HN := Aside0.mk hn
  have HC := Aside0.mk hC
  have HCC := Aside0.mk hc
  have HOK := Aside0.mk hok
  have HM := Aside0.mk hm
  have HM2 := Aside0.mk hm2
  have HM1 := Aside0.mk hm1
  have HD := Aside0.mk hd
  have HE := Aside0.mk he
  have HR := Aside0.mk hr
  clear hn hc hok hm hC hd he hr hm1 hm2
  go_enter Try.func98, Try.ntmps98
  go_wp2_with fail
  obtain ⟨rb, hrb⟩ : ∃ rb, rb = w.heap.size := ⟨_, rfl⟩
  obtain ⟨v1, hv1⟩ : ∃ v1, v1 = w.alloc (.cells #[.slice A n c, .int .i64 0] 163) := ⟨_, rfl⟩
  rw [← hv1, ← hrb]
  have HW1 := Aside0.mk (show Below w.heap.size w v1 by rw [hv1]; exact below_alloc (Below.refl _ _) _)
  have HG1 := Aside0.mk (show v1.heap[rb]? = some (.cells #[.slice A n c, .int .i64 0] 163 (0, 0)) by rw [hv1, hrb]; exact heap_alloc_new w _)
  have HRB := Aside0.mk (show w.heap.size ≤ rb by omega)
  have HE1 := Aside0.mk ((HW1.out.block e (blk_lt HE.out)).trans HE.out)
  have HER := Aside0.mk (show e ≠ rb by have := blk_lt HE.out; omega)
  clear hrb hv1 d0
  refine (get_entry w v1 rb n c A l 0 (n : Int) s v k se rq ops m HM2.out HM1.out HN.out HCC.out HOK.out HM.out HC.out HW1.out HRB.out HG1.out HR.out).mono ?_
  rintro r2 v2 ⟨V, rfl, ho2, hg2, hf2⟩
  have HG2 := Aside0.mk hg2
  have HE2 := Aside0.mk (hf2.blk HE1.out (fun x => HER.out x))
  have HX2 := Aside0.mk ((Frm.of_below HW1.out (fun _ => False)).then_ hf2 (fun k hk hlt => by have := HRB.out; omega))
  have HO2 := Aside0.mk (Kd.R_lower ho2 HW1.out.size)
  clear ho2 hg2 hf2 HE1 HG1
  obtain ⟨B, mm, cb, rfl, hmm, hcb, _⟩ := R40_form HO2.out
  clear hmm hcb
  go_wp2_with (with_reducible refine stop_store rfl ?_)
  refine store_blk rfl rfl 24 _ _ rfl (q := e) (i := 0) (cur' := entArr s v k se rq (.slice B mm cb)) [.int .i64 s, .int .i64 v, .int .i64 k, .int .i64 se, .int .i64 rq, .slice B mm cb] rfl rfl rfl (by kernel_rfl) (by intro u hu; simp at hu; rcases hu with rfl | rfl | rfl | rfl | rfl | rfl <;> rfl) HE2.out (by simp) rfl ?_
  intro v3 hz hgz
  have HE3 := Aside0.mk hz
  have HG3 := Aside0.mk ((hgz.block rb (blk_lt HG2.out) (fun x => HER.out (Option.some.inj x).symm)).trans HG2.out)
  have HX3 := Aside0.mk ((HX2.out.mono (S1 := fun k => k = e) (fun k hk _ => hk.elim)).then_ (Frm.of_grown (S := fun k => k = e) hgz (fun k e => (Option.some.inj e).symm)) (fun k hk _ => hk))
  have HO3 := Aside0.mk (R40_frm HO2.out HE2.out (by decide) (Frm.of_grown (S := fun k => k = e) hgz (fun k e => (Option.some.inj e).symm)))
  clear hz hgz HE2 HG2 HX2 HO2
  go_wp2_with fail
  refine (nr_end v3 rb n c A HG3.out).mono ?_
  rintro r4 v4 ⟨⟨x4, rfl⟩, hb4⟩
  have HB4 := Aside0.mk hb4
  clear hb4
  go_wp2
  go_end0
  exact ⟨⟨_, rfl⟩, _, Kd.R_below HO3.out HB4.out, (HB4.out.block e (blk_lt HE3.out)).trans HE3.out, HX3.out.step HB4.out⟩
/-- The deferred closure of guarded, where nothing panics. -/
theorem guard_idle (a : Value) (w : World) :
    CallsD Try.prog 104 #[a] .returning w fun e u' w' => e = .returned (.tuple #[]) ∧ u' = .returning ∧ w' = w := by
  refine callsD_of_wpS Try.func104 rfl fun c₀ cs hu => ?_
  apply wpS_seq
  apply wpS_region
  simp [wpOpsS, go_sem, recoverD, hu, Try.ntmps104, Exit.thenS]
  apply wpS_seq
  apply wpS_region
  simp [wpOpsS, go_sem, Exit.thenS]
  refine wpS_cond (t := false) (by simp [Act.eval, Array.replicate]) ?_
  simp only [Bool.false_eq_true, if_false]
  refine wpS_of_wp (wp_skip ?_)
  cases c₀
  simp_all [bodyPostS, results, Try.results104]
theorem results97_row (tmps : Array Value) (w : World) (p : Nat) (b : Bool) (h2 : tmps[2]? = some (.pointer (some ⟨p, 0, none⟩))) (c2 : w.cell? ⟨p, 0, none⟩ = some (.bool b)) :
    (results Try.f97 tmps).run Try.prog w = .ok (.bool b) w := by
  have hl2 : (loadVar 4 ⟨p, 0, none⟩).run Try.prog w = .ok (.bool b) w := by simp [go_sem, c2]
  simp [results, Try.results97, h2, asAddr, hl2, Sem.run_bind, Sem.run_pure, Result.andThen_ok]
theorem door97 {R : Ending → World → Prop} {a : Act} {w : World} {p v : Value} (hd : a.defers = [{ target := .fn (.func 104) #[p], args := #[] }]) (hres : (results Try.f97 a.tmps).run Try.prog w = .ok v w) (hR : R (.returned v) w) :
    bodyPostD Try.prog Try.f97 R Exit.ret a w := by
  show Leaves Try.prog Try.f97 a.tmps R a.defers .returning w
  rw [hd]
  refine leaves_cons (f := 104) (args := #[p]) (by simp) (by simp [go_sem]) ?_
  refine (guard_idle _ _).mono ?_
  rintro e u' w'' ⟨rfl, rfl, rfl⟩
  exact ⟨v, hres, hR⟩
set_option maxHeartbeats 8000000 in
set_option maxRecDepth 100000 in
theorem guarded_in (w : World) (d e n c : Nat) (A : Option Addr) (l : List Int) (s v k se rq : Int) (ops : List S40) (m : Nat) (hm2 : ops.length = m) (hm1 : m ≤ 1000000) (hn : l.length = n) (hc : n ≤ c) (hok : bytesOk l = true) (hm : n ≤ 140737488355328) (hC : C8 w A n l) (hd : w.heap[d]? = some (.cells #[.slice A n c] 29 (0, 0))) (he : w.heap[e]? = some (.cells entZero 24 (0, 0))) (hr : EntAt l 0 s v k se rq ops (n : Int)) :
    Calls Try.prog 97 #[.func (.func 98) #[] #[.pointer (some ⟨d, 0, none⟩), .pointer (some ⟨e, 0, none⟩)]] w fun r w' => r = .returned (.bool true) ∧ ∃ V, R40 w' w.heap.size V ops ∧ w'.heap[e]? = some (.cells (entArr s v k se rq V) 24 (0, 0)) ∧ Frm w w' (fun k => k = e) := by
  have hmf : ∀ (fn : Fn) (first cap : Array Value) (w : World), (Instr.makeFunc fn first cap).run Try.prog w = .ok (.func fn first cap) w := fun _ _ _ _ => rfl
  have HN := Aside0.mk hn
  have HC := Aside0.mk hC
  have HCC := Aside0.mk hc
  have HOK := Aside0.mk hok
  have HM := Aside0.mk hm
  have HM2 := Aside0.mk hm2
  have HM1 := Aside0.mk hm1
  have HD := Aside0.mk hd
  have HE := Aside0.mk he
  have HR := Aside0.mk hr
  clear hn hc hok hm hC hd he hr hm1 hm2
  go_enter_defers Try.func97, Try.ntmps97
  go_wp2_with fail
  obtain ⟨p, hp⟩ : ∃ p, p = w.heap.size := ⟨_, rfl⟩
  obtain ⟨v1, hv1⟩ : ∃ v1, v1 = w.alloc (.cells #[.bool false] 4) := ⟨_, rfl⟩
  rw [← hv1, ← hp]
  have HW1 := Aside0.mk (show Below w.heap.size w v1 by rw [hv1]; exact below_alloc (Below.refl _ _) _)
  have HP1 := Aside0.mk (show v1.heap[p]? = some (.cells #[.bool false] 4 (0, 0)) by rw [hv1, hp]; exact heap_alloc_new w _)
  have HPW := Aside0.mk (show w.heap.size ≤ p by omega)
  have HPE := Aside0.mk (show p ≠ e by have := blk_lt HE.out; omega)
  clear hv1 hp
  refine (dec_in v1 d e n c A l s v k se rq ops m HM2.out HM1.out HN.out HCC.out HOK.out HM.out (Kd.C_below HC.out HW1.out) ((HW1.out.block d (blk_lt HD.out)).trans HD.out) ((HW1.out.block e (blk_lt HE.out)).trans HE.out) HR.out).mono ?_
  rintro r2 v2 ⟨⟨x2, rfl⟩, V, ho2, he2, hf2⟩
  have HE2 := Aside0.mk he2
  have HO2 := Aside0.mk (Kd.R_lower ho2 HW1.out.size)
  have HX2 := Aside0.mk ((Frm.of_below HW1.out (fun k => k = e)).then_ hf2 (fun k hk _ => hk))
  have HP2 := Aside0.mk (hf2.blk HP1.out (fun x => HPE.out x))
  clear he2 ho2 hf2
  have c2 := (blk_cell HP2.out 0).trans rfl
  have z2 := blk_frozen HP2.out 0
  go_wp2
  clear c2 z2
  obtain ⟨wz, hwz⟩ : ∃ wz, wz = v2.setCell ⟨p, 0, none⟩ (.bool true) := ⟨_, rfl⟩
  rw [← hwz]
  have k1 : wz.cell? ⟨p, 0, none⟩ = some (.bool true) := by rw [hwz]; exact World.cell?_setCell_same' _ _ _ (by rw [blk_cell HP2.out 0]; rfl)
  have k2 : wz.heap[e]? = some (.cells (entArr s v k se rq V) 24 (0, 0)) := by rw [hwz]; exact blk_far HE2.out (by simp only; exact fun x => HPE.out x.symm) _
  have k3 : R40 wz w.heap.size V ops := by rw [hwz]; exact Kd.R_set HO2.out HP2.out (fun t ht => by rw [k40_only ht]; decide) 0 _
  have k4 : Frm w wz (fun k => k = e) := by rw [hwz]; exact HX2.out.set_ (p := ⟨p, 0, none⟩) (.inr HPW.out) _
  exact door97 rfl (results97_row _ _ p _ rfl k1) ⟨rfl, V, k3, k2, k4⟩
end Go.Proofs.Ytdbniihjkiecbaa.PW
namespace Go.Proofs.Ytdbniihjkiecbaa.PW
open Go.RowKit Go.Proofs.YtdbniihjkiecbaaW.PrintWords Go.Proofs.YtdbniihjkiecbaaW.PrintLast Go.Proofs.YtdbniihjkiecbaaW.PrintMore
set_option linter.unusedVariables false
set_option linter.unusedSimpArgs false

/-- A view's record. -/
abbrev viewCells (x y z : Int) : Array Value := #[.int .i64 2, .int .i64 0, .int .i64 0, .int .i64 0, .int .i64 0, .int .i64 0, .slice none 0 0, .int .i64 x, .int .i64 y, .int .i64 z, .int .i64 0, .int .i64 0, .string ⟨#[]⟩]
abbrev zeroCells : Array Value := #[.int .i64 0, .int .i64 0, .int .i64 0, .int .i64 0, .int .i64 0, .int .i64 0, .slice none 0 0, .int .i64 0, .int .i64 0, .int .i64 0, .int .i64 0, .int .i64 0, .string ⟨#[]⟩]
set_option maxHeartbeats 8000000 in
set_option maxRecDepth 100000 in
theorem rd_view (w0 w : World) (rb n c : Nat) (A : Option Addr) (l : List Int) (x1 q1 x2 q2 x3 : Int) (hn : l.length = n) (hc : n ≤ c) (hok : bytesOk l = true) (hm : n ≤ 140737488355328) (hC : C8 w0 A n l) (hB : Below w0.heap.size w0 w) (hrb : w0.heap.size ≤ rb) (hg : w.heap[rb]? = some (.cells #[.slice A n c, .int .i64 0] 147 (0, 0)))
    (hr1 : readNum l 0 = (x1, q1, 0)) (hr2 : readNum l q1 = (x2, q2, 0)) (hr3 : readNum l q2 = (x3, (n : Int), 0)) :
    Calls Try.prog 84 #[.pointer (some ⟨rb, 0, none⟩), .int .i64 2] w fun e w' => e = .returned (.agg (viewCells x1 x2 x3)) ∧ Frm w w' (fun k => k = rb) := by
  have hu28 := Try.underlying28
  have hu26 := Try.underlying26
  have hu147 := Try.underlying147
  have HN := Aside0.mk hn
  have HC := Aside0.mk hC
  have HCC := Aside0.mk hc
  have HOK := Aside0.mk hok
  have HM := Aside0.mk hm
  have HR1 := Aside0.mk hr1
  have HR2 := Aside0.mk hr2
  have HR3 := Aside0.mk hr3
  have HG := Aside0.mk hg
  have HB := Aside0.mk hB
  have HRB := Aside0.mk hrb
  clear hn hc hok hm hC hB hg hr1 hr2 hr3 hrb
  go_enter Try.func84, Try.ntmps84
  go_wp2_with fail
  obtain ⟨f, hf⟩ : ∃ f, f = w.heap.size := ⟨_, rfl⟩
  obtain ⟨g, hg⟩ : ∃ g, g = w.heap.size + 1 := ⟨_, rfl⟩
  obtain ⟨va, hva⟩ : ∃ va, va = w.alloc (.cells zeroCells 28) := ⟨_, rfl⟩
  obtain ⟨v0, hv0⟩ : ∃ v0, v0 = va.alloc (.cells (viewCells 0 0 0) 28) := ⟨_, rfl⟩
  have hsz : va.heap.size = w.heap.size + 1 := by rw [hva]; simp
  rw [← hva, ← hv0, ← hg, ← hf]
  have HW1 := Aside0.mk (show Below w.heap.size w v0 by rw [hv0]; exact (below_step (w := w) (W := va) (by rw [hva]; exact below_alloc (Below.refl _ _) _) (below_alloc (Below.refl _ _) _)))
  have HF0 := Aside0.mk (show v0.heap[f]? = some (.cells zeroCells 28 (0, 0)) by
    rw [hv0]
    refine (Below.heap_alloc _ _ _ (by omega)).trans ?_
    rw [hva, hf]; exact heap_alloc_new w _)
  have HT0 := Aside0.mk (show v0.heap[g]? = some (.cells (viewCells 0 0 0) 28 (0, 0)) by rw [hv0, hg, ← hsz]; exact heap_alloc_new va _)
  have HB0 := Aside0.mk (below_step HB.out HW1.out)
  have HX0 := Aside0.mk (Frm.of_below HW1.out (fun k => k = rb))
  have HG0 := Aside0.mk ((HW1.out.block rb (blk_lt HG.out)).trans HG.out)
  have HFT := Aside0.mk (show f ≠ rb ∧ g ≠ rb by have := blk_lt HG.out; omega)
  have HFG := Aside0.mk (show f ≠ g ∧ w.heap.size ≤ f ∧ w.heap.size ≤ g by omega)
  clear hf hg hva hv0 hsz HW1 HG HB
  refine (rd_number w0 v0 rb n c A l 0 x1 q1 HN.out HCC.out HOK.out HM.out HC.out HB0.out HG0.out HR1.out).mono ?_
  rintro e1 v1 ⟨rfl, hg1, hf1⟩
  have HG1 := Aside0.mk hg1
  have HB1 := Aside0.mk (below_frm HB0.out hf1 (N := w0.heap.size) (fun k hk => by rw [hk]; exact HRB.out) (Nat.le_refl _))
  have HF1 := Aside0.mk (hf1.blk HF0.out (fun e => HFT.out.1 e))
  have HT1 := Aside0.mk (hf1.blk HT0.out (fun e => HFT.out.2 e))
  have HX1 := Aside0.mk (HX0.out.then_ hf1 (fun k hk _ => hk))
  clear hg1 hf1
  go_wp2_with fail
  refine (rd_number w0 v1 rb n c A l q1 x2 q2 HN.out HCC.out HOK.out HM.out HC.out HB1.out HG1.out HR2.out).mono ?_
  rintro e2 v2 ⟨rfl, hg2, hf2⟩
  have HG2 := Aside0.mk hg2
  have HB2 := Aside0.mk (below_frm HB1.out hf2 (N := w0.heap.size) (fun k hk => by rw [hk]; exact HRB.out) (Nat.le_refl _))
  have HF2 := Aside0.mk (hf2.blk HF1.out (fun e => HFT.out.1 e))
  have HT2 := Aside0.mk (hf2.blk HT1.out (fun e => HFT.out.2 e))
  have HX2 := Aside0.mk (HX1.out.then_ hf2 (fun k hk _ => hk))
  clear hg2 hf2
  go_wp2_with fail
  refine (rd_number w0 v2 rb n c A l q2 x3 (n : Int) HN.out HCC.out HOK.out HM.out HC.out HB2.out HG2.out HR3.out).mono ?_
  rintro e3 v3 ⟨rfl, hg3, hf3⟩
  have HG3 := Aside0.mk hg3
  have HB3 := Aside0.mk (below_frm HB2.out hf3 (N := w0.heap.size) (fun k hk => by rw [hk]; exact HRB.out) (Nat.le_refl _))
  have HF3 := Aside0.mk (hf3.blk HF2.out (fun e => HFT.out.1 e))
  have HT3 := Aside0.mk (hf3.blk HT2.out (fun e => HFT.out.2 e))
  have HX3 := Aside0.mk (HX2.out.then_ hf3 (fun k hk _ => hk))
  clear hg3 hf3
  clear HG0 HB0 HF0 HT0 HG1 HB1 HF1 HT1 HG2 HB2 HF2 HT2 HX0 HX1 HX2
  go_wp2_with (with_reducible refine stop_store rfl ?_)
  refine store_blk rfl rfl 26 _ _ rfl (q := g) (i := 7) (cur' := viewCells x1 x2 x3) [.int .i64 x1, .int .i64 x2, .int .i64 x3] rfl rfl rfl (by kernel_rfl) (by intro u hu; simp at hu; rcases hu with rfl | rfl | rfl <;> rfl) HT3.out (by simp) rfl ?_
  intro v4 hg4 hgr
  have hr4 := (hgr.block rb (blk_lt HG3.out) (fun e => HFT.out.2 (Option.some.inj e).symm)).trans HG3.out
  have HF4 := Aside0.mk ((hgr.block f (blk_lt HF3.out) (fun e => HFG.out.1 (Option.some.inj e))).trans HF3.out)
  have HB4 := Aside0.mk (HX3.out.then_ (Frm.of_grown (S := fun k => k = g) hgr (fun k e => (Option.some.inj e).symm)) (fun k hk hlt => by have := HFG.out.2.2; omega))
  have HT4 := Aside0.mk hg4
  have r0 : v4.cell? ⟨rb, 0, none⟩ = some (.slice A n c) := blk_cell hr4 0
  have r1 : v4.cell? ⟨rb, 1, none⟩ = some (.int .i64 (n : Int)) := blk_cell hr4 1
  clear hg4 hgr hr4 HG3 HB3 HF3 HT3
  go_wp2_with fail
  go_quiet (fail)
  obtain ⟨v5, hv5⟩ : ∃ v5, v5 = v4.drewN nq := ⟨_, rfl⟩
  rw [← hv5]
  have hb5 := (show Below v4.heap.size v4 v5 from Drawn0.below ⟨⟨nq, hv5⟩⟩)
  have ht5 : v5.heap[g]? = some (.cells (viewCells x1 x2 x3) 28 (0, 0)) := (hb5.block g (blk_lt HT4.out)).trans HT4.out
  have HF5 := Aside0.mk ((hb5.block f (blk_lt HF4.out)).trans HF4.out)
  have HB5 := Aside0.mk (HB4.out.step hb5)
  have kp0 : v5.cell? ⟨g, 0, none⟩ = some (.int .i64 2) := blk_cell ht5 0
  have kp1 : v5.cell? ⟨g, 1, none⟩ = some (.int .i64 0) := blk_cell ht5 1
  have kp2 : v5.cell? ⟨g, 2, none⟩ = some (.int .i64 0) := blk_cell ht5 2
  have kp3 : v5.cell? ⟨g, 3, none⟩ = some (.int .i64 0) := blk_cell ht5 3
  have kp4 : v5.cell? ⟨g, 4, none⟩ = some (.int .i64 0) := blk_cell ht5 4
  have kp5 : v5.cell? ⟨g, 5, none⟩ = some (.int .i64 0) := blk_cell ht5 5
  have kp6 : v5.cell? ⟨g, 6, none⟩ = some (.slice none 0 0) := blk_cell ht5 6
  have kp7 : v5.cell? ⟨g, 7, none⟩ = some (.int .i64 x1) := blk_cell ht5 7
  have kp8 : v5.cell? ⟨g, 8, none⟩ = some (.int .i64 x2) := blk_cell ht5 8
  have kp9 : v5.cell? ⟨g, 9, none⟩ = some (.int .i64 x3) := blk_cell ht5 9
  have kp10 : v5.cell? ⟨g, 10, none⟩ = some (.int .i64 0) := blk_cell ht5 10
  have kp11 : v5.cell? ⟨g, 11, none⟩ = some (.int .i64 0) := blk_cell ht5 11
  have kp12 : v5.cell? ⟨g, 12, none⟩ = some (.string ⟨#[]⟩) := blk_cell ht5 12
  clear hb5 hv5 HT4 HF4 HB4 r0 r1 ht5
  go_wp2_with (with_reducible refine stop_store rfl ?_)
  refine store_blk rfl rfl 28 _ _ rfl (q := f) (i := 0) (cur' := viewCells x1 x2 x3) (viewCells x1 x2 x3).toList rfl rfl rfl (by kernel_rfl) (by intro u hu; simp at hu; rcases hu with rfl | rfl | rfl | rfl | rfl | rfl | rfl | rfl | rfl <;> rfl) HF5.out (by simp) rfl ?_
  intro v6 hg6 hgr
  have HB6 := Aside0.mk (HB5.out.then_ (Frm.of_grown (S := fun k => k = f) hgr (fun k e => (Option.some.inj e).symm)) (fun k hk hlt => by have := HFG.out.2.1; omega))
  clear hgr HF5 HB5
  go_wp2
  (try simp only [Exit.inBlock, Exit.then])
  refine bodyPost_ret (results_cell_row rfl _ _ f 28 (viewCells x1 x2 x3) (0, 0) _ rfl hg6 Try.underlying28 rfl (by kernel_rfl)) rfl ?_
  exact ⟨rfl, HB6.out⟩
end Go.Proofs.Ytdbniihjkiecbaa.PW
namespace Go.Proofs.Ytdbniihjkiecbaa.PW
open Go.RowKit Go.Proofs.YtdbniihjkiecbaaW.PrintWords Go.Proofs.YtdbniihjkiecbaaW.PrintLast Go.Proofs.YtdbniihjkiecbaaW.PrintMore
set_option linter.unusedVariables false
set_option linter.unusedSimpArgs false

set_option maxHeartbeats 8000000 in
set_option maxRecDepth 100000 in
theorem dec_entry (w : World) (n c : Nat) (A : Option Addr) (l : List Int) (s v k se rq : Int) (ops : List S40) (m : Nat) (hm2 : ops.length = m) (hm1 : m ≤ 1000000) (hn : l.length = n) (hc : n ≤ c) (hok : bytesOk l = true) (hm : n ≤ 262144) (hC : C8 w A n l) (hr : EntAt l 0 s v k se rq ops (n : Int)) (hmay : entOk s v k se rq ops = true) :
    Calls Try.prog 91 #[.slice A n c] w fun r w' => ∃ B cb, r = .returned (.tuple #[.agg (entArr s v k se rq (.slice B m cb)), .int .i64 0]) ∧ R40 w' w.heap.size (.slice B m cb) ops ∧ Below w.heap.size w w' := by
  have hmf : ∀ (fn : Fn) (first cap : Array Value) (w : World), (Instr.makeFunc fn first cap).run Try.prog w = .ok (.func fn first cap) w := fun _ _ _ _ => rfl
  have hu24 := Try.underlying24
  have HN := Aside0.mk hn
  have HC := Aside0.mk hC
  have HCC := Aside0.mk hc
  have HOK := Aside0.mk hok
  have HM := Aside0.mk hm
  have HM2 := Aside0.mk hm2
  have HM1 := Aside0.mk hm1
  have HR := Aside0.mk hr
  have HMAY := Aside0.mk hmay
  have hd1 : decide ((262144 : Int) < (n : Int)) = false := decide_eq_false (by omega)
  have hd2 : decide (262144 < n) = false := decide_eq_false (by omega)
  clear hn hc hok hm hC hr hm1 hm2 hmay
  go_enter Try.func91, Try.ntmps91
  go_wp2_with fail
  obtain ⟨d, hd⟩ : ∃ d, d = w.heap.size := ⟨_, rfl⟩
  obtain ⟨f, hf⟩ : ∃ f, f = w.heap.size + 1 := ⟨_, rfl⟩
  obtain ⟨e, he⟩ : ∃ e, e = w.heap.size + 1 + 1 := ⟨_, rfl⟩
  obtain ⟨va, hva⟩ : ∃ va, va = w.alloc (.cells #[.slice A n c] 29) := ⟨_, rfl⟩
  obtain ⟨vb, hvb⟩ : ∃ vb, vb = va.alloc (.cells entZero 24) := ⟨_, rfl⟩
  obtain ⟨v1, hv1⟩ : ∃ v1, v1 = vb.alloc (.cells entZero 24) := ⟨_, rfl⟩
  rw [← hva, ← hvb, ← hv1, ← he, ← hf, ← hd]
  have hza : va.heap.size = w.heap.size + 1 := by rw [hva]; simp
  have hzb : vb.heap.size = w.heap.size + 1 + 1 := by rw [hvb, ← hza]; simp
  have hba : Below va.heap.size va vb := by rw [hvb]; exact below_alloc (Below.refl _ _) _
  have hbb : Below vb.heap.size vb v1 := by rw [hv1]; exact below_alloc (Below.refl _ _) _
  have HW1 := Aside0.mk (show Below w.heap.size w v1 from below_step (below_step (by rw [hva]; exact below_alloc (Below.refl _ _) _) hba) hbb)
  have HD1 := Aside0.mk (show v1.heap[d]? = some (.cells #[.slice A n c] 29 (0, 0)) by
    refine (hbb.block d (by omega)).trans ((hba.block d (by omega)).trans ?_)
    rw [hva, hd]; exact heap_alloc_new w _)
  have HF1 := Aside0.mk (show v1.heap[f]? = some (.cells entZero 24 (0, 0)) by
    refine (hbb.block f (by omega)).trans ?_
    rw [hvb, hf, ← hza]; exact heap_alloc_new va _)
  have HE1 := Aside0.mk (show v1.heap[e]? = some (.cells entZero 24 (0, 0)) by rw [hv1, he, ← hzb]; exact heap_alloc_new vb _)
  have HFE := Aside0.mk (show f ≠ e ∧ w.heap.size ≤ f ∧ w.heap.size ≤ e by omega)
  clear hd hf he hva hvb hv1 hza hzb hba hbb
  refine (guarded_in v1 d e n c A l s v k se rq ops m HM2.out HM1.out HN.out HCC.out HOK.out (by have := HM.out; omega) (Kd.C_below HC.out HW1.out) HD1.out HE1.out HR.out).mono ?_
  rintro r2 v2 ⟨rfl, V, ho2, he2, hf2⟩
  have HE2 := Aside0.mk he2
  have HO2 := Aside0.mk (Kd.R_lower ho2 HW1.out.size)
  have HX2 := Aside0.mk ((Frm.of_below HW1.out (fun _ => False)).then_ hf2 (fun k hk hlt => by have := HFE.out.2.2; omega))
  have HF2 := Aside0.mk (hf2.blk HF1.out (fun x => HFE.out.1 x))
  clear he2 ho2 hf2 HD1 HE1 HF1
  obtain ⟨B, mm, cb, rfl, hmm, hcb, hCo⟩ := R40_form HO2.out
  obtain rfl : m = mm := by rw [← HM2.out]; exact hmm
  have HCB := Aside0.mk hcb
  have HCO := Aside0.mk hCo
  clear hmm hcb hCo
  have y0 := (blk_cell HE2.out 0).trans rfl
  have y1 := (blk_cell HE2.out 1).trans rfl
  have y2 := (blk_cell HE2.out 2).trans rfl
  have y3 := (blk_cell HE2.out 3).trans rfl
  have y4 := (blk_cell HE2.out 4).trans rfl
  have y5 := (blk_cell HE2.out 5).trans rfl
  go_wp2_with fail
  refine (mayEntry_N s v k se rq B cb m ops v2 HM2.out HCO.out HCB.out).mono ?_
  rintro r3 v3 ⟨rfl, hb3⟩
  rw [HMAY.out]
  have HE3 := Aside0.mk ((hb3.block e (blk_lt HE2.out)).trans HE2.out)
  have HF3 := Aside0.mk ((hb3.block f (blk_lt HF2.out)).trans HF2.out)
  have HO3 := Aside0.mk (Kd.R_below HO2.out hb3)
  have HX3 := Aside0.mk (HX2.out.step hb3)
  clear hb3 y0 y1 y2 y3 y4 y5 HE2 HF2 HO2 HX2 HCO
  have y0 := (blk_cell HE3.out 0).trans rfl
  have y1 := (blk_cell HE3.out 1).trans rfl
  have y2 := (blk_cell HE3.out 2).trans rfl
  have y3 := (blk_cell HE3.out 3).trans rfl
  have y4 := (blk_cell HE3.out 4).trans rfl
  have y5 := (blk_cell HE3.out 5).trans rfl
  go_wp2_with (with_reducible refine stop_store rfl ?_)
  refine store_blk rfl rfl 24 _ _ rfl (q := f) (i := 0) (cur' := entArr s v k se rq (.slice B m cb)) [.int .i64 s, .int .i64 v, .int .i64 k, .int .i64 se, .int .i64 rq, .slice B m cb] rfl rfl rfl (by kernel_rfl) (by intro u hu; simp at hu; rcases hu with rfl | rfl | rfl | rfl | rfl | rfl <;> rfl) HF3.out (by simp) rfl ?_
  intro wz hz hgz
  have HZ := Aside0.mk hz
  have HOZ := Aside0.mk (R40_frm HO3.out HF3.out (by decide) (Frm.of_grown (S := fun k => k = f) hgz (fun k e => (Option.some.inj e).symm)))
  have HXZ := Aside0.mk ((HX3.out.then_ (Frm.of_grown (S := fun k => k = f) hgz (fun k e => (Option.some.inj e).symm)) (fun k hk hlt => by have := HFE.out.2.1; omega)))
  clear hz hgz y0 y1 y2 y3 y4 y5
  go_wp2
  refine bodyPost_ret (results_ct rfl _ _ f 24 (entArr s v k se rq (.slice B m cb)) (0, 0) _ rfl HZ.out Try.underlying24 rfl (by kernel_rfl)) rfl ?_
  exact ⟨B, cb, rfl, HOZ.out, HXZ.out.below (fun k hk _ => hk.elim) (Nat.le_refl _)⟩
set_option maxHeartbeats 8000000 in
set_option maxRecDepth 100000 in
theorem rd_matched (w0 w : World) (rb n c : Nat) (A : Option Addr) (l : List Int) (vn : Int) (hn : l.length = n) (hc : n ≤ c) (hok : bytesOk l = true) (hm : n ≤ 140737488355328) (hC : C8 w0 A n l) (hB : Below w0.heap.size w0 w) (hrb : w0.heap.size ≤ rb) (hg : w.heap[rb]? = some (.cells #[.slice A n c, .int .i64 0] 147 (0, 0))) (hr1 : readNum l 0 = (vn, (n : Int), 0)) :
    Calls Try.prog 84 #[.pointer (some ⟨rb, 0, none⟩), .int .i64 3] w fun e w' => e = .returned (.agg (recCells 3 0 0 0 0 0 none 0 0 vn 0 0 0 0 ⟨#[]⟩)) ∧ Frm w w' (fun k => k = rb) := by
  have hu28 := Try.underlying28
  have hu26 := Try.underlying26
  have hu24 := Try.underlying24
  have hu147 := Try.underlying147
  have HN := Aside0.mk hn
  have HC := Aside0.mk hC
  have HCC := Aside0.mk hc
  have HOK := Aside0.mk hok
  have HM := Aside0.mk hm
  have HG := Aside0.mk hg
  have HB := Aside0.mk hB
  have HRB := Aside0.mk hrb
  have HWW := Aside0.mk hB.size
  have HR1 := Aside0.mk hr1
  clear hn hc hok hm hC hB hg hrb hr1
  go_enter Try.func84, Try.ntmps84
  go_wp2_with fail
  obtain ⟨f, hf⟩ : ∃ f, f = w.heap.size := ⟨_, rfl⟩
  obtain ⟨g, hg⟩ : ∃ g, g = w.heap.size + 1 := ⟨_, rfl⟩
  obtain ⟨va, hva⟩ : ∃ va, va = w.alloc (.cells (recCells 0 0 0 0 0 0 none 0 0 0 0 0 0 0 ⟨#[]⟩) 28) := ⟨_, rfl⟩
  obtain ⟨v0, hv0⟩ : ∃ v0, v0 = va.alloc (.cells (recCells 3 0 0 0 0 0 none 0 0 0 0 0 0 0 ⟨#[]⟩) 28) := ⟨_, rfl⟩
  have hsz : va.heap.size = w.heap.size + 1 := by rw [hva]; simp
  rw [← hva, ← hv0, ← hg, ← hf]
  have HW1 := Aside0.mk (show Below w.heap.size w v0 by rw [hv0]; exact (below_step (w := w) (W := va) (by rw [hva]; exact below_alloc (Below.refl _ _) _) (below_alloc (Below.refl _ _) _)))
  have HF0 := Aside0.mk (show v0.heap[f]? = some (.cells (recCells 0 0 0 0 0 0 none 0 0 0 0 0 0 0 ⟨#[]⟩) 28 (0, 0)) by
    rw [hv0]
    refine (Below.heap_alloc _ _ _ (by omega)).trans ?_
    rw [hva, hf]; exact heap_alloc_new w _)
  have HT0 := Aside0.mk (show v0.heap[g]? = some (.cells (recCells 3 0 0 0 0 0 none 0 0 0 0 0 0 0 ⟨#[]⟩) 28 (0, 0)) by rw [hv0, hg, ← hsz]; exact heap_alloc_new va _)
  have HB0 := Aside0.mk (below_step HB.out HW1.out)
  have HX0 := Aside0.mk (Frm.of_below HW1.out (fun k => k = rb))
  have HG0 := Aside0.mk ((HW1.out.block rb (blk_lt HG.out)).trans HG.out)
  have HFT := Aside0.mk (show f ≠ rb ∧ g ≠ rb by have := blk_lt HG.out; omega)
  have HFG := Aside0.mk (show f ≠ g ∧ w.heap.size ≤ f ∧ w.heap.size ≤ g by omega)
  clear hf hg hva hv0 hsz HW1 HG HB
  refine (rd_number w0 v0 rb n c A l 0 vn (n : Int) HN.out HCC.out HOK.out HM.out HC.out HB0.out HG0.out HR1.out).mono ?_
  rintro e1 v1 ⟨rfl, hg1, hf1⟩
  have HG1 := Aside0.mk hg1
  have HB1 := Aside0.mk (below_frm HB0.out hf1 (N := w0.heap.size) (fun k hk => by rw [hk]; exact HRB.out) (Nat.le_refl _))
  have HX1 := Aside0.mk (HX0.out.then_ hf1 (fun k hk _ => hk))
  have HF1 := Aside0.mk (hf1.blk HF0.out (fun e => HFT.out.1 e))
  have HT1 := Aside0.mk (hf1.blk HT0.out (fun e => HFT.out.2 e))
  clear hg1 hf1 HG0 HB0 HX0 HF0 HT0
  have t7 := (blk_cell HT1.out 7).trans rfl
  have z7 := blk_frozen HT1.out 7
  go_wp2_with fail
  clear t7 z7
  obtain ⟨v2, hv2⟩ : ∃ v2, v2 = (v1.setCell ⟨g, 7, none⟩ (.int .i64 vn)) := ⟨_, rfl⟩
  rw [← hv2]
  have HT2 := Aside0.mk (show v2.heap[g]? = some (.cells (recCells 3 0 0 0 0 0 none 0 0 vn 0 0 0 0 ⟨#[]⟩) 28 (0, 0)) by
    rw [hv2]
    exact blk_put HT1.out 7 _ rfl)
  have HF2 := Aside0.mk (show v2.heap[f]? = some (.cells (recCells 0 0 0 0 0 0 none 0 0 0 0 0 0 0 ⟨#[]⟩) 28 (0, 0)) by rw [hv2]; exact (blk_far HF1.out (by simp only; exact HFG.out.1) _))
  have HG2 := Aside0.mk (show v2.heap[rb]? = some (.cells #[.slice A n c, .int .i64 (n : Int)] 147 (0, 0)) by rw [hv2]; exact (blk_far HG1.out (by simp only; exact fun e => HFT.out.2 e.symm) _))
  have HX2 := Aside0.mk (show Frm w v2 (fun k => k = rb) by rw [hv2]; exact (HX1.out.set_ (p := ⟨g, 7, none⟩) (.inr HFG.out.2.2) _))
  have HB2 := Aside0.mk (show Below w0.heap.size w0 v2 by rw [hv2]; exact (HB1.out.setCell (p := ⟨g, 7, none⟩) (by have := HFG.out.2.2; have := HWW.out; simp only; omega) _))
  clear hv2 HT1 HF1 HG1 HX1 HB1
  have r0 : v2.cell? ⟨rb, 0, none⟩ = some (.slice A n c) := blk_cell HG2.out 0
  have r1 : v2.cell? ⟨rb, 1, none⟩ = some (.int .i64 (n : Int)) := blk_cell HG2.out 1
  go_quiet (fail)
  obtain ⟨wq, hwq⟩ : ∃ wq, wq = v2.drewN nq := ⟨_, rfl⟩
  rw [← hwq]
  have hbq := (show Below v2.heap.size v2 wq from Drawn0.below ⟨⟨nq, hwq⟩⟩)
  have HTQ := Aside0.mk ((hbq.block g (blk_lt HT2.out)).trans HT2.out)
  have HFQ := Aside0.mk ((hbq.block f (blk_lt HF2.out)).trans HF2.out)
  have HXQ := Aside0.mk (HX2.out.step hbq)
  clear hbq hwq r0 r1 HT2 HF2 HX2 HG2 HB2
  have kp0 := (blk_cell HTQ.out 0).trans rfl
  have kp1 := (blk_cell HTQ.out 1).trans rfl
  have kp2 := (blk_cell HTQ.out 2).trans rfl
  have kp3 := (blk_cell HTQ.out 3).trans rfl
  have kp4 := (blk_cell HTQ.out 4).trans rfl
  have kp5 := (blk_cell HTQ.out 5).trans rfl
  have kp6 := (blk_cell HTQ.out 6).trans rfl
  have kp7 := (blk_cell HTQ.out 7).trans rfl
  have kp8 := (blk_cell HTQ.out 8).trans rfl
  have kp9 := (blk_cell HTQ.out 9).trans rfl
  have kp10 := (blk_cell HTQ.out 10).trans rfl
  have kp11 := (blk_cell HTQ.out 11).trans rfl
  have kp12 := (blk_cell HTQ.out 12).trans rfl
  go_wp2_with (with_reducible refine stop_store rfl ?_)
  refine store_blk rfl rfl 28 _ _ rfl (q := f) (i := 0) (cur' := recCells 3 0 0 0 0 0 none 0 0 vn 0 0 0 0 ⟨#[]⟩) (recCells 3 0 0 0 0 0 none 0 0 vn 0 0 0 0 ⟨#[]⟩).toList rfl rfl rfl (by kernel_rfl) (by intro u hu; simp at hu; (repeat' (rcases hu with rfl | hu)) <;> first | rfl | (subst hu; rfl)) HFQ.out (by simp) rfl ?_
  intro wz hgz hgr
  have HXZ := Aside0.mk (HXQ.out.then_ (Frm.of_grown (S := fun k => k = f) hgr (fun k e => (Option.some.inj e).symm)) (fun k hk hlt => by have := HFG.out.2.1; omega))
  clear hgr kp0 kp1 kp2 kp3 kp4 kp5 kp6 kp7 kp8 kp9 kp10 kp11 kp12
  go_wp2
  (try simp only [Exit.inBlock, Exit.then])
  refine bodyPost_ret (results_cell_row rfl _ _ f 28 (recCells 3 0 0 0 0 0 none 0 0 vn 0 0 0 0 ⟨#[]⟩) (0, 0) _ rfl hgz Try.underlying28 rfl (by kernel_rfl)) rfl ?_
  exact ⟨rfl, HXZ.out⟩
set_option maxHeartbeats 8000000 in
set_option maxRecDepth 100000 in
theorem rd_commit (w0 w : World) (rb n c : Nat) (A : Option Addr) (l : List Int) (st : Int) (hn : l.length = n) (hc : n ≤ c) (hok : bytesOk l = true) (hm : n ≤ 140737488355328) (hC : C8 w0 A n l) (hB : Below w0.heap.size w0 w) (hrb : w0.heap.size ≤ rb) (hg : w.heap[rb]? = some (.cells #[.slice A n c, .int .i64 0] 147 (0, 0))) (hr1 : readNum l 0 = (st, (n : Int), 0)) :
    Calls Try.prog 84 #[.pointer (some ⟨rb, 0, none⟩), .int .i64 6] w fun e w' => e = .returned (.agg (recCells 6 0 0 0 0 0 none 0 0 0 0 0 st 0 ⟨#[]⟩)) ∧ Frm w w' (fun k => k = rb) := by
  have hu28 := Try.underlying28
  have hu26 := Try.underlying26
  have hu24 := Try.underlying24
  have hu147 := Try.underlying147
  have HN := Aside0.mk hn
  have HC := Aside0.mk hC
  have HCC := Aside0.mk hc
  have HOK := Aside0.mk hok
  have HM := Aside0.mk hm
  have HG := Aside0.mk hg
  have HB := Aside0.mk hB
  have HRB := Aside0.mk hrb
  have HWW := Aside0.mk hB.size
  have HR1 := Aside0.mk hr1
  clear hn hc hok hm hC hB hg hrb hr1
  go_enter Try.func84, Try.ntmps84
  go_wp2_with fail
  obtain ⟨f, hf⟩ : ∃ f, f = w.heap.size := ⟨_, rfl⟩
  obtain ⟨g, hg⟩ : ∃ g, g = w.heap.size + 1 := ⟨_, rfl⟩
  obtain ⟨va, hva⟩ : ∃ va, va = w.alloc (.cells (recCells 0 0 0 0 0 0 none 0 0 0 0 0 0 0 ⟨#[]⟩) 28) := ⟨_, rfl⟩
  obtain ⟨v0, hv0⟩ : ∃ v0, v0 = va.alloc (.cells (recCells 6 0 0 0 0 0 none 0 0 0 0 0 0 0 ⟨#[]⟩) 28) := ⟨_, rfl⟩
  have hsz : va.heap.size = w.heap.size + 1 := by rw [hva]; simp
  rw [← hva, ← hv0, ← hg, ← hf]
  have HW1 := Aside0.mk (show Below w.heap.size w v0 by rw [hv0]; exact (below_step (w := w) (W := va) (by rw [hva]; exact below_alloc (Below.refl _ _) _) (below_alloc (Below.refl _ _) _)))
  have HF0 := Aside0.mk (show v0.heap[f]? = some (.cells (recCells 0 0 0 0 0 0 none 0 0 0 0 0 0 0 ⟨#[]⟩) 28 (0, 0)) by
    rw [hv0]
    refine (Below.heap_alloc _ _ _ (by omega)).trans ?_
    rw [hva, hf]; exact heap_alloc_new w _)
  have HT0 := Aside0.mk (show v0.heap[g]? = some (.cells (recCells 6 0 0 0 0 0 none 0 0 0 0 0 0 0 ⟨#[]⟩) 28 (0, 0)) by rw [hv0, hg, ← hsz]; exact heap_alloc_new va _)
  have HB0 := Aside0.mk (below_step HB.out HW1.out)
  have HX0 := Aside0.mk (Frm.of_below HW1.out (fun k => k = rb))
  have HG0 := Aside0.mk ((HW1.out.block rb (blk_lt HG.out)).trans HG.out)
  have HFT := Aside0.mk (show f ≠ rb ∧ g ≠ rb by have := blk_lt HG.out; omega)
  have HFG := Aside0.mk (show f ≠ g ∧ w.heap.size ≤ f ∧ w.heap.size ≤ g by omega)
  clear hf hg hva hv0 hsz HW1 HG HB
  refine (rd_number w0 v0 rb n c A l 0 st (n : Int) HN.out HCC.out HOK.out HM.out HC.out HB0.out HG0.out HR1.out).mono ?_
  rintro e1 v1 ⟨rfl, hg1, hf1⟩
  have HG1 := Aside0.mk hg1
  have HB1 := Aside0.mk (below_frm HB0.out hf1 (N := w0.heap.size) (fun k hk => by rw [hk]; exact HRB.out) (Nat.le_refl _))
  have HX1 := Aside0.mk (HX0.out.then_ hf1 (fun k hk _ => hk))
  have HF1 := Aside0.mk (hf1.blk HF0.out (fun e => HFT.out.1 e))
  have HT1 := Aside0.mk (hf1.blk HT0.out (fun e => HFT.out.2 e))
  clear hg1 hf1 HG0 HB0 HX0 HF0 HT0
  have t10 := (blk_cell HT1.out 10).trans rfl
  have z10 := blk_frozen HT1.out 10
  go_wp2_with fail
  clear t10 z10
  obtain ⟨v2, hv2⟩ : ∃ v2, v2 = (v1.setCell ⟨g, 10, none⟩ (.int .i64 st)) := ⟨_, rfl⟩
  rw [← hv2]
  have HT2 := Aside0.mk (show v2.heap[g]? = some (.cells (recCells 6 0 0 0 0 0 none 0 0 0 0 0 st 0 ⟨#[]⟩) 28 (0, 0)) by
    rw [hv2]
    exact blk_put HT1.out 10 _ rfl)
  have HF2 := Aside0.mk (show v2.heap[f]? = some (.cells (recCells 0 0 0 0 0 0 none 0 0 0 0 0 0 0 ⟨#[]⟩) 28 (0, 0)) by rw [hv2]; exact (blk_far HF1.out (by simp only; exact HFG.out.1) _))
  have HG2 := Aside0.mk (show v2.heap[rb]? = some (.cells #[.slice A n c, .int .i64 (n : Int)] 147 (0, 0)) by rw [hv2]; exact (blk_far HG1.out (by simp only; exact fun e => HFT.out.2 e.symm) _))
  have HX2 := Aside0.mk (show Frm w v2 (fun k => k = rb) by rw [hv2]; exact (HX1.out.set_ (p := ⟨g, 10, none⟩) (.inr HFG.out.2.2) _))
  have HB2 := Aside0.mk (show Below w0.heap.size w0 v2 by rw [hv2]; exact (HB1.out.setCell (p := ⟨g, 10, none⟩) (by have := HFG.out.2.2; have := HWW.out; simp only; omega) _))
  clear hv2 HT1 HF1 HG1 HX1 HB1
  have r0 : v2.cell? ⟨rb, 0, none⟩ = some (.slice A n c) := blk_cell HG2.out 0
  have r1 : v2.cell? ⟨rb, 1, none⟩ = some (.int .i64 (n : Int)) := blk_cell HG2.out 1
  go_quiet (fail)
  obtain ⟨wq, hwq⟩ : ∃ wq, wq = v2.drewN nq := ⟨_, rfl⟩
  rw [← hwq]
  have hbq := (show Below v2.heap.size v2 wq from Drawn0.below ⟨⟨nq, hwq⟩⟩)
  have HTQ := Aside0.mk ((hbq.block g (blk_lt HT2.out)).trans HT2.out)
  have HFQ := Aside0.mk ((hbq.block f (blk_lt HF2.out)).trans HF2.out)
  have HXQ := Aside0.mk (HX2.out.step hbq)
  clear hbq hwq r0 r1 HT2 HF2 HX2 HG2 HB2
  have kp0 := (blk_cell HTQ.out 0).trans rfl
  have kp1 := (blk_cell HTQ.out 1).trans rfl
  have kp2 := (blk_cell HTQ.out 2).trans rfl
  have kp3 := (blk_cell HTQ.out 3).trans rfl
  have kp4 := (blk_cell HTQ.out 4).trans rfl
  have kp5 := (blk_cell HTQ.out 5).trans rfl
  have kp6 := (blk_cell HTQ.out 6).trans rfl
  have kp7 := (blk_cell HTQ.out 7).trans rfl
  have kp8 := (blk_cell HTQ.out 8).trans rfl
  have kp9 := (blk_cell HTQ.out 9).trans rfl
  have kp10 := (blk_cell HTQ.out 10).trans rfl
  have kp11 := (blk_cell HTQ.out 11).trans rfl
  have kp12 := (blk_cell HTQ.out 12).trans rfl
  go_wp2_with (with_reducible refine stop_store rfl ?_)
  refine store_blk rfl rfl 28 _ _ rfl (q := f) (i := 0) (cur' := recCells 6 0 0 0 0 0 none 0 0 0 0 0 st 0 ⟨#[]⟩) (recCells 6 0 0 0 0 0 none 0 0 0 0 0 st 0 ⟨#[]⟩).toList rfl rfl rfl (by kernel_rfl) (by intro u hu; simp at hu; (repeat' (rcases hu with rfl | hu)) <;> first | rfl | (subst hu; rfl)) HFQ.out (by simp) rfl ?_
  intro wz hgz hgr
  have HXZ := Aside0.mk (HXQ.out.then_ (Frm.of_grown (S := fun k => k = f) hgr (fun k e => (Option.some.inj e).symm)) (fun k hk hlt => by have := HFG.out.2.1; omega))
  clear hgr kp0 kp1 kp2 kp3 kp4 kp5 kp6 kp7 kp8 kp9 kp10 kp11 kp12
  go_wp2
  (try simp only [Exit.inBlock, Exit.then])
  refine bodyPost_ret (results_cell_row rfl _ _ f 28 (recCells 6 0 0 0 0 0 none 0 0 0 0 0 st 0 ⟨#[]⟩) (0, 0) _ rfl hgz Try.underlying28 rfl (by kernel_rfl)) rfl ?_
  exact ⟨rfl, HXZ.out⟩
set_option maxHeartbeats 8000000 in
set_option maxRecDepth 100000 in
theorem rd_save (w0 w : World) (rb n c : Nat) (A : Option Addr) (l : List Int) (st of q1 q2 : Int) (bx : List Int) (x : ByteArray) (hn : l.length = n) (hc : n ≤ c) (hok : bytesOk l = true) (hm : n ≤ 140737488355328) (hC : C8 w0 A n l) (hB : Below w0.heap.size w0 w) (hrb : w0.heap.size ≤ rb) (hg : w.heap[rb]? = some (.cells #[.slice A n c, .int .i64 0] 147 (0, 0))) (hr1 : readNum l 0 = (st, q1, 0)) (hr2 : readNum l q1 = (of, q2, 0)) (hr3 : readText l q2 = (bx, (n : Int), 0)) (hx : strOfNums bx = x) :
    Calls Try.prog 84 #[.pointer (some ⟨rb, 0, none⟩), .int .i64 5] w fun e w' => e = .returned (.agg (recCells 5 0 0 0 0 0 none 0 0 0 0 0 st of x)) ∧ Frm w w' (fun k => k = rb) := by
  have hu28 := Try.underlying28
  have hu26 := Try.underlying26
  have hu24 := Try.underlying24
  have hu147 := Try.underlying147
  have HN := Aside0.mk hn
  have HC := Aside0.mk hC
  have HCC := Aside0.mk hc
  have HOK := Aside0.mk hok
  have HM := Aside0.mk hm
  have HG := Aside0.mk hg
  have HB := Aside0.mk hB
  have HRB := Aside0.mk hrb
  have HWW := Aside0.mk hB.size
  have HR1 := Aside0.mk hr1
  have HR2 := Aside0.mk hr2
  have HR3 := Aside0.mk hr3
  have HX := Aside0.mk hx
  clear hn hc hok hm hC hB hg hrb hr1 hr2 hr3 hx
  go_enter Try.func84, Try.ntmps84
  go_wp2_with fail
  obtain ⟨f, hf⟩ : ∃ f, f = w.heap.size := ⟨_, rfl⟩
  obtain ⟨g, hg⟩ : ∃ g, g = w.heap.size + 1 := ⟨_, rfl⟩
  obtain ⟨va, hva⟩ : ∃ va, va = w.alloc (.cells (recCells 0 0 0 0 0 0 none 0 0 0 0 0 0 0 ⟨#[]⟩) 28) := ⟨_, rfl⟩
  obtain ⟨v0, hv0⟩ : ∃ v0, v0 = va.alloc (.cells (recCells 5 0 0 0 0 0 none 0 0 0 0 0 0 0 ⟨#[]⟩) 28) := ⟨_, rfl⟩
  have hsz : va.heap.size = w.heap.size + 1 := by rw [hva]; simp
  rw [← hva, ← hv0, ← hg, ← hf]
  have HW1 := Aside0.mk (show Below w.heap.size w v0 by rw [hv0]; exact (below_step (w := w) (W := va) (by rw [hva]; exact below_alloc (Below.refl _ _) _) (below_alloc (Below.refl _ _) _)))
  have HF0 := Aside0.mk (show v0.heap[f]? = some (.cells (recCells 0 0 0 0 0 0 none 0 0 0 0 0 0 0 ⟨#[]⟩) 28 (0, 0)) by
    rw [hv0]
    refine (Below.heap_alloc _ _ _ (by omega)).trans ?_
    rw [hva, hf]; exact heap_alloc_new w _)
  have HT0 := Aside0.mk (show v0.heap[g]? = some (.cells (recCells 5 0 0 0 0 0 none 0 0 0 0 0 0 0 ⟨#[]⟩) 28 (0, 0)) by rw [hv0, hg, ← hsz]; exact heap_alloc_new va _)
  have HB0 := Aside0.mk (below_step HB.out HW1.out)
  have HX0 := Aside0.mk (Frm.of_below HW1.out (fun k => k = rb))
  have HG0 := Aside0.mk ((HW1.out.block rb (blk_lt HG.out)).trans HG.out)
  have HFT := Aside0.mk (show f ≠ rb ∧ g ≠ rb by have := blk_lt HG.out; omega)
  have HFG := Aside0.mk (show f ≠ g ∧ w.heap.size ≤ f ∧ w.heap.size ≤ g by omega)
  clear hf hg hva hv0 hsz HW1 HG HB
  refine (rd_number w0 v0 rb n c A l 0 st q1 HN.out HCC.out HOK.out HM.out HC.out HB0.out HG0.out HR1.out).mono ?_
  rintro e1 v1 ⟨rfl, hg1, hf1⟩
  have HG1 := Aside0.mk hg1
  have HB1 := Aside0.mk (below_frm HB0.out hf1 (N := w0.heap.size) (fun k hk => by rw [hk]; exact HRB.out) (Nat.le_refl _))
  have HX1 := Aside0.mk (HX0.out.then_ hf1 (fun k hk _ => hk))
  have HF1 := Aside0.mk (hf1.blk HF0.out (fun e => HFT.out.1 e))
  have HT1 := Aside0.mk (hf1.blk HT0.out (fun e => HFT.out.2 e))
  clear hg1 hf1 HG0 HB0 HX0 HF0 HT0
  go_wp2_with fail
  refine (rd_number w0 v1 rb n c A l q1 of q2 HN.out HCC.out HOK.out HM.out HC.out HB1.out HG1.out HR2.out).mono ?_
  rintro e2 v2 ⟨rfl, hg2, hf2⟩
  have HG2 := Aside0.mk hg2
  have HB2 := Aside0.mk (below_frm HB1.out hf2 (N := w0.heap.size) (fun k hk => by rw [hk]; exact HRB.out) (Nat.le_refl _))
  have HX2 := Aside0.mk (HX1.out.then_ hf2 (fun k hk _ => hk))
  have HF2 := Aside0.mk (hf2.blk HF1.out (fun e => HFT.out.1 e))
  have HT2 := Aside0.mk (hf2.blk HT1.out (fun e => HFT.out.2 e))
  clear hg2 hf2 HG1 HB1 HX1 HF1 HT1
  have t10 := (blk_cell HT2.out 10).trans rfl
  have z10 := blk_frozen HT2.out 10
  have t11 := (blk_cell HT2.out 11).trans rfl
  have z11 := blk_frozen HT2.out 11
  go_wp2_with fail
  clear t10 z10 t11 z11
  obtain ⟨v3, hv3⟩ : ∃ v3, v3 = ((v2.setCell ⟨g, 10, none⟩ (.int .i64 st)).setCell ⟨g, 11, none⟩ (.int .i64 of)) := ⟨_, rfl⟩
  rw [← hv3]
  have HT3 := Aside0.mk (show v3.heap[g]? = some (.cells (recCells 5 0 0 0 0 0 none 0 0 0 0 0 st of ⟨#[]⟩) 28 (0, 0)) by
    rw [hv3]
    refine blk_put (cs := recCells 5 0 0 0 0 0 none 0 0 0 0 0 st 0 ⟨#[]⟩) ?_ 11 _ rfl
    exact blk_put HT2.out 10 _ rfl)
  have HF3 := Aside0.mk (show v3.heap[f]? = some (.cells (recCells 0 0 0 0 0 0 none 0 0 0 0 0 0 0 ⟨#[]⟩) 28 (0, 0)) by rw [hv3]; exact (blk_far (blk_far HF2.out (by simp only; exact HFG.out.1) _) (by simp only; exact HFG.out.1) _))
  have HG3 := Aside0.mk (show v3.heap[rb]? = some (.cells #[.slice A n c, .int .i64 q2] 147 (0, 0)) by rw [hv3]; exact (blk_far (blk_far HG2.out (by simp only; exact fun e => HFT.out.2 e.symm) _) (by simp only; exact fun e => HFT.out.2 e.symm) _))
  have HX3 := Aside0.mk (show Frm w v3 (fun k => k = rb) by rw [hv3]; exact ((HX2.out.set_ (p := ⟨g, 10, none⟩) (.inr HFG.out.2.2) _).set_ (p := ⟨g, 11, none⟩) (.inr HFG.out.2.2) _))
  have HB3 := Aside0.mk (show Below w0.heap.size w0 v3 by rw [hv3]; exact ((HB2.out.setCell (p := ⟨g, 10, none⟩) (by have := HFG.out.2.2; have := HWW.out; simp only; omega) _).setCell (p := ⟨g, 11, none⟩) (by have := HFG.out.2.2; have := HWW.out; simp only; omega) _))
  clear hv3 HT2 HF2 HG2 HX2 HB2
  refine (rd_text w0 v3 rb n c A l q2 (n : Int) bx HN.out HCC.out HOK.out HM.out HC.out HB3.out HG3.out HR3.out).mono ?_
  rintro e4 v4 ⟨rfl, hg4, hf4⟩
  have HG4 := Aside0.mk hg4
  have HB4 := Aside0.mk (below_frm HB3.out hf4 (N := w0.heap.size) (fun k hk => by rw [hk]; exact HRB.out) (Nat.le_refl _))
  have HX4 := Aside0.mk (HX3.out.then_ hf4 (fun k hk _ => hk))
  have HF4 := Aside0.mk (hf4.blk HF3.out (fun e => HFT.out.1 e))
  have HT4 := Aside0.mk (hf4.blk HT3.out (fun e => HFT.out.2 e))
  clear hg4 hf4 HG3 HB3 HX3 HF3 HT3
  rw [HX.out]
  have t12 := (blk_cell HT4.out 12).trans rfl
  have z12 := blk_frozen HT4.out 12
  go_wp2_with fail
  clear t12 z12
  obtain ⟨v5, hv5⟩ : ∃ v5, v5 = (v4.setCell ⟨g, 12, none⟩ (.string x)) := ⟨_, rfl⟩
  rw [← hv5]
  have HT5 := Aside0.mk (show v5.heap[g]? = some (.cells (recCells 5 0 0 0 0 0 none 0 0 0 0 0 st of x) 28 (0, 0)) by
    rw [hv5]
    exact blk_put HT4.out 12 _ rfl)
  have HF5 := Aside0.mk (show v5.heap[f]? = some (.cells (recCells 0 0 0 0 0 0 none 0 0 0 0 0 0 0 ⟨#[]⟩) 28 (0, 0)) by rw [hv5]; exact (blk_far HF4.out (by simp only; exact HFG.out.1) _))
  have HG5 := Aside0.mk (show v5.heap[rb]? = some (.cells #[.slice A n c, .int .i64 (n : Int)] 147 (0, 0)) by rw [hv5]; exact (blk_far HG4.out (by simp only; exact fun e => HFT.out.2 e.symm) _))
  have HX5 := Aside0.mk (show Frm w v5 (fun k => k = rb) by rw [hv5]; exact (HX4.out.set_ (p := ⟨g, 12, none⟩) (.inr HFG.out.2.2) _))
  have HB5 := Aside0.mk (show Below w0.heap.size w0 v5 by rw [hv5]; exact (HB4.out.setCell (p := ⟨g, 12, none⟩) (by have := HFG.out.2.2; have := HWW.out; simp only; omega) _))
  clear hv5 HT4 HF4 HG4 HX4 HB4
  have r0 : v5.cell? ⟨rb, 0, none⟩ = some (.slice A n c) := blk_cell HG5.out 0
  have r1 : v5.cell? ⟨rb, 1, none⟩ = some (.int .i64 (n : Int)) := blk_cell HG5.out 1
  go_quiet (fail)
  obtain ⟨wq, hwq⟩ : ∃ wq, wq = v5.drewN nq := ⟨_, rfl⟩
  rw [← hwq]
  have hbq := (show Below v5.heap.size v5 wq from Drawn0.below ⟨⟨nq, hwq⟩⟩)
  have HTQ := Aside0.mk ((hbq.block g (blk_lt HT5.out)).trans HT5.out)
  have HFQ := Aside0.mk ((hbq.block f (blk_lt HF5.out)).trans HF5.out)
  have HXQ := Aside0.mk (HX5.out.step hbq)
  clear hbq hwq r0 r1 HT5 HF5 HX5 HG5 HB5
  have kp0 := (blk_cell HTQ.out 0).trans rfl
  have kp1 := (blk_cell HTQ.out 1).trans rfl
  have kp2 := (blk_cell HTQ.out 2).trans rfl
  have kp3 := (blk_cell HTQ.out 3).trans rfl
  have kp4 := (blk_cell HTQ.out 4).trans rfl
  have kp5 := (blk_cell HTQ.out 5).trans rfl
  have kp6 := (blk_cell HTQ.out 6).trans rfl
  have kp7 := (blk_cell HTQ.out 7).trans rfl
  have kp8 := (blk_cell HTQ.out 8).trans rfl
  have kp9 := (blk_cell HTQ.out 9).trans rfl
  have kp10 := (blk_cell HTQ.out 10).trans rfl
  have kp11 := (blk_cell HTQ.out 11).trans rfl
  have kp12 := (blk_cell HTQ.out 12).trans rfl
  go_wp2_with (with_reducible refine stop_store rfl ?_)
  refine store_blk rfl rfl 28 _ _ rfl (q := f) (i := 0) (cur' := recCells 5 0 0 0 0 0 none 0 0 0 0 0 st of x) (recCells 5 0 0 0 0 0 none 0 0 0 0 0 st of x).toList rfl rfl rfl (by kernel_rfl) (by intro u hu; simp at hu; (repeat' (rcases hu with rfl | hu)) <;> first | rfl | (subst hu; rfl)) HFQ.out (by simp) rfl ?_
  intro wz hgz hgr
  have HXZ := Aside0.mk (HXQ.out.then_ (Frm.of_grown (S := fun k => k = f) hgr (fun k e => (Option.some.inj e).symm)) (fun k hk hlt => by have := HFG.out.2.1; omega))
  clear hgr kp0 kp1 kp2 kp3 kp4 kp5 kp6 kp7 kp8 kp9 kp10 kp11 kp12
  go_wp2
  (try simp only [Exit.inBlock, Exit.then])
  refine bodyPost_ret (results_cell_row rfl _ _ f 28 (recCells 5 0 0 0 0 0 none 0 0 0 0 0 st of x) (0, 0) _ rfl hgz Try.underlying28 rfl (by kernel_rfl)) rfl ?_
  exact ⟨rfl, HXZ.out⟩
set_option maxHeartbeats 8000000 in
set_option maxRecDepth 100000 in
theorem rd_reset (w0 w : World) (rb n c : Nat) (A : Option Addr) (l : List Int) (vn st of q0 q1 q2 : Int) (bx : List Int) (x : ByteArray) (hn : l.length = n) (hc : n ≤ c) (hok : bytesOk l = true) (hm : n ≤ 140737488355328) (hC : C8 w0 A n l) (hB : Below w0.heap.size w0 w) (hrb : w0.heap.size ≤ rb) (hg : w.heap[rb]? = some (.cells #[.slice A n c, .int .i64 0] 147 (0, 0))) (hr0 : readNum l 0 = (vn, q0, 0)) (hr1 : readNum l q0 = (st, q1, 0)) (hr2 : readNum l q1 = (of, q2, 0)) (hr3 : readText l q2 = (bx, (n : Int), 0)) (hx : strOfNums bx = x) :
    Calls Try.prog 84 #[.pointer (some ⟨rb, 0, none⟩), .int .i64 4] w fun e w' => e = .returned (.agg (recCells 4 0 0 0 0 0 none 0 0 vn 0 0 st of x)) ∧ Frm w w' (fun k => k = rb) := by
  have hu28 := Try.underlying28
  have hu26 := Try.underlying26
  have hu24 := Try.underlying24
  have hu147 := Try.underlying147
  have HN := Aside0.mk hn
  have HC := Aside0.mk hC
  have HCC := Aside0.mk hc
  have HOK := Aside0.mk hok
  have HM := Aside0.mk hm
  have HG := Aside0.mk hg
  have HB := Aside0.mk hB
  have HRB := Aside0.mk hrb
  have HWW := Aside0.mk hB.size
  have HR0 := Aside0.mk hr0
  have HR1 := Aside0.mk hr1
  have HR2 := Aside0.mk hr2
  have HR3 := Aside0.mk hr3
  have HX := Aside0.mk hx
  clear hn hc hok hm hC hB hg hrb hr0 hr1 hr2 hr3 hx
  go_enter Try.func84, Try.ntmps84
  go_wp2_with fail
  obtain ⟨f, hf⟩ : ∃ f, f = w.heap.size := ⟨_, rfl⟩
  obtain ⟨g, hg⟩ : ∃ g, g = w.heap.size + 1 := ⟨_, rfl⟩
  obtain ⟨va, hva⟩ : ∃ va, va = w.alloc (.cells (recCells 0 0 0 0 0 0 none 0 0 0 0 0 0 0 ⟨#[]⟩) 28) := ⟨_, rfl⟩
  obtain ⟨v0, hv0⟩ : ∃ v0, v0 = va.alloc (.cells (recCells 4 0 0 0 0 0 none 0 0 0 0 0 0 0 ⟨#[]⟩) 28) := ⟨_, rfl⟩
  have hsz : va.heap.size = w.heap.size + 1 := by rw [hva]; simp
  rw [← hva, ← hv0, ← hg, ← hf]
  have HW1 := Aside0.mk (show Below w.heap.size w v0 by rw [hv0]; exact (below_step (w := w) (W := va) (by rw [hva]; exact below_alloc (Below.refl _ _) _) (below_alloc (Below.refl _ _) _)))
  have HF0 := Aside0.mk (show v0.heap[f]? = some (.cells (recCells 0 0 0 0 0 0 none 0 0 0 0 0 0 0 ⟨#[]⟩) 28 (0, 0)) by
    rw [hv0]
    refine (Below.heap_alloc _ _ _ (by omega)).trans ?_
    rw [hva, hf]; exact heap_alloc_new w _)
  have HT0 := Aside0.mk (show v0.heap[g]? = some (.cells (recCells 4 0 0 0 0 0 none 0 0 0 0 0 0 0 ⟨#[]⟩) 28 (0, 0)) by rw [hv0, hg, ← hsz]; exact heap_alloc_new va _)
  have HB0 := Aside0.mk (below_step HB.out HW1.out)
  have HX0 := Aside0.mk (Frm.of_below HW1.out (fun k => k = rb))
  have HG0 := Aside0.mk ((HW1.out.block rb (blk_lt HG.out)).trans HG.out)
  have HFT := Aside0.mk (show f ≠ rb ∧ g ≠ rb by have := blk_lt HG.out; omega)
  have HFG := Aside0.mk (show f ≠ g ∧ w.heap.size ≤ f ∧ w.heap.size ≤ g by omega)
  clear hf hg hva hv0 hsz HW1 HG HB
  refine (rd_number w0 v0 rb n c A l 0 vn q0 HN.out HCC.out HOK.out HM.out HC.out HB0.out HG0.out HR0.out).mono ?_
  rintro e1 v1 ⟨rfl, hg1, hf1⟩
  have HG1 := Aside0.mk hg1
  have HB1 := Aside0.mk (below_frm HB0.out hf1 (N := w0.heap.size) (fun k hk => by rw [hk]; exact HRB.out) (Nat.le_refl _))
  have HX1 := Aside0.mk (HX0.out.then_ hf1 (fun k hk _ => hk))
  have HF1 := Aside0.mk (hf1.blk HF0.out (fun e => HFT.out.1 e))
  have HT1 := Aside0.mk (hf1.blk HT0.out (fun e => HFT.out.2 e))
  clear hg1 hf1 HG0 HB0 HX0 HF0 HT0
  have t7 := (blk_cell HT1.out 7).trans rfl
  have z7 := blk_frozen HT1.out 7
  go_wp2_with fail
  clear t7 z7
  obtain ⟨v2, hv2⟩ : ∃ v2, v2 = (v1.setCell ⟨g, 7, none⟩ (.int .i64 vn)) := ⟨_, rfl⟩
  rw [← hv2]
  have HT2 := Aside0.mk (show v2.heap[g]? = some (.cells (recCells 4 0 0 0 0 0 none 0 0 vn 0 0 0 0 ⟨#[]⟩) 28 (0, 0)) by
    rw [hv2]
    exact blk_put HT1.out 7 _ rfl)
  have HF2 := Aside0.mk (show v2.heap[f]? = some (.cells (recCells 0 0 0 0 0 0 none 0 0 0 0 0 0 0 ⟨#[]⟩) 28 (0, 0)) by rw [hv2]; exact (blk_far HF1.out (by simp only; exact HFG.out.1) _))
  have HG2 := Aside0.mk (show v2.heap[rb]? = some (.cells #[.slice A n c, .int .i64 q0] 147 (0, 0)) by rw [hv2]; exact (blk_far HG1.out (by simp only; exact fun e => HFT.out.2 e.symm) _))
  have HX2 := Aside0.mk (show Frm w v2 (fun k => k = rb) by rw [hv2]; exact (HX1.out.set_ (p := ⟨g, 7, none⟩) (.inr HFG.out.2.2) _))
  have HB2 := Aside0.mk (show Below w0.heap.size w0 v2 by rw [hv2]; exact (HB1.out.setCell (p := ⟨g, 7, none⟩) (by have := HFG.out.2.2; have := HWW.out; simp only; omega) _))
  clear hv2 HT1 HF1 HG1 HX1 HB1
  refine (rd_number w0 v2 rb n c A l q0 st q1 HN.out HCC.out HOK.out HM.out HC.out HB2.out HG2.out HR1.out).mono ?_
  rintro e3 v3 ⟨rfl, hg3, hf3⟩
  have HG3 := Aside0.mk hg3
  have HB3 := Aside0.mk (below_frm HB2.out hf3 (N := w0.heap.size) (fun k hk => by rw [hk]; exact HRB.out) (Nat.le_refl _))
  have HX3 := Aside0.mk (HX2.out.then_ hf3 (fun k hk _ => hk))
  have HF3 := Aside0.mk (hf3.blk HF2.out (fun e => HFT.out.1 e))
  have HT3 := Aside0.mk (hf3.blk HT2.out (fun e => HFT.out.2 e))
  clear hg3 hf3 HG2 HB2 HX2 HF2 HT2
  go_wp2_with fail
  refine (rd_number w0 v3 rb n c A l q1 of q2 HN.out HCC.out HOK.out HM.out HC.out HB3.out HG3.out HR2.out).mono ?_
  rintro e4 v4 ⟨rfl, hg4, hf4⟩
  have HG4 := Aside0.mk hg4
  have HB4 := Aside0.mk (below_frm HB3.out hf4 (N := w0.heap.size) (fun k hk => by rw [hk]; exact HRB.out) (Nat.le_refl _))
  have HX4 := Aside0.mk (HX3.out.then_ hf4 (fun k hk _ => hk))
  have HF4 := Aside0.mk (hf4.blk HF3.out (fun e => HFT.out.1 e))
  have HT4 := Aside0.mk (hf4.blk HT3.out (fun e => HFT.out.2 e))
  clear hg4 hf4 HG3 HB3 HX3 HF3 HT3
  have t10 := (blk_cell HT4.out 10).trans rfl
  have z10 := blk_frozen HT4.out 10
  have t11 := (blk_cell HT4.out 11).trans rfl
  have z11 := blk_frozen HT4.out 11
  go_wp2_with fail
  clear t10 z10 t11 z11
  obtain ⟨v5, hv5⟩ : ∃ v5, v5 = ((v4.setCell ⟨g, 10, none⟩ (.int .i64 st)).setCell ⟨g, 11, none⟩ (.int .i64 of)) := ⟨_, rfl⟩
  rw [← hv5]
  have HT5 := Aside0.mk (show v5.heap[g]? = some (.cells (recCells 4 0 0 0 0 0 none 0 0 vn 0 0 st of ⟨#[]⟩) 28 (0, 0)) by
    rw [hv5]
    refine blk_put (cs := recCells 4 0 0 0 0 0 none 0 0 vn 0 0 st 0 ⟨#[]⟩) ?_ 11 _ rfl
    exact blk_put HT4.out 10 _ rfl)
  have HF5 := Aside0.mk (show v5.heap[f]? = some (.cells (recCells 0 0 0 0 0 0 none 0 0 0 0 0 0 0 ⟨#[]⟩) 28 (0, 0)) by rw [hv5]; exact (blk_far (blk_far HF4.out (by simp only; exact HFG.out.1) _) (by simp only; exact HFG.out.1) _))
  have HG5 := Aside0.mk (show v5.heap[rb]? = some (.cells #[.slice A n c, .int .i64 q2] 147 (0, 0)) by rw [hv5]; exact (blk_far (blk_far HG4.out (by simp only; exact fun e => HFT.out.2 e.symm) _) (by simp only; exact fun e => HFT.out.2 e.symm) _))
  have HX5 := Aside0.mk (show Frm w v5 (fun k => k = rb) by rw [hv5]; exact ((HX4.out.set_ (p := ⟨g, 10, none⟩) (.inr HFG.out.2.2) _).set_ (p := ⟨g, 11, none⟩) (.inr HFG.out.2.2) _))
  have HB5 := Aside0.mk (show Below w0.heap.size w0 v5 by rw [hv5]; exact ((HB4.out.setCell (p := ⟨g, 10, none⟩) (by have := HFG.out.2.2; have := HWW.out; simp only; omega) _).setCell (p := ⟨g, 11, none⟩) (by have := HFG.out.2.2; have := HWW.out; simp only; omega) _))
  clear hv5 HT4 HF4 HG4 HX4 HB4
  refine (rd_text w0 v5 rb n c A l q2 (n : Int) bx HN.out HCC.out HOK.out HM.out HC.out HB5.out HG5.out HR3.out).mono ?_
  rintro e6 v6 ⟨rfl, hg6, hf6⟩
  have HG6 := Aside0.mk hg6
  have HB6 := Aside0.mk (below_frm HB5.out hf6 (N := w0.heap.size) (fun k hk => by rw [hk]; exact HRB.out) (Nat.le_refl _))
  have HX6 := Aside0.mk (HX5.out.then_ hf6 (fun k hk _ => hk))
  have HF6 := Aside0.mk (hf6.blk HF5.out (fun e => HFT.out.1 e))
  have HT6 := Aside0.mk (hf6.blk HT5.out (fun e => HFT.out.2 e))
  clear hg6 hf6 HG5 HB5 HX5 HF5 HT5
  rw [HX.out]
  have t12 := (blk_cell HT6.out 12).trans rfl
  have z12 := blk_frozen HT6.out 12
  go_wp2_with fail
  clear t12 z12
  obtain ⟨v7, hv7⟩ : ∃ v7, v7 = (v6.setCell ⟨g, 12, none⟩ (.string x)) := ⟨_, rfl⟩
  rw [← hv7]
  have HT7 := Aside0.mk (show v7.heap[g]? = some (.cells (recCells 4 0 0 0 0 0 none 0 0 vn 0 0 st of x) 28 (0, 0)) by
    rw [hv7]
    exact blk_put HT6.out 12 _ rfl)
  have HF7 := Aside0.mk (show v7.heap[f]? = some (.cells (recCells 0 0 0 0 0 0 none 0 0 0 0 0 0 0 ⟨#[]⟩) 28 (0, 0)) by rw [hv7]; exact (blk_far HF6.out (by simp only; exact HFG.out.1) _))
  have HG7 := Aside0.mk (show v7.heap[rb]? = some (.cells #[.slice A n c, .int .i64 (n : Int)] 147 (0, 0)) by rw [hv7]; exact (blk_far HG6.out (by simp only; exact fun e => HFT.out.2 e.symm) _))
  have HX7 := Aside0.mk (show Frm w v7 (fun k => k = rb) by rw [hv7]; exact (HX6.out.set_ (p := ⟨g, 12, none⟩) (.inr HFG.out.2.2) _))
  have HB7 := Aside0.mk (show Below w0.heap.size w0 v7 by rw [hv7]; exact (HB6.out.setCell (p := ⟨g, 12, none⟩) (by have := HFG.out.2.2; have := HWW.out; simp only; omega) _))
  clear hv7 HT6 HF6 HG6 HX6 HB6
  have r0 : v7.cell? ⟨rb, 0, none⟩ = some (.slice A n c) := blk_cell HG7.out 0
  have r1 : v7.cell? ⟨rb, 1, none⟩ = some (.int .i64 (n : Int)) := blk_cell HG7.out 1
  go_quiet (fail)
  obtain ⟨wq, hwq⟩ : ∃ wq, wq = v7.drewN nq := ⟨_, rfl⟩
  rw [← hwq]
  have hbq := (show Below v7.heap.size v7 wq from Drawn0.below ⟨⟨nq, hwq⟩⟩)
  have HTQ := Aside0.mk ((hbq.block g (blk_lt HT7.out)).trans HT7.out)
  have HFQ := Aside0.mk ((hbq.block f (blk_lt HF7.out)).trans HF7.out)
  have HXQ := Aside0.mk (HX7.out.step hbq)
  clear hbq hwq r0 r1 HT7 HF7 HX7 HG7 HB7
  have kp0 := (blk_cell HTQ.out 0).trans rfl
  have kp1 := (blk_cell HTQ.out 1).trans rfl
  have kp2 := (blk_cell HTQ.out 2).trans rfl
  have kp3 := (blk_cell HTQ.out 3).trans rfl
  have kp4 := (blk_cell HTQ.out 4).trans rfl
  have kp5 := (blk_cell HTQ.out 5).trans rfl
  have kp6 := (blk_cell HTQ.out 6).trans rfl
  have kp7 := (blk_cell HTQ.out 7).trans rfl
  have kp8 := (blk_cell HTQ.out 8).trans rfl
  have kp9 := (blk_cell HTQ.out 9).trans rfl
  have kp10 := (blk_cell HTQ.out 10).trans rfl
  have kp11 := (blk_cell HTQ.out 11).trans rfl
  have kp12 := (blk_cell HTQ.out 12).trans rfl
  go_wp2_with (with_reducible refine stop_store rfl ?_)
  refine store_blk rfl rfl 28 _ _ rfl (q := f) (i := 0) (cur' := recCells 4 0 0 0 0 0 none 0 0 vn 0 0 st of x) (recCells 4 0 0 0 0 0 none 0 0 vn 0 0 st of x).toList rfl rfl rfl (by kernel_rfl) (by intro u hu; simp at hu; (repeat' (rcases hu with rfl | hu)) <;> first | rfl | (subst hu; rfl)) HFQ.out (by simp) rfl ?_
  intro wz hgz hgr
  have HXZ := Aside0.mk (HXQ.out.then_ (Frm.of_grown (S := fun k => k = f) hgr (fun k e => (Option.some.inj e).symm)) (fun k hk hlt => by have := HFG.out.2.1; omega))
  clear hgr kp0 kp1 kp2 kp3 kp4 kp5 kp6 kp7 kp8 kp9 kp10 kp11 kp12
  go_wp2
  (try simp only [Exit.inBlock, Exit.then])
  refine bodyPost_ret (results_cell_row rfl _ _ f 28 (recCells 4 0 0 0 0 0 none 0 0 vn 0 0 st of x) (0, 0) _ rfl hgz Try.underlying28 rfl (by kernel_rfl)) rfl ?_
  exact ⟨rfl, HXZ.out⟩
end Go.Proofs.Ytdbniihjkiecbaa.PW
namespace Go.Proofs.Ytdbniihjkiecbaa.PW
open Go.RowKit Go.Proofs.YtdbniihjkiecbaaW.PrintWords Go.Proofs.YtdbniihjkiecbaaW.PrintLast Go.Proofs.YtdbniihjkiecbaaW.PrintMore
set_option linter.unusedVariables false
set_option linter.unusedSimpArgs false

set_option maxHeartbeats 8000000 in
set_option maxRecDepth 100000 in
theorem rd_entry (w0 w : World) (rb n c : Nat) (A : Option Addr) (l : List Int) (s v k se rq : Int) (ops : List S40) (m : Nat) (hm2 : ops.length = m) (hm1 : m ≤ 1000000) (hn : l.length = n) (hc : n ≤ c) (hok : bytesOk l = true) (hm : n ≤ 262144) (hC : C8 w0 A n l) (hB : Below w0.heap.size w0 w) (hrb : w0.heap.size ≤ rb) (hg : w.heap[rb]? = some (.cells #[.slice A n c, .int .i64 0] 147 (0, 0))) (hr : EntAt l 0 s v k se rq ops (n : Int)) (hmay : entOk s v k se rq ops = true) :
    Calls Try.prog 84 #[.pointer (some ⟨rb, 0, none⟩), .int .i64 1] w fun e w' => ∃ B cb, e = .returned (.agg (recCells 1 s v k se rq B m cb 0 0 0 0 0 ⟨#[]⟩)) ∧ R40 w' w.heap.size (.slice B m cb) ops ∧ Frm w w' (fun k => k = rb) := by
  have hu28 := Try.underlying28
  have hu26 := Try.underlying26
  have hu24 := Try.underlying24
  have hu147 := Try.underlying147
  have HN := Aside0.mk hn
  have HC := Aside0.mk hC
  have HCC := Aside0.mk hc
  have HOK := Aside0.mk hok
  have HM := Aside0.mk hm
  have HG := Aside0.mk hg
  have HB := Aside0.mk hB
  have HRB := Aside0.mk hrb
  have HWW := Aside0.mk hB.size
  have HR := Aside0.mk hr
  have HMAY := Aside0.mk hmay
  have HM2 := Aside0.mk hm2
  have HM1 := Aside0.mk hm1
  clear hn hc hok hm hC hB hg hrb hr hmay hm2 hm1
  go_enter Try.func84, Try.ntmps84
  have rr : ((w.alloc (.cells (recCells 0 0 0 0 0 0 none 0 0 0 0 0 0 0 ⟨#[]⟩) 28)).alloc (.cells (recCells 1 0 0 0 0 0 none 0 0 0 0 0 0 0 ⟨#[]⟩) 28)).cell? ⟨rb, 0, none⟩ = some (.slice A n c) := pw_cell_below (below_alloc (below_alloc (Below.refl _ _) _) _) (blk_cell HG.out 0)
  go_wp2_with fail
  obtain ⟨f, hf⟩ : ∃ f, f = w.heap.size := ⟨_, rfl⟩
  obtain ⟨g, hg⟩ : ∃ g, g = w.heap.size + 1 := ⟨_, rfl⟩
  obtain ⟨va, hva⟩ : ∃ va, va = w.alloc (.cells (recCells 0 0 0 0 0 0 none 0 0 0 0 0 0 0 ⟨#[]⟩) 28) := ⟨_, rfl⟩
  obtain ⟨v0, hv0⟩ : ∃ v0, v0 = va.alloc (.cells (recCells 1 0 0 0 0 0 none 0 0 0 0 0 0 0 ⟨#[]⟩) 28) := ⟨_, rfl⟩
  have hsz : va.heap.size = w.heap.size + 1 := by rw [hva]; simp
  rw [← hva, ← hv0, ← hg, ← hf]
  have HW1 := Aside0.mk (show Below w.heap.size w v0 by rw [hv0]; exact (below_step (w := w) (W := va) (by rw [hva]; exact below_alloc (Below.refl _ _) _) (below_alloc (Below.refl _ _) _)))
  have HF0 := Aside0.mk (show v0.heap[f]? = some (.cells (recCells 0 0 0 0 0 0 none 0 0 0 0 0 0 0 ⟨#[]⟩) 28 (0, 0)) by
    rw [hv0]
    refine (Below.heap_alloc _ _ _ (by omega)).trans ?_
    rw [hva, hf]; exact heap_alloc_new w _)
  have HT0 := Aside0.mk (show v0.heap[g]? = some (.cells (recCells 1 0 0 0 0 0 none 0 0 0 0 0 0 0 ⟨#[]⟩) 28 (0, 0)) by rw [hv0, hg, ← hsz]; exact heap_alloc_new va _)
  have HB0 := Aside0.mk (below_step HB.out HW1.out)
  have HX0 := Aside0.mk (Frm.of_below HW1.out (fun k => k = rb))
  have HG0 := Aside0.mk ((HW1.out.block rb (blk_lt HG.out)).trans HG.out)
  have HFT := Aside0.mk (show f ≠ rb ∧ g ≠ rb by have := blk_lt HG.out; omega)
  have HFG := Aside0.mk (show f ≠ g ∧ w.heap.size ≤ f ∧ w.heap.size ≤ g by omega)
  clear hf hg hva hv0 hsz HG HB rr
  refine (dec_entry v0 n c A l s v k se rq ops m HM2.out HM1.out HN.out HCC.out HOK.out HM.out (Kd.C_below HC.out HB0.out) HR.out HMAY.out).mono ?_
  rintro e1 v1 ⟨B, cb, rfl, ho1, hb1⟩
  have HG1 := Aside0.mk ((hb1.block rb (blk_lt HG0.out)).trans HG0.out)
  have HF1 := Aside0.mk ((hb1.block f (blk_lt HF0.out)).trans HF0.out)
  have HT1 := Aside0.mk ((hb1.block g (blk_lt HT0.out)).trans HT0.out)
  have HX1 := Aside0.mk (HX0.out.step hb1)
  have HO1 := Aside0.mk (Kd.R_lower ho1 HW1.out.size)
  clear ho1 hb1 HG0 HF0 HT0 HX0 HB0 HW1
  go_wp2_with (with_reducible refine stop_store rfl ?_)
  obtain ⟨h, hh⟩ : ∃ h, h = v1.heap.size := ⟨_, rfl⟩
  obtain ⟨va, hva⟩ : ∃ va, va = v1.alloc (.cells entZero 24) := ⟨_, rfl⟩
  rw [← hva, ← hh]
  have hba : Below v1.heap.size v1 va := by rw [hva]; exact below_alloc (Below.refl _ _) _
  have HHA := Aside0.mk (show va.heap[h]? = some (.cells entZero 24 (0, 0)) by rw [hva, hh]; exact heap_alloc_new v1 _)
  refine store_blk rfl rfl 24 _ _ rfl (q := h) (i := 0) (cur' := entArr s v k se rq (.slice B m cb)) [.int .i64 s, .int .i64 v, .int .i64 k, .int .i64 se, .int .i64 rq, .slice B m cb] rfl rfl rfl (by kernel_rfl) (by intro u hu; simp at hu; rcases hu with rfl | rfl | rfl | rfl | rfl | rfl <;> rfl) HHA.out (by simp) rfl ?_
  intro v2 hz2 hgz2
  have hb2 : Below v1.heap.size v1 v2 := hba.grown hgz2 hba.size (fun k e => by cases e; omega)
  have HH2 := Aside0.mk hz2
  have HG2 := Aside0.mk ((hb2.block rb (blk_lt HG1.out)).trans HG1.out)
  have HF2 := Aside0.mk ((hb2.block f (blk_lt HF1.out)).trans HF1.out)
  have HT2 := Aside0.mk ((hb2.block g (blk_lt HT1.out)).trans HT1.out)
  have HX2 := Aside0.mk (HX1.out.step hb2)
  have HO2 := Aside0.mk (Kd.R_below HO1.out hb2)
  clear hh hva hba hz2 hgz2 hb2 HHA HG1 HF1 HT1 HX1 HO1
  have y0 := (blk_cell HH2.out 0).trans rfl
  have y1 := (blk_cell HH2.out 1).trans rfl
  have y2 := (blk_cell HH2.out 2).trans rfl
  have y3 := (blk_cell HH2.out 3).trans rfl
  have y4 := (blk_cell HH2.out 4).trans rfl
  have y5 := (blk_cell HH2.out 5).trans rfl
  go_wp2_with (with_reducible refine stop_store rfl ?_)
  refine store_blk rfl rfl 24 _ _ rfl (q := g) (i := 1) (cur' := recCells 1 s v k se rq B m cb 0 0 0 0 0 ⟨#[]⟩) [.int .i64 s, .int .i64 v, .int .i64 k, .int .i64 se, .int .i64 rq, .slice B m cb] rfl rfl rfl (by kernel_rfl) (by intro u hu; simp at hu; rcases hu with rfl | rfl | rfl | rfl | rfl | rfl <;> rfl) HT2.out (by simp) rfl ?_
  intro v3 hz hgz
  have HT3 := Aside0.mk hz
  have HF3 := Aside0.mk ((hgz.block f (blk_lt HF2.out) (fun e => HFG.out.1 (Option.some.inj e))).trans HF2.out)
  have HX3 := Aside0.mk (HX2.out.then_ (Frm.of_grown (S := fun k => k = g) hgz (fun k e => (Option.some.inj e).symm)) (fun k hk hlt => by have := HFG.out.2.2; omega))
  have HO3 := Aside0.mk (R40_frm HO2.out HT2.out (by decide) (Frm.of_grown (S := fun k => k = g) hgz (fun k e => (Option.some.inj e).symm)))
  clear hz hgz y0 y1 y2 y3 y4 y5 HT2 HF2 HX2 HO2 HH2 HG2
  have kp0 := (blk_cell HT3.out 0).trans rfl
  have kp1 := (blk_cell HT3.out 1).trans rfl
  have kp2 := (blk_cell HT3.out 2).trans rfl
  have kp3 := (blk_cell HT3.out 3).trans rfl
  have kp4 := (blk_cell HT3.out 4).trans rfl
  have kp5 := (blk_cell HT3.out 5).trans rfl
  have kp6 := (blk_cell HT3.out 6).trans rfl
  have kp7 := (blk_cell HT3.out 7).trans rfl
  have kp8 := (blk_cell HT3.out 8).trans rfl
  have kp9 := (blk_cell HT3.out 9).trans rfl
  have kp10 := (blk_cell HT3.out 10).trans rfl
  have kp11 := (blk_cell HT3.out 11).trans rfl
  have kp12 := (blk_cell HT3.out 12).trans rfl
  go_wp2_with (with_reducible refine stop_store rfl ?_)
  refine store_blk rfl rfl 28 _ _ rfl (q := f) (i := 0) (cur' := recCells 1 s v k se rq B m cb 0 0 0 0 0 ⟨#[]⟩) (recCells 1 s v k se rq B m cb 0 0 0 0 0 ⟨#[]⟩).toList rfl rfl rfl (by kernel_rfl) (by intro u hu; simp at hu; (repeat' (rcases hu with rfl | hu)) <;> first | rfl | (subst hu; rfl)) HF3.out (by simp) rfl ?_
  intro wz hgz hgr
  have HXZ := Aside0.mk (HX3.out.then_ (Frm.of_grown (S := fun k => k = f) hgr (fun k e => (Option.some.inj e).symm)) (fun k hk hlt => by have := HFG.out.2.1; omega))
  have HOZ := Aside0.mk (R40_frm HO3.out HF3.out (by decide) (Frm.of_grown (S := fun k => k = f) hgr (fun k e => (Option.some.inj e).symm)))
  clear hgr kp0 kp1 kp2 kp3 kp4 kp5 kp6 kp7 kp8 kp9 kp10 kp11 kp12
  go_wp2
  (try simp only [Exit.inBlock, Exit.then])
  refine bodyPost_ret (results_cell_row rfl _ _ f 28 (recCells 1 s v k se rq B m cb 0 0 0 0 0 ⟨#[]⟩) (0, 0) _ rfl hgz Try.underlying28 rfl (by kernel_rfl)) rfl ?_
  exact ⟨B, cb, rfl, HOZ.out, HXZ.out⟩
end Go.Proofs.Ytdbniihjkiecbaa.PW
namespace Go.Proofs.Ytdbniihjkiecbaa.PW
open Go.RowKit Go.Proofs.YtdbniihjkiecbaaW.PrintWords Go.Proofs.YtdbniihjkiecbaaW.PrintLast Go.Proofs.YtdbniihjkiecbaaW.PrintMore
set_option linter.unusedVariables false
set_option linter.unusedSimpArgs false

theorem results71_row (tmps : Array Value) (w : World) (p4 p5 p6 : Nat) (cs : Array Value) (m : Int) (b : Bool) (h4 : tmps[4]? = some (.pointer (some ⟨p4, 0, none⟩))) (h5 : tmps[5]? = some (.pointer (some ⟨p5, 0, none⟩))) (h6 : tmps[6]? = some (.pointer (some ⟨p6, 0, none⟩)))
    (hg : w.heap[p4]? = some (.cells cs 28 (0, 0))) (hs : cs.size = 13) (c5 : w.cell? ⟨p5, 0, none⟩ = some (.int .i64 m)) (c6 : w.cell? ⟨p6, 0, none⟩ = some (.bool b)) :
    (results Try.f71 tmps).run Try.prog w = .ok (.tuple #[.agg cs, .int .i64 m, .bool b]) w := by
  have hl := run_loadVar_row (P := Try.prog) w p4 28 28 cs (0, 0) _ hg Try.underlying28 rfl (by rw [hs]; kernel_rfl)
  have hl5 : (loadVar 3 ⟨p5, 0, none⟩).run Try.prog w = .ok (.int .i64 m) w := by simp [go_sem, c5]
  have hl6 : (loadVar 4 ⟨p6, 0, none⟩).run Try.prog w = .ok (.bool b) w := by simp [go_sem, c6]
  simp [results, Try.results71, h4, h5, h6, asAddr, hl, hl5, hl6, Sem.run_bind, Sem.run_pure, Result.andThen_ok]
/-- read returns. -/
theorem door71 {R : Ending → World → Prop} {a : Act} {w : World} {p q r v : Value} (hd : a.defers = [{ target := .fn (.func 82) #[p, q, r], args := #[] }]) (hres : (results Try.f71 a.tmps).run Try.prog w = .ok v w) (hR : R (.returned v) w) :
    bodyPostD Try.prog Try.f71 R Exit.ret a w := by
  show Leaves Try.prog Try.f71 a.tmps R a.defers .returning w
  rw [hd]
  refine leaves_cons (f := 82) (args := #[p, q, r]) (by simp) (by simp [go_sem]) ?_
  refine (read_idle _ _ _ _).mono ?_
  rintro e u' w'' ⟨rfl, rfl, rfl⟩
  exact ⟨v, hres, hR⟩
end Go.Proofs.Ytdbniihjkiecbaa.PW
namespace Go.Proofs.Ytdbniihjkiecbaa.PW
open Go.RowKit Go.Proofs.YtdbniihjkiecbaaW.PrintWords Go.Proofs.YtdbniihjkiecbaaW.PrintLast Go.Proofs.YtdbniihjkiecbaaW.PrintMore
set_option linter.unusedVariables false
set_option linter.unusedSimpArgs false

theorem four_N (A : Option Addr) (n c : Nat) (l : List Int) (r : Int) (w : World) (hn : l.length = n) (hc : n ≤ c) (hC : C8 w A n l) (h : journal_four.f l = some r) :
    Calls Try.prog 83 #[.slice A n c] w fun e w' => e = .returned (.int .i64 r) ∧ Below w.heap.size w w' := by
  subst hn
  refine (journal_four.calls A c l r w hC hc h).mono ?_
  rintro e w' ⟨rfl, hd⟩
  exact ⟨rfl, hd.below⟩
theorem leaves_congr {P : Program} {fn : Func} {t t' : Array Value} {R : Ending → World → Prop} (h : results fn t = results fn t') : ∀ (ds : List Deferred) (u : FrameMode) (w : World), Leaves P fn t R ds u w = Leaves P fn t' R ds u w := by
  intro ds
  induction ds with
  | nil =>
    intro u w
    cases u <;> simp [Leaves, h]
  | cons d ds ih =>
    intro u w
    simp only [Leaves, ih]
theorem hq71 {K K1 : Act → World → Prop} {R : Ending → World → Prop} {N : Option Tmp} {v : Value} (hN : N ≠ some 4 ∧ N ≠ some 5 ∧ N ≠ some 6) (c : List PanicEntry) (a : Act) (w : World) (h : Exit.then K (Exit.then K1 (bodyPostD Try.prog Try.f71 R)) (.panic c) (a.put N v) w) :
    Exit.then K (Exit.then K1 (bodyPostD Try.prog Try.f71 R)) (.panic c) a w := by
  cases N with
  | none => exact h
  | some m =>
    have h' : Leaves Try.prog Try.f71 (a.tmps.setIfInBounds m v) R a.defers (.panicking c) w := h
    have e : results Try.f71 (a.tmps.setIfInBounds m v) = results Try.f71 a.tmps := by
      have h4 : (a.tmps.setIfInBounds m v)[4]? = a.tmps[4]? := Array.getElem?_setIfInBounds_ne (fun e => hN.1 (by rw [e]))
      have h5 : (a.tmps.setIfInBounds m v)[5]? = a.tmps[5]? := Array.getElem?_setIfInBounds_ne (fun e => hN.2.1 (by rw [e]))
      have h6 : (a.tmps.setIfInBounds m v)[6]? = a.tmps[6]? := Array.getElem?_setIfInBounds_ne (fun e => hN.2.2 (by rw [e]))
      simp [results, Try.results71, h4, h5, h6]
    show Leaves Try.prog Try.f71 a.tmps R a.defers (.panicking c) w
    rw [← leaves_congr e]
    exact h'
theorem hq71a {K : Act → World → Prop} {R : Ending → World → Prop} {N : Option Tmp} {v : Value} (hN : N ≠ some 4 ∧ N ≠ some 5 ∧ N ≠ some 6) (c : List PanicEntry) (a : Act) (w : World) (h : Exit.then K (bodyPostD Try.prog Try.f71 R) (.panic c) (a.put N v) w) :
    Exit.then K (bodyPostD Try.prog Try.f71 R) (.panic c) a w := hq71 (K := K) (K1 := K) hN c a w h
/-- A struct stored into a block that is known whole, as an arm of a drawn region. -/
theorem store_arm {oi : Oper} {a : Act} {w : World} {K : Act → World → Prop} {Q : Exit → Act → World → Prop} (t : TypeId) (p x : Operand) (hop : oi.op = .store t p x) {ops : Array Oper} (hw : Region.wanted oi (yielded ops a.tmps) = true) (hN : oi.dst = none) {q i e : Nat} {cur cur' : Array Value} (cs : List Value)
    (haddr : a.eval p = .pointer (some ⟨q, i, none⟩)) (hx : a.eval x = .agg cs.toArray) (hc : (Value.agg cs.toArray).cells.toList = cs) (ht : (Try.prog.info? t).map (·.size) = some cs.length) (h1 : ∀ u ∈ cs, u.oneCell' = true) (hh : w.heap[q]? = some (.cells cur e (0, 0))) (hfit : i + cs.length ≤ cur.size)
    (hcur : cur.toList.take i ++ cs ++ cur.toList.drop (i + cs.length) = cur'.toList) (h : ∀ w1, w1.heap[q]? = some (.cells cur' e (0, 0)) → w.grownBy w1 (some q) → K a w1) :
    if Region.wanted oi (yielded ops a.tmps) = true then Oper.wp Try.prog oi a w K Q else K (a.put none undef) w := by
  obtain ⟨cur2, k1, k2, k3⟩ := setCells_row cs i w cur hh hfit
  have e2 : cur2 = cur' := by
    apply Array.toList_inj.1
    rw [k3, hcur]
  subst e2
  obtain ⟨s1, s2, s3, s4⟩ := setCells_same q cs i w
  have hrun := run_store_run (P := Try.prog) t (.agg cs.toArray) cs hh hc ht hfit h1
  refine skip_ hw hN ?_ (h _ k1 ⟨s1, s2, s3, Nat.le_of_eq s4.symm, fun k _ hk => setCells_far cs i k (fun e => hk (by rw [e]))⟩)
  unfold execOp
  simp only [hop, haddr, hx, Sem.run_bind, Sem.run_pure, Result.andThen_ok, hrun]
theorem cutm8 {A : Option Addr} {n c : Nat} {xs : List Int} (j k : Nat) (hj : j ≤ k) (hk : k ≤ n) (hc : n ≤ c) :
    ∃ A', (∀ W : World, (Instr.slice 29 (.slice A n c) (some (.int .i64 (j : Int))) (some (.int .i64 (k : Int))) none).run Try.prog W = .ok (.slice A' (k - j) (c - j)) W) ∧ ∀ W : World, C8 W A n xs → C8 W A' (k - j) ((xs.take k).drop j) := by
  obtain ⟨i0, hi, hzz⟩ := Option.map_eq_some_iff.1 info5'
  simp only [Prod.mk.injEq] at hzz
  have hrun := cut_mid (P := Try.prog) 29 5 .i64 .i64 Try.underlying29 hi 1 hzz.2.1 A n c (j : Int) (k : Int) (by omega) (by omega) (by omega) hc
  refine ⟨_, hrun, fun W HR => ?_⟩
  obtain rfl : xs.length = n := HR.1
  have hd := Kd.C_mid (lo := j) (hi := k) HR hj hk hc
  rw [List.length_drop, List.length_take, Nat.min_eq_left hk] at hd
  rw [Int.toNat_natCast]
  exact hd
theorem wr_sub20 {n : Nat} (h0 : 20 ≤ n) (h : n ≤ 1000000000000) : wrap64 ((n : Int) - 20) = (n : Int) - 20 := by unfold wrap64; omega
theorem wr_kd {k : Int} (h0 : 0 ≤ k) (h : k < 256) : wrap64 k = k := by unfold wrap64; omega
theorem wr_add16 {n : Nat} (h : n ≤ 1000000000000) : wrap64 (16 + (n : Int)) = 16 + (n : Int) := by unfold wrap64; omega
theorem wr_add20 {n : Nat} (h : n ≤ 1000000000000) : wrap64 ((n : Int) + 20) = (n : Int) + 20 := by unfold wrap64; omega
set_option maxHeartbeats 16000000 in
set_option maxRecDepth 100000 in
theorem read_ok (w : World) (A : Option Addr) (n c : Nat) (l : List Int) (sq : Int) (m : Nat) (kd s v k se rq : Int) (l2 : List S40) (vn vp vb st of : Int) (x : ByteArray) (r1 : List Int)
    (hn : l.length = n) (hc : n ≤ c) (hmx : n ≤ 1000000000000) (hok : bytesOk l = true) (hC : C8 w A n l)
    (h20 : 20 + m ≤ n) (h0 : rd l 0 = 74) (h1 : rd l 1 = 82) (h2 : rd l 2 = kd) (h3 : rd l 3 = 0)
    (h4 : journal_four.f (l.drop 4) = some sq) (h8 : journal_four.f (l.drop 8) = some (m : Int)) (h12 : journal_four.f (l.drop 12) = some (sumW (l.take 12))) (h16 : journal_four.f (l.drop (16 + m)) = some (sumW (l.take (16 + m))))
    (hE : recEnc sq kd s v k se rq l2 vn vp vb st of x = (r1, 0))
    (hrec : ∀ (w1 : World) (rb : Nat) (A' : Option Addr) (c' : Nat), Below w.heap.size w w1 → w.heap.size ≤ rb → m ≤ c' → w1.heap[rb]? = some (.cells #[.slice A' m c', .int .i64 0] 147 (0, 0)) → C8 w A' m ((l.take (16 + m)).drop 16) →
      Calls Try.prog 84 #[.pointer (some ⟨rb, 0, none⟩), .int .i64 kd] w1 fun e w' => ∃ B nb cb, e = .returned (.agg (recCells kd s v k se rq B nb cb vn vp vb st of x)) ∧ l2.length = nb ∧ R40 w' w1.heap.size (.slice B nb cb) l2 ∧ Frm w1 w' (fun k => k = rb)) :
    Calls Try.prog 71 #[.slice A n c, .int .i64 sq] w fun e w' => ∃ B nb cb, e = .returned (.tuple #[.agg (recCells kd s v k se rq B nb cb vn vp vb st of x), .int .i64 ((m : Int) + 20), .bool true]) ∧ l2.length = nb ∧ R40 w' w.heap.size (.slice B nb cb) l2 ∧ Below w.heap.size w w' := by
  have hu28 := Try.underlying28
  have hu26 := Try.underlying26
  have hu24 := Try.underlying24
  have hu147 := Try.underlying147
  have hmf : ∀ (fn : Fn) (first cap : Array Value) (w : World), (Instr.makeFunc fn first cap).run Try.prog w = .ok (.func fn first cap) w := fun _ _ _ _ => rfl
  have hkd := wr_kd (bytesOk_rd hok 2 (by omega)).1 (bytesOk_rd hok 2 (by omega)).2
  replace hkd : wrap64 kd = kd := by rw [← h2]; exact hkd
  have HKD := Aside0.mk hkd
  clear hkd
  obtain ⟨ad, rfl, hb0⟩ := Kd.at_int hC 0 (by decide) (by omega)
  obtain ⟨ad1, e1, hb1⟩ := Kd.at_int hC 1 (by decide) (by omega)
  cases e1
  obtain ⟨ad1, e1, hb2⟩ := Kd.at_int hC 2 (by decide) (by omega)
  cases e1
  obtain ⟨ad1, e1, hb3⟩ := Kd.at_int hC 3 (by decide) (by omega)
  cases e1
  rw [h0] at hb0
  rw [h1] at hb1
  rw [h2] at hb2
  rw [h3] at hb3
  obtain ⟨A4, hc4, hC4⟩ := cutf8 (A := some ad) (n := n) (c := c) (xs := l) 4 (by omega) hc
  obtain ⟨A8, hc8, hC8⟩ := cutf8 (A := some ad) (n := n) (c := c) (xs := l) 8 (by omega) hc
  obtain ⟨A12, hc12, hC12⟩ := cutf8 (A := some ad) (n := n) (c := c) (xs := l) 12 (by omega) hc
  obtain ⟨ht12, hCt12⟩ := cutt8 (A := some ad) (n := n) (c := c) (xs := l) 12 (by omega) hc
  replace hc4 : ∀ (W : World), (Instr.slice 29 (.slice (some ad) n c) (some (.int .i64 4)) none none).run Try.prog W = .ok (.slice A4 (n - 4) (c - 4)) W := hc4
  replace hc8 : ∀ (W : World), (Instr.slice 29 (.slice (some ad) n c) (some (.int .i64 8)) none none).run Try.prog W = .ok (.slice A8 (n - 8) (c - 8)) W := hc8
  replace hc12 : ∀ (W : World), (Instr.slice 29 (.slice (some ad) n c) (some (.int .i64 12)) none none).run Try.prog W = .ok (.slice A12 (n - 12) (c - 12)) W := hc12
  replace ht12 : ∀ (W : World), (Instr.slice 29 (.slice (some ad) n c) none (some (.int .i64 12)) none).run Try.prog W = .ok (.slice (some ad) 12 c) W := ht12
  replace hb0 : w.cell? ad = some (.int .u8 74) := by rw [show ad.add (Int.toNat 0) = ad from by simp [Addr.add]] at hb0; exact hb0
  replace hb1 : w.cell? ⟨ad.block, ad.off + 1, none⟩ = some (.int .u8 82) := by rw [show ad.add (Int.toNat 1) = ⟨ad.block, ad.off + 1, none⟩ from by simp [Addr.add]] at hb1; exact hb1
  replace hb2 : w.cell? ⟨ad.block, ad.off + 2, none⟩ = some (.int .u8 kd) := by rw [show ad.add (Int.toNat 2) = ⟨ad.block, ad.off + 2, none⟩ from by simp [Addr.add]] at hb2; exact hb2
  replace hb3 : w.cell? ⟨ad.block, ad.off + 3, none⟩ = some (.int .u8 0) := by rw [show ad.add (Int.toNat 3) = ⟨ad.block, ad.off + 3, none⟩ from by simp [Addr.add]] at hb3; exact hb3
  have HN := Aside0.mk hn
  have HCC := Aside0.mk hc
  have HC := Aside0.mk hC
  have HOK := Aside0.mk hok
  have HM := Aside0.mk hmx
  have H20 := Aside0.mk h20
  have HC4 := Aside0.mk (hC4 w hC)
  have HC8 := Aside0.mk (hC8 w hC)
  have HC12 := Aside0.mk (hC12 w hC)
  have HCT := Aside0.mk (hCt12 w hC)
  have H4 := Aside0.mk h4
  have H8 := Aside0.mk h8
  have H12 := Aside0.mk h12
  have H16 := Aside0.mk h16
  have HE := Aside0.mk hE
  have HREC := Aside0.mk hrec
  clear hn hc hmx hok hC h20 hC4 hC8 hC12 hCt12 h4 h8 h12 h16 hE hrec h0 h1 h2 h3
  have hd20 : decide ((n : Int) < 20) = false := decide_eq_false (by have := H20.out; omega)
  have hd21 : decide (n < 20) = false := decide_eq_false (by have := H20.out; omega)
  have i0 : (0 < n) = True := eq_true (by have := H20.out; omega)
  have i1 : (1 < n) = True := eq_true (by have := H20.out; omega)
  have i2 : (2 < n) = True := eq_true (by have := H20.out; omega)
  have i3 : (3 < n) = True := eq_true (by have := H20.out; omega)
  have j0 : ((0 : Int) < (n : Int)) = True := eq_true (by have := H20.out; omega)
  have j1 : ((1 : Int) < (n : Int)) = True := eq_true (by have := H20.out; omega)
  have j2 : ((2 : Int) < (n : Int)) = True := eq_true (by have := H20.out; omega)
  have j3 : ((3 : Int) < (n : Int)) = True := eq_true (by have := H20.out; omega)
  go_enter_defers Try.func71, Try.ntmps71
  go_wp2_with fail
  obtain ⟨p4, hp4⟩ : ∃ p4, p4 = w.heap.size := ⟨_, rfl⟩
  obtain ⟨p5, hp5⟩ : ∃ p5, p5 = w.heap.size + 1 := ⟨_, rfl⟩
  obtain ⟨p6, hp6⟩ : ∃ p6, p6 = w.heap.size + 1 + 1 := ⟨_, rfl⟩
  obtain ⟨wa, hwa⟩ : ∃ wa, wa = w.alloc (.cells #[.int .i64 0, .int .i64 0, .int .i64 0, .int .i64 0, .int .i64 0, .int .i64 0, .slice none 0 0, .int .i64 0, .int .i64 0, .int .i64 0, .int .i64 0, .int .i64 0, .string ⟨#[]⟩] 28) := ⟨_, rfl⟩
  obtain ⟨wb, hwb⟩ : ∃ wb, wb = wa.alloc (.cells #[.int .i64 0] 3) := ⟨_, rfl⟩
  obtain ⟨wc, hwc⟩ : ∃ wc, wc = wb.alloc (.cells #[.bool false] 4) := ⟨_, rfl⟩
  rw [← hwa, ← hwb, ← hwc, ← hp6, ← hp5, ← hp4]
  have hza : wa.heap.size = w.heap.size + 1 := by rw [hwa]; simp
  have hzb : wb.heap.size = w.heap.size + 1 + 1 := by rw [hwb, ← hza]; simp
  have hba : Below wa.heap.size wa wb := by rw [hwb]; exact below_alloc (Below.refl _ _) _
  have hbb : Below wb.heap.size wb wc := by rw [hwc]; exact below_alloc (Below.refl _ _) _
  have HB := Aside0.mk (show Below w.heap.size w wc from below_step (below_step (by rw [hwa]; exact below_alloc (Below.refl _ _) _) hba) hbb)
  have HP4 := Aside0.mk (show wc.heap[p4]? = some (.cells #[.int .i64 0, .int .i64 0, .int .i64 0, .int .i64 0, .int .i64 0, .int .i64 0, .slice none 0 0, .int .i64 0, .int .i64 0, .int .i64 0, .int .i64 0, .int .i64 0, .string ⟨#[]⟩] 28 (0, 0)) by
    refine (hbb.block p4 (by omega)).trans ((hba.block p4 (by omega)).trans ?_)
    rw [hwa, hp4]; exact heap_alloc_new w _)
  have HP5 := Aside0.mk (show wc.heap[p5]? = some (.cells #[.int .i64 0] 3 (0, 0)) by
    refine (hbb.block p5 (by omega)).trans ?_
    rw [hwb, hp5, ← hza]; exact heap_alloc_new wa _)
  have HP6 := Aside0.mk (show wc.heap[p6]? = some (.cells #[.bool false] 4 (0, 0)) by rw [hwc, hp6, ← hzb]; exact heap_alloc_new wb _)
  have HPW := Aside0.mk (show w.heap.size ≤ p4 ∧ p4 < p5 ∧ p5 < p6 by omega)
  clear hp4 hp5 hp6 hwa hwb hwc hza hzb hba hbb
  have HB0 := Aside0.mk (pw_cell_below (below_drew1 HB.out) hb0)
  have HB1 := Aside0.mk (pw_cell_below (below_drew1 HB.out) hb1)
  have HB2 := Aside0.mk hb2
  have HB3 := Aside0.mk (pw_cell_below (below_drew1 HB.out) hb3)
  clear hb0 hb1 hb2 hb3
  have c0 := HB0.out
  have c1 := HB1.out
  have c3 := HB3.out
  have HD := Aside0.mk (below_drew1 HB.out)
  refine start_ (n := 37) (S := fun w' => w'.cell? ad = some (.int .u8 74) ∧ w'.cell? ⟨ad.block, ad.off + 1, none⟩ = some (.int .u8 82) ∧ w'.cell? ⟨ad.block, ad.off + 3, none⟩ = some (.int .u8 0)) (ds := []) #[ff, ff, ff, ff, ff, ff, ff, ff, ff, ff, ff, ff, ff, ff, ff, ff, ff, ff, ff, ff, ff, ff, ff, ff, ff, ff, ff, ff, ff, ff, ff, ff, ff, ff, ff, ff, ff] (by kernel_rfl) rfl rfl ⟨c0, c1, c3⟩ (fun hHeld => ?_)
  refine pure_ (i := 0) (N := some 11) (v := ?_) (a' := ?_) #[tt, ff, ff, ff, ff, ff, ff, ff, ff, ff, ff, ff, ff, ff, ff, ff, ff, ff, ff, ff, ff, ff, ff, ff, ff, ff, ff, ff, ff, ff, ff, ff, ff, ff, ff, ff, ff] rfl rfl (by kernel_rfl) (hq71 (by decide)) (Or.inl ⟨by rfl, ?_⟩) ?_ ?_
  rotate_left
  · intro w'
    go_simp
    with_reducible rfl
  rotate_left
  · simp only [Act.put, sx1, sx2, sx3, i64_w, i32_w]
    rfl
  refine pure_ (i := 1) (N := some 12) (v := ?_) (a' := ?_) #[tt, tt, ff, ff, ff, ff, ff, ff, ff, ff, ff, ff, ff, ff, ff, ff, ff, ff, ff, ff, ff, ff, ff, ff, ff, ff, ff, ff, ff, ff, ff, ff, ff, ff, ff, ff, ff] rfl rfl (by kernel_rfl) (hq71 (by decide)) (Or.inl ⟨by rfl, ?_⟩) ?_ ?_
  rotate_left
  · intro w'
    go_simp
    with_reducible rfl
  rotate_left
  · simp only [Act.put, sx1, sx2, sx3, i64_w, i32_w]
    rfl
  refine pure_ (i := 2) (N := some 13) (v := ?_) (a' := ?_) #[tt, tt, tt, ff, ff, ff, ff, ff, ff, ff, ff, ff, ff, ff, ff, ff, ff, ff, ff, ff, ff, ff, ff, ff, ff, ff, ff, ff, ff, ff, ff, ff, ff, ff, ff, ff, ff] rfl rfl (by kernel_rfl) (hq71 (by decide)) (Or.inl ⟨by rfl, ?_⟩) ?_ ?_
  rotate_left
  · intro w'
    go_simp
    with_reducible rfl
  rotate_left
  · simp only [Act.put, sx1, sx2, sx3, i64_w, i32_w]
    rfl
  refine pure_ (i := 3) (N := some 14) (v := ?_) (a' := ?_) #[tt, tt, tt, tt, ff, ff, ff, ff, ff, ff, ff, ff, ff, ff, ff, ff, ff, ff, ff, ff, ff, ff, ff, ff, ff, ff, ff, ff, ff, ff, ff, ff, ff, ff, ff, ff, ff] rfl rfl (by kernel_rfl) (hq71 (by decide)) (Or.inl ⟨by rfl, ?_⟩) ?_ ?_
  rotate_left
  · intro w'
    go_simp
    with_reducible rfl
  rotate_left
  · simp only [Act.put, sx1, sx2, sx3, i64_w, i32_w]
    rfl
  refine pure_ (i := 4) (N := some 15) (v := ?_) (a' := ?_) #[tt, tt, tt, tt, tt, ff, ff, ff, ff, ff, ff, ff, ff, ff, ff, ff, ff, ff, ff, ff, ff, ff, ff, ff, ff, ff, ff, ff, ff, ff, ff, ff, ff, ff, ff, ff, ff] rfl rfl (by kernel_rfl) (hq71 (by decide)) (Or.inl ⟨by rfl, ?_⟩) ?_ ?_
  rotate_left
  · intro w'
    go_simp
    with_reducible rfl
  rotate_left
  · simp only [Act.put, sx1, sx2, sx3, i64_w, i32_w]
    rfl
  refine pure_ (i := 5) (N := some 16) (v := ?_) (a' := ?_) #[tt, tt, tt, tt, tt, tt, ff, ff, ff, ff, ff, ff, ff, ff, ff, ff, ff, ff, ff, ff, ff, ff, ff, ff, ff, ff, ff, ff, ff, ff, ff, ff, ff, ff, ff, ff, ff] rfl rfl (by kernel_rfl) (hq71 (by decide)) (Or.inl ⟨by rfl, ?_⟩) ?_ ?_
  rotate_left
  · intro w'
    go_simp
    with_reducible rfl
  rotate_left
  · simp only [Act.put, sx1, sx2, sx3, i64_w, i32_w]
    rfl
  refine take_ (i := 6) (N := some 17) (v := ?_) (a' := ?_) #[tt, tt, tt, tt, tt, tt, tt, ff, ff, ff, ff, ff, ff, ff, ff, ff, ff, ff, ff, ff, ff, ff, ff, ff, ff, ff, ff, ff, ff, ff, ff, ff, ff, ff, ff, ff, ff] rfl rfl (by kernel_rfl) (hq71 (by decide)) (Or.inl ⟨by rfl, ?_⟩) hHeld ?_ ?_
  rotate_left
  · rintro w' ⟨s0, s1, s2⟩
    go_simp
    with_reducible rfl
  rotate_left
  · simp only [Act.put, sx1, sx2, sx3, i64_w, i32_w]
    rfl
  refine pure_ (i := 7) (N := some 18) (v := ?_) (a' := ?_) #[tt, tt, tt, tt, tt, tt, tt, tt, ff, ff, ff, ff, ff, ff, ff, ff, ff, ff, ff, ff, ff, ff, ff, ff, ff, ff, ff, ff, ff, ff, ff, ff, ff, ff, ff, ff, ff] rfl rfl (by kernel_rfl) (hq71 (by decide)) (Or.inl ⟨by rfl, ?_⟩) ?_ ?_
  rotate_left
  · intro w'
    go_simp
    with_reducible rfl
  rotate_left
  · simp only [Act.put, sx1, sx2, sx3, i64_w, i32_w]
    rfl
  refine pure_ (i := 8) (N := some 19) (v := ?_) (a' := ?_) #[tt, tt, tt, tt, tt, tt, tt, tt, tt, ff, ff, ff, ff, ff, ff, ff, ff, ff, ff, ff, ff, ff, ff, ff, ff, ff, ff, ff, ff, ff, ff, ff, ff, ff, ff, ff, ff] rfl rfl (by kernel_rfl) (hq71 (by decide)) (Or.inl ⟨by rfl, ?_⟩) ?_ ?_
  rotate_left
  · intro w'
    go_simp
    with_reducible rfl
  rotate_left
  · simp only [Act.put, sx1, sx2, sx3, i64_w, i32_w]
    rfl
  refine pure_ (i := 9) (N := some 20) (v := ?_) (a' := ?_) #[tt, tt, tt, tt, tt, tt, tt, tt, tt, tt, ff, ff, ff, ff, ff, ff, ff, ff, ff, ff, ff, ff, ff, ff, ff, ff, ff, ff, ff, ff, ff, ff, ff, ff, ff, ff, ff] rfl rfl (by kernel_rfl) (hq71 (by decide)) (Or.inl ⟨by rfl, ?_⟩) ?_ ?_
  rotate_left
  · intro w'
    go_simp
    with_reducible rfl
  rotate_left
  · simp only [Act.put, sx1, sx2, sx3, i64_w, i32_w]
    rfl
  refine pure_ (i := 10) (N := some 21) (v := ?_) (a' := ?_) #[tt, tt, tt, tt, tt, tt, tt, tt, tt, tt, tt, ff, ff, ff, ff, ff, ff, ff, ff, ff, ff, ff, ff, ff, ff, ff, ff, ff, ff, ff, ff, ff, ff, ff, ff, ff, ff] rfl rfl (by kernel_rfl) (hq71 (by decide)) (Or.inl ⟨by rfl, ?_⟩) ?_ ?_
  rotate_left
  · intro w'
    go_simp
    with_reducible rfl
  rotate_left
  · simp only [Act.put, sx1, sx2, sx3, i64_w, i32_w]
    rfl
  refine pure_ (i := 11) (N := some 22) (v := ?_) (a' := ?_) #[tt, tt, tt, tt, tt, tt, tt, tt, tt, tt, tt, tt, ff, ff, ff, ff, ff, ff, ff, ff, ff, ff, ff, ff, ff, ff, ff, ff, ff, ff, ff, ff, ff, ff, ff, ff, ff] rfl rfl (by kernel_rfl) (hq71 (by decide)) (Or.inl ⟨by rfl, ?_⟩) ?_ ?_
  rotate_left
  · intro w'
    go_simp
    with_reducible rfl
  rotate_left
  · simp only [Act.put, sx1, sx2, sx3, i64_w, i32_w]
    rfl
  refine take_ (i := 12) (N := some 23) (v := ?_) (a' := ?_) #[tt, tt, tt, tt, tt, tt, tt, tt, tt, tt, tt, tt, tt, ff, ff, ff, ff, ff, ff, ff, ff, ff, ff, ff, ff, ff, ff, ff, ff, ff, ff, ff, ff, ff, ff, ff, ff] rfl rfl (by kernel_rfl) (hq71 (by decide)) (Or.inl ⟨by rfl, ?_⟩) hHeld ?_ ?_
  rotate_left
  · rintro w' ⟨s0, s1, s2⟩
    go_simp
    with_reducible rfl
  rotate_left
  · simp only [Act.put, sx1, sx2, sx3, i64_w, i32_w]
    rfl
  refine pure_ (i := 13) (N := some 24) (v := ?_) (a' := ?_) #[tt, tt, tt, tt, tt, tt, tt, tt, tt, tt, tt, tt, tt, tt, ff, ff, ff, ff, ff, ff, ff, ff, ff, ff, ff, ff, ff, ff, ff, ff, ff, ff, ff, ff, ff, ff, ff] rfl rfl (by kernel_rfl) (hq71 (by decide)) (Or.inl ⟨by rfl, ?_⟩) ?_ ?_
  rotate_left
  · intro w'
    go_simp
    with_reducible rfl
  rotate_left
  · simp only [Act.put, sx1, sx2, sx3, i64_w, i32_w]
    rfl
  refine pure_ (i := 14) (N := some 25) (v := ?_) (a' := ?_) #[tt, tt, tt, tt, tt, tt, tt, tt, tt, tt, tt, tt, tt, tt, tt, ff, ff, ff, ff, ff, ff, ff, ff, ff, ff, ff, ff, ff, ff, ff, ff, ff, ff, ff, ff, ff, ff] rfl rfl (by kernel_rfl) (hq71 (by decide)) (Or.inl ⟨by rfl, ?_⟩) ?_ ?_
  rotate_left
  · intro w'
    go_simp
    with_reducible rfl
  rotate_left
  · simp only [Act.put, sx1, sx2, sx3, i64_w, i32_w]
    rfl
  refine pure_ (i := 15) (N := some 26) (v := ?_) (a' := ?_) #[tt, tt, tt, tt, tt, tt, tt, tt, tt, tt, tt, tt, tt, tt, tt, tt, ff, ff, ff, ff, ff, ff, ff, ff, ff, ff, ff, ff, ff, ff, ff, ff, ff, ff, ff, ff, ff] rfl rfl (by kernel_rfl) (hq71 (by decide)) (Or.inl ⟨by rfl, ?_⟩) ?_ ?_
  rotate_left
  · intro w'
    go_simp
    with_reducible rfl
  rotate_left
  · simp only [Act.put, sx1, sx2, sx3, i64_w, i32_w]
    rfl
  refine pure_ (i := 16) (N := some 27) (v := ?_) (a' := ?_) #[tt, tt, tt, tt, tt, tt, tt, tt, tt, tt, tt, tt, tt, tt, tt, tt, tt, ff, ff, ff, ff, ff, ff, ff, ff, ff, ff, ff, ff, ff, ff, ff, ff, ff, ff, ff, ff] rfl rfl (by kernel_rfl) (hq71 (by decide)) (Or.inl ⟨by rfl, ?_⟩) ?_ ?_
  rotate_left
  · intro w'
    go_simp
    with_reducible rfl
  rotate_left
  · simp only [Act.put, sx1, sx2, sx3, i64_w, i32_w]
    rfl
  refine pure_ (i := 17) (N := some 28) (v := ?_) (a' := ?_) #[tt, tt, tt, tt, tt, tt, tt, tt, tt, tt, tt, tt, tt, tt, tt, tt, tt, tt, ff, ff, ff, ff, ff, ff, ff, ff, ff, ff, ff, ff, ff, ff, ff, ff, ff, ff, ff] rfl rfl (by kernel_rfl) (hq71 (by decide)) (Or.inl ⟨by rfl, ?_⟩) ?_ ?_
  rotate_left
  · intro w'
    go_simp
    with_reducible rfl
  rotate_left
  · simp only [Act.put, sx1, sx2, sx3, i64_w, i32_w]
    rfl
  refine take_ (i := 18) (N := some 29) (v := ?_) (a' := ?_) #[tt, tt, tt, tt, tt, tt, tt, tt, tt, tt, tt, tt, tt, tt, tt, tt, tt, tt, tt, ff, ff, ff, ff, ff, ff, ff, ff, ff, ff, ff, ff, ff, ff, ff, ff, ff, ff] rfl rfl (by kernel_rfl) (hq71 (by decide)) (Or.inl ⟨by rfl, ?_⟩) hHeld ?_ ?_
  rotate_left
  · rintro w' ⟨s0, s1, s2⟩
    go_simp
    with_reducible rfl
  rotate_left
  · simp only [Act.put, sx1, sx2, sx3, i64_w, i32_w]
    rfl
  refine pure_ (i := 19) (N := some 30) (v := ?_) (a' := ?_) #[tt, tt, tt, tt, tt, tt, tt, tt, tt, tt, tt, tt, tt, tt, tt, tt, tt, tt, tt, tt, ff, ff, ff, ff, ff, ff, ff, ff, ff, ff, ff, ff, ff, ff, ff, ff, ff] rfl rfl (by kernel_rfl) (hq71 (by decide)) (Or.inl ⟨by rfl, ?_⟩) ?_ ?_
  rotate_left
  · intro w'
    go_simp
    with_reducible rfl
  rotate_left
  · simp only [Act.put, sx1, sx2, sx3, i64_w, i32_w]
    rfl
  refine pure_ (i := 20) (N := some 31) (v := ?_) (a' := ?_) #[tt, tt, tt, tt, tt, tt, tt, tt, tt, tt, tt, tt, tt, tt, tt, tt, tt, tt, tt, tt, tt, ff, ff, ff, ff, ff, ff, ff, ff, ff, ff, ff, ff, ff, ff, ff, ff] rfl rfl (by kernel_rfl) (hq71 (by decide)) (Or.inl ⟨by rfl, ?_⟩) ?_ ?_
  rotate_left
  · intro w'
    go_simp
    with_reducible rfl
  rotate_left
  · simp only [Act.put, sx1, sx2, sx3, i64_w, i32_w]
    rfl
  refine pure_ (i := 21) (N := some 32) (v := ?_) (a' := ?_) #[tt, tt, tt, tt, tt, tt, tt, tt, tt, tt, tt, tt, tt, tt, tt, tt, tt, tt, tt, tt, tt, tt, ff, ff, ff, ff, ff, ff, ff, ff, ff, ff, ff, ff, ff, ff, ff] rfl rfl (by kernel_rfl) (hq71 (by decide)) (Or.inl ⟨by rfl, ?_⟩) ?_ ?_
  rotate_left
  · intro w'
    go_simp
    with_reducible rfl
  rotate_left
  · simp only [Act.put, sx1, sx2, sx3, i64_w, i32_w]
    rfl
  refine pure_ (i := 22) (N := some 33) (v := ?_) (a' := ?_) #[tt, tt, tt, tt, tt, tt, tt, tt, tt, tt, tt, tt, tt, tt, tt, tt, tt, tt, tt, tt, tt, tt, tt, ff, ff, ff, ff, ff, ff, ff, ff, ff, ff, ff, ff, ff, ff] rfl rfl (by kernel_rfl) (hq71 (by decide)) (Or.inl ⟨by rfl, ?_⟩) ?_ ?_
  rotate_left
  · intro w'
    go_simp
    with_reducible rfl
  rotate_left
  · simp only [Act.put, sx1, sx2, sx3, i64_w, i32_w]
    rfl
  refine pure_ (i := 23) (N := some 34) (v := ?_) (a' := ?_) #[tt, tt, tt, tt, tt, tt, tt, tt, tt, tt, tt, tt, tt, tt, tt, tt, tt, tt, tt, tt, tt, tt, tt, tt, ff, ff, ff, ff, ff, ff, ff, ff, ff, ff, ff, ff, ff] rfl rfl (by kernel_rfl) (hq71 (by decide)) (Or.inl ⟨by rfl, ?_⟩) ?_ ?_
  rotate_left
  · intro w'
    go_simp
    with_reducible rfl
  rotate_left
  · simp only [Act.put, sx1, sx2, sx3, i64_w, i32_w]
    rfl
  refine pure_ (i := 25) (N := some 36) (v := ?_) (a' := ?_) #[tt, tt, tt, tt, tt, tt, tt, tt, tt, tt, tt, tt, tt, tt, tt, tt, tt, tt, tt, tt, tt, tt, tt, tt, ff, tt, ff, ff, ff, ff, ff, ff, ff, ff, ff, ff, ff] rfl rfl (by kernel_rfl) (hq71 (by decide)) (Or.inl ⟨by rfl, ?_⟩) ?_ ?_
  rotate_left
  · intro w'
    go_simp
    with_reducible rfl
  rotate_left
  · simp only [Act.put, sx1, sx2, sx3, i64_w, i32_w]
    rfl
  refine one_ (i := 24) (N := some 35) #[tt, tt, tt, tt, tt, tt, tt, tt, tt, tt, tt, tt, tt, tt, tt, tt, tt, tt, tt, tt, tt, tt, tt, tt, tt, tt, ff, ff, ff, ff, ff, ff, ff, ff, ff, ff, ff] rfl rfl (by kernel_rfl) (by decide) (fun K hK => ?_)
  refine goes_ Try.func83 (by kernel_rfl) rfl #[.slice A4 (n - 4) (c - 4)] (by rfl) rfl rfl (by simp only [List.map_toArray, List.map_cons, List.map_nil]; rfl) ?_
  with_reducible refine (four_N A4 (n - 4) (c - 4) (l.drop 4) sq _ (by rw [List.length_drop, HN.out]) (Nat.sub_le_sub_right HCC.out 4) (Kd.C_below HC4.out HD.out) H4.out).mono ?_
  rintro e u1 ⟨rfl, hb⟩
  refine ⟨_, rfl, ?_⟩
  have HU1 := Aside0.mk hb
  have HV1 := Aside0.mk (below_step HD.out hb)
  clear hb
  refine hK.out _ _ ⟨pw_cell_below HU1.out HB0.out, pw_cell_below HU1.out HB1.out, pw_cell_below HU1.out HB3.out⟩ (fun hHeld => ?_)
  clear hK K
  refine norm_ (a' := ?_) ?_ ?_
  rotate_left
  · show Act.put _ (some 35) _ = _
    simp only [Act.put, sx1, sx2, sx3, i64_w, i32_w]
    rfl
  refine pure_ (i := 26) (N := some 37) (v := ?_) (a' := ?_) #[tt, tt, tt, tt, tt, tt, tt, tt, tt, tt, tt, tt, tt, tt, tt, tt, tt, tt, tt, tt, tt, tt, tt, tt, tt, tt, tt, ff, ff, ff, ff, ff, ff, ff, ff, ff, ff] rfl rfl (by kernel_rfl) (hq71 (by decide)) (Or.inl ⟨by rfl, ?_⟩) ?_ ?_
  rotate_left
  · intro w'
    go_simp
    with_reducible rfl
  rotate_left
  · simp only [Act.put, sx1, sx2, sx3, i64_w, i32_w]
    rfl
  refine pure_ (i := 27) (N := some 38) (v := ?_) (a' := ?_) #[tt, tt, tt, tt, tt, tt, tt, tt, tt, tt, tt, tt, tt, tt, tt, tt, tt, tt, tt, tt, tt, tt, tt, tt, tt, tt, tt, tt, ff, ff, ff, ff, ff, ff, ff, ff, ff] rfl rfl (by kernel_rfl) (hq71 (by decide)) (Or.inl ⟨by rfl, ?_⟩) ?_ ?_
  rotate_left
  · intro w'
    go_simp
    with_reducible rfl
  rotate_left
  · simp only [Act.put, sx1, sx2, sx3, i64_w, i32_w]
    rfl
  refine pure_ (i := 28) (N := some 39) (v := ?_) (a' := ?_) #[tt, tt, tt, tt, tt, tt, tt, tt, tt, tt, tt, tt, tt, tt, tt, tt, tt, tt, tt, tt, tt, tt, tt, tt, tt, tt, tt, tt, tt, ff, ff, ff, ff, ff, ff, ff, ff] rfl rfl (by kernel_rfl) (hq71 (by decide)) (Or.inl ⟨by rfl, ?_⟩) ?_ ?_
  rotate_left
  · intro w'
    go_simp
    with_reducible rfl
  rotate_left
  · simp only [Act.put, sx1, sx2, sx3, i64_w, i32_w]
    rfl
  refine pure_ (i := 29) (N := some 40) (v := ?_) (a' := ?_) #[tt, tt, tt, tt, tt, tt, tt, tt, tt, tt, tt, tt, tt, tt, tt, tt, tt, tt, tt, tt, tt, tt, tt, tt, tt, tt, tt, tt, tt, tt, ff, ff, ff, ff, ff, ff, ff] rfl rfl (by kernel_rfl) (hq71 (by decide)) (Or.inl ⟨by rfl, ?_⟩) ?_ ?_
  rotate_left
  · intro w'
    go_simp
    with_reducible rfl
  rotate_left
  · simp only [Act.put, sx1, sx2, sx3, i64_w, i32_w]
    rfl
  refine pure_ (i := 30) (N := some 41) (v := ?_) (a' := ?_) #[tt, tt, tt, tt, tt, tt, tt, tt, tt, tt, tt, tt, tt, tt, tt, tt, tt, tt, tt, tt, tt, tt, tt, tt, tt, tt, tt, tt, tt, tt, tt, ff, ff, ff, ff, ff, ff] rfl rfl (by kernel_rfl) (hq71 (by decide)) (Or.inl ⟨by rfl, ?_⟩) ?_ ?_
  rotate_left
  · intro w'
    go_simp
    with_reducible rfl
  rotate_left
  · simp only [Act.put, sx1, sx2, sx3, i64_w, i32_w]
    rfl
  refine pure_ (i := 32) (N := some 43) (v := ?_) (a' := ?_) #[tt, tt, tt, tt, tt, tt, tt, tt, tt, tt, tt, tt, tt, tt, tt, tt, tt, tt, tt, tt, tt, tt, tt, tt, tt, tt, tt, tt, tt, tt, tt, ff, tt, ff, ff, ff, ff] rfl rfl (by kernel_rfl) (hq71 (by decide)) (Or.inl ⟨by rfl, ?_⟩) ?_ ?_
  rotate_left
  · intro w'
    go_simp
    with_reducible rfl
  rotate_left
  · simp only [Act.put, sx1, sx2, sx3, i64_w, i32_w]
    rfl
  refine pure_ (i := 33) (N := some 44) (v := ?_) (a' := ?_) #[tt, tt, tt, tt, tt, tt, tt, tt, tt, tt, tt, tt, tt, tt, tt, tt, tt, tt, tt, tt, tt, tt, tt, tt, tt, tt, tt, tt, tt, tt, tt, ff, tt, tt, ff, ff, ff] rfl rfl (by kernel_rfl) (hq71 (by decide)) (Or.inl ⟨by rfl, ?_⟩) ?_ ?_
  rotate_left
  · intro w'
    go_simp
    with_reducible rfl
  rotate_left
  · simp only [Act.put, sx1, sx2, sx3, i64_w, i32_w]
    rfl
  refine one_ (i := 31) (N := some 42) #[tt, tt, tt, tt, tt, tt, tt, tt, tt, tt, tt, tt, tt, tt, tt, tt, tt, tt, tt, tt, tt, tt, tt, tt, tt, tt, tt, tt, tt, tt, tt, tt, tt, tt, ff, ff, ff] rfl rfl (by kernel_rfl) (by decide) (fun K hK => ?_)
  refine goes_ Try.func83 (by kernel_rfl) rfl #[.slice A12 (n - 12) (c - 12)] (by rfl) rfl rfl (by simp only [List.map_toArray, List.map_cons, List.map_nil]; rfl) ?_
  with_reducible refine (four_N A12 (n - 12) (c - 12) (l.drop 12) _ _ (by rw [List.length_drop, HN.out]) (Nat.sub_le_sub_right HCC.out 12) (Kd.C_below HC12.out HV1.out) H12.out).mono ?_
  rintro e u2 ⟨rfl, hb⟩
  refine ⟨_, rfl, ?_⟩
  have HU2 := Aside0.mk (below_step HU1.out hb)
  have HV2 := Aside0.mk (below_step HV1.out hb)
  clear hb
  refine hK.out _ _ ⟨pw_cell_below HU2.out HB0.out, pw_cell_below HU2.out HB1.out, pw_cell_below HU2.out HB3.out⟩ (fun hHeld => ?_)
  clear hK K
  refine norm_ (a' := ?_) ?_ ?_
  rotate_left
  · show Act.put _ (some 42) _ = _
    simp only [Act.put, sx1, sx2, sx3, i64_w, i32_w]
    rfl
  refine one_ (i := 34) (N := some 45) #[tt, tt, tt, tt, tt, tt, tt, tt, tt, tt, tt, tt, tt, tt, tt, tt, tt, tt, tt, tt, tt, tt, tt, tt, tt, tt, tt, tt, tt, tt, tt, tt, tt, tt, tt, ff, ff] rfl rfl (by kernel_rfl) (by decide) (fun K hK => ?_)
  refine goes_ Try.func33 (by kernel_rfl) rfl #[.slice (some ad) 12 c] (by rfl) rfl rfl (by simp only [List.map_toArray, List.map_cons, List.map_nil]; rfl) ?_
  with_reducible refine (sum_N (some ad) 12 c (l.take 12) _ (by rw [List.length_take, HN.out]; have := H20.out; omega) (by have := H20.out; have := HCC.out; omega) (Kd.C_below HCT.out HV2.out) (bytesOk_take HOK.out 12)).mono ?_
  rintro e u3 ⟨rfl, hb⟩
  refine ⟨_, rfl, ?_⟩
  have HU3 := Aside0.mk (below_step HU2.out hb)
  have HV3 := Aside0.mk (below_step HV2.out hb)
  clear hb
  refine hK.out _ _ ⟨pw_cell_below HU3.out HB0.out, pw_cell_below HU3.out HB1.out, pw_cell_below HU3.out HB3.out⟩ (fun hHeld => ?_)
  clear hK K
  refine norm_ (a' := ?_) ?_ ?_
  rotate_left
  · show Act.put _ (some 45) _ = _
    simp only [Act.put, sx1, sx2, sx3, i64_w, i32_w]
    rfl
  refine pure_ (i := 35) (N := some 46) (v := ?_) (a' := ?_) #[tt, tt, tt, tt, tt, tt, tt, tt, tt, tt, tt, tt, tt, tt, tt, tt, tt, tt, tt, tt, tt, tt, tt, tt, tt, tt, tt, tt, tt, tt, tt, tt, tt, tt, tt, tt, ff] rfl rfl (by kernel_rfl) (hq71 (by decide)) (Or.inl ⟨by rfl, ?_⟩) ?_ ?_
  rotate_left
  · intro w'
    go_simp
    with_reducible rfl
  rotate_left
  · simp only [Act.put, sx1, sx2, sx3, i64_w, i32_w]
    rfl
  refine pure_ (i := 36) (N := some 47) (v := ?_) (a' := ?_) #[tt, tt, tt, tt, tt, tt, tt, tt, tt, tt, tt, tt, tt, tt, tt, tt, tt, tt, tt, tt, tt, tt, tt, tt, tt, tt, tt, tt, tt, tt, tt, tt, tt, tt, tt, tt, tt] rfl rfl (by kernel_rfl) (hq71 (by decide)) (Or.inl ⟨by rfl, ?_⟩) ?_ ?_
  rotate_left
  · intro w'
    go_simp
    with_reducible rfl
  rotate_left
  · simp only [Act.put, sx1, sx2, sx3, i64_w, i32_w]
    rfl
  refine done_ (by kernel_rfl) ?_
  obtain ⟨A16, hc16, hC16⟩ := cutf8 (A := some ad) (n := n) (c := c) (xs := l) (16 + m) (by have := H20.out; omega) HCC.out
  obtain ⟨ht16, hCt16⟩ := cutt8 (A := some ad) (n := n) (c := c) (xs := l) (16 + m) (by have := H20.out; omega) HCC.out
  obtain ⟨AM, hm16, hCm16⟩ := cutm8 (A := some ad) (n := n) (c := c) (xs := l) 16 (16 + m) (by omega) (by have := H20.out; omega) HCC.out
  have em : 16 + m - 16 = m := by omega
  rw [em] at hCm16
  have ecast : (((16 + m : Nat) : Int)) = 16 + (m : Int) := by omega
  have HC16 := Aside0.mk (hC16 w HC.out)
  have HCT16 := Aside0.mk (hCt16 w HC.out)
  have HCM := Aside0.mk (hCm16 w HC.out)
  replace hc16 : ∀ (W : World), (Instr.slice 29 (.slice (some ad) n c) (some (.int .i64 (16 + (m : Int)))) none none).run Try.prog W = .ok (.slice A16 (n - (16 + m)) (c - (16 + m))) W := fun W => by have := hc16 W; rwa [ecast] at this
  replace ht16 : ∀ (W : World), (Instr.slice 29 (.slice (some ad) n c) none (some (.int .i64 (16 + (m : Int)))) none).run Try.prog W = .ok (.slice (some ad) (16 + m) c) W := fun W => by have := ht16 W; rwa [ecast] at this
  replace hm16 : ∀ (W : World), (Instr.slice 29 (.slice (some ad) n c) (some (.int .i64 16)) (some (.int .i64 (16 + (m : Int)))) none).run Try.prog W = .ok (.slice AM m (c - 16)) W := fun W => by have := hm16 W; rw [ecast, em] at this; exact this
  clear em ecast hC16 hCt16 hCm16 hc4 hc12 ht12 hd20 hd21 c0 c1 c3
  have HP4 := Aside0.mk ((HU3.out.block p4 (blk_lt HP4.out)).trans HP4.out)
  have HP5 := Aside0.mk ((HU3.out.block p5 (blk_lt HP5.out)).trans HP5.out)
  have HP6 := Aside0.mk ((HU3.out.block p6 (blk_lt HP6.out)).trans HP6.out)
  clear HU1 HU2 HU3 HV1 HV2 HB HB0 HB1 HB3 hHeld HD
  go_wp2_with fail
  refine (four_N A8 (n - 8) (c - 8) (l.drop 8) (m : Int) _ (by rw [List.length_drop, HN.out]) (Nat.sub_le_sub_right HCC.out 8) (Kd.C_below HC8.out HV3.out) H8.out).mono ?_
  rintro e4 u4 ⟨rfl, hb⟩
  have HV4 := Aside0.mk (below_step HV3.out hb)
  have HP4 := Aside0.mk ((hb.block p4 (blk_lt HP4.out)).trans HP4.out)
  have HP5 := Aside0.mk ((hb.block p5 (blk_lt HP5.out)).trans HP5.out)
  have HP6 := Aside0.mk ((hb.block p6 (blk_lt HP6.out)).trans HP6.out)
  clear hb HV3 hc8
  have hmo : (n : Int) ≤ 1000000000000 := by have := HM.out; omega
  have hm0 : (m : Int) ≤ 1000000000000 := by have := HM.out; have := H20.out; omega
  have hq5 : decide ((n : Int) - 20 < (m : Int)) = false := decide_eq_false (by have := H20.out; omega)
  go_wp2_with fail
  have HQ2 := Aside0.mk (pw_cell_below (below_drew1 HV4.out) HB2.out)
  have HD := Aside0.mk (below_drew1 HV4.out)
  have c2 := HQ2.out
  have hw20 := wr_sub20 (n := n) (by have := H20.out; omega) HM.out
  have hw16 := wr_add16 (n := m) (by have := H20.out; have := HM.out; omega)
  refine start_ (n := 18) (S := fun w' => w'.cell? ⟨ad.block, ad.off + 2, none⟩ = some (.int .u8 kd)) (ds := []) #[ff, ff, ff, ff, ff, ff, ff, ff, ff, ff, ff, ff, ff, ff, ff, ff, ff, ff] (by kernel_rfl) rfl rfl (c2) (fun hHeld => ?_)
  refine pure_ (i := 0) (N := some 52) (v := ?_) (a' := ?_) #[tt, ff, ff, ff, ff, ff, ff, ff, ff, ff, ff, ff, ff, ff, ff, ff, ff, ff] rfl rfl (by kernel_rfl) (hq71 (by decide)) (Or.inl ⟨by rfl, ?_⟩) ?_ ?_
  rotate_left
  · intro w'
    go_simp
    with_reducible rfl
  rotate_left
  · simp only [Act.put, sx1, sx2, sx3, i64_w, i32_w]
    rfl
  refine pure_ (i := 1) (N := some 53) (v := ?_) (a' := ?_) #[tt, tt, ff, ff, ff, ff, ff, ff, ff, ff, ff, ff, ff, ff, ff, ff, ff, ff] rfl rfl (by kernel_rfl) (hq71 (by decide)) (Or.inl ⟨by rfl, ?_⟩) ?_ ?_
  rotate_left
  · intro w'
    go_simp
    with_reducible rfl
  rotate_left
  · simp only [Act.put, sx1, sx2, sx3, i64_w, i32_w]
    rfl
  refine pure_ (i := 2) (N := some 54) (v := ?_) (a' := ?_) #[tt, tt, tt, ff, ff, ff, ff, ff, ff, ff, ff, ff, ff, ff, ff, ff, ff, ff] rfl rfl (by kernel_rfl) (hq71 (by decide)) (Or.inl ⟨by rfl, ?_⟩) ?_ ?_
  rotate_left
  · intro w'
    go_simp
    with_reducible rfl
  rotate_left
  · simp only [Act.put, sx1, sx2, sx3, i64_w, i32_w]
    rfl
  refine pure_ (i := 3) (N := some 55) (v := ?_) (a' := ?_) #[tt, tt, tt, tt, ff, ff, ff, ff, ff, ff, ff, ff, ff, ff, ff, ff, ff, ff] rfl rfl (by kernel_rfl) (hq71 (by decide)) (Or.inl ⟨by rfl, ?_⟩) ?_ ?_
  rotate_left
  · intro w'
    go_simp
    with_reducible rfl
  rotate_left
  · simp only [Act.put, sx1, sx2, sx3, i64_w, i32_w]
    rfl
  refine pure_ (i := 4) (N := some 56) (v := ?_) (a' := ?_) #[tt, tt, tt, tt, tt, ff, ff, ff, ff, ff, ff, ff, ff, ff, ff, ff, ff, ff] rfl rfl (by kernel_rfl) (hq71 (by decide)) (Or.inl ⟨by rfl, ?_⟩) ?_ ?_
  rotate_left
  · intro w'
    go_simp
    with_reducible rfl
  rotate_left
  · simp only [Act.put, sx1, sx2, sx3, i64_w, i32_w]
    rfl
  refine pure_ (i := 5) (N := some 57) (v := ?_) (a' := ?_) #[tt, tt, tt, tt, tt, tt, ff, ff, ff, ff, ff, ff, ff, ff, ff, ff, ff, ff] rfl rfl (by kernel_rfl) (hq71 (by decide)) (Or.inl ⟨by rfl, ?_⟩) ?_ ?_
  rotate_left
  · intro w'
    go_simp
    with_reducible rfl
  rotate_left
  · simp only [Act.put, sx1, sx2, sx3, i64_w, i32_w]
    rfl
  refine pure_ (i := 6) (N := some 58) (v := ?_) (a' := ?_) #[tt, tt, tt, tt, tt, tt, tt, ff, ff, ff, ff, ff, ff, ff, ff, ff, ff, ff] rfl rfl (by kernel_rfl) (hq71 (by decide)) (Or.inl ⟨by rfl, ?_⟩) ?_ ?_
  rotate_left
  · intro w'
    go_simp
    with_reducible rfl
  rotate_left
  · simp only [Act.put, sx1, sx2, sx3, i64_w, i32_w]
    rfl
  refine pure_ (i := 7) (N := some 59) (v := ?_) (a' := ?_) #[tt, tt, tt, tt, tt, tt, tt, tt, ff, ff, ff, ff, ff, ff, ff, ff, ff, ff] rfl rfl (by kernel_rfl) (hq71 (by decide)) (Or.inl ⟨by rfl, ?_⟩) ?_ ?_
  rotate_left
  · intro w'
    go_simp
    with_reducible rfl
  rotate_left
  · simp only [Act.put, sx1, sx2, sx3, i64_w, i32_w]
    rfl
  refine pure_ (i := 8) (N := some 60) (v := ?_) (a' := ?_) #[tt, tt, tt, tt, tt, tt, tt, tt, tt, ff, ff, ff, ff, ff, ff, ff, ff, ff] rfl rfl (by kernel_rfl) (hq71 (by decide)) (Or.inl ⟨by rfl, ?_⟩) ?_ ?_
  rotate_left
  · intro w'
    go_simp
    with_reducible rfl
  rotate_left
  · simp only [Act.put, sx1, sx2, sx3, i64_w, i32_w]
    rfl
  refine pure_ (i := 9) (N := some 61) (v := ?_) (a' := ?_) #[tt, tt, tt, tt, tt, tt, tt, tt, tt, tt, ff, ff, ff, ff, ff, ff, ff, ff] rfl rfl (by kernel_rfl) (hq71 (by decide)) (Or.inl ⟨by rfl, ?_⟩) ?_ ?_
  rotate_left
  · intro w'
    go_simp
    with_reducible rfl
  rotate_left
  · simp only [Act.put, sx1, sx2, sx3, i64_w, i32_w]
    rfl
  refine pure_ (i := 11) (N := some 63) (v := ?_) (a' := ?_) #[tt, tt, tt, tt, tt, tt, tt, tt, tt, tt, ff, tt, ff, ff, ff, ff, ff, ff] rfl rfl (by kernel_rfl) (hq71 (by decide)) (Or.inl ⟨by rfl, ?_⟩) ?_ ?_
  rotate_left
  · intro w'
    go_simp
    with_reducible rfl
  rotate_left
  · simp only [Act.put, sx1, sx2, sx3, i64_w, i32_w]
    rfl
  refine pure_ (i := 12) (N := some 64) (v := ?_) (a' := ?_) #[tt, tt, tt, tt, tt, tt, tt, tt, tt, tt, ff, tt, tt, ff, ff, ff, ff, ff] rfl rfl (by kernel_rfl) (hq71 (by decide)) (Or.inl ⟨by rfl, ?_⟩) ?_ ?_
  rotate_left
  · intro w'
    go_simp
    with_reducible rfl
  rotate_left
  · simp only [Act.put, sx1, sx2, sx3, i64_w, i32_w]
    rfl
  refine pure_ (i := 13) (N := some 65) (v := ?_) (a' := ?_) #[tt, tt, tt, tt, tt, tt, tt, tt, tt, tt, ff, tt, tt, tt, ff, ff, ff, ff] rfl rfl (by kernel_rfl) (hq71 (by decide)) (Or.inl ⟨by rfl, ?_⟩) ?_ ?_
  rotate_left
  · intro w'
    go_simp
    with_reducible rfl
  rotate_left
  · simp only [Act.put, sx1, sx2, sx3, i64_w, i32_w]
    rfl
  refine pure_ (i := 14) (N := some 66) (v := ?_) (a' := ?_) #[tt, tt, tt, tt, tt, tt, tt, tt, tt, tt, ff, tt, tt, tt, tt, ff, ff, ff] rfl rfl (by kernel_rfl) (hq71 (by decide)) (Or.inl ⟨by rfl, ?_⟩) ?_ ?_
  rotate_left
  · intro w'
    go_simp
    with_reducible rfl
  rotate_left
  · simp only [Act.put, sx1, sx2, sx3, i64_w, i32_w]
    rfl
  refine one_ (i := 10) (N := some 62) #[tt, tt, tt, tt, tt, tt, tt, tt, tt, tt, tt, tt, tt, tt, tt, ff, ff, ff] rfl rfl (by kernel_rfl) (by decide) (fun K hK => ?_)
  refine goes_ Try.func83 (by kernel_rfl) rfl #[.slice A16 (n - (16 + m)) (c - (16 + m))] (by rfl) rfl rfl (by simp only [List.map_toArray, List.map_cons, List.map_nil]; rfl) ?_
  with_reducible refine (four_N A16 (n - (16 + m)) (c - (16 + m)) (l.drop (16 + m)) _ _ (by rw [List.length_drop, HN.out]) (Nat.sub_le_sub_right HCC.out _) (Kd.C_below HC16.out HD.out) H16.out).mono ?_
  rintro e u5 ⟨rfl, hb⟩
  refine ⟨_, rfl, ?_⟩
  have HU5 := Aside0.mk hb
  have HV5 := Aside0.mk (below_step HD.out hb)
  clear hb
  refine hK.out _ _ (pw_cell_below HU5.out HQ2.out) (fun hHeld => ?_)
  clear hK K
  refine norm_ (a' := ?_) ?_ ?_
  rotate_left
  · show Act.put _ (some 62) _ = _
    simp only [Act.put, sx1, sx2, sx3, i64_w, i32_w]
    rfl
  refine one_ (i := 15) (N := some 67) #[tt, tt, tt, tt, tt, tt, tt, tt, tt, tt, tt, tt, tt, tt, tt, tt, ff, ff] rfl rfl (by kernel_rfl) (by decide) (fun K hK => ?_)
  refine goes_ Try.func33 (by kernel_rfl) rfl #[.slice (some ad) (16 + m) c] (by rfl) rfl rfl (by simp only [List.map_toArray, List.map_cons, List.map_nil]; rfl) ?_
  with_reducible refine (sum_N (some ad) (16 + m) c (l.take (16 + m)) _ (by rw [List.length_take, HN.out]; have := H20.out; omega) (by have := H20.out; have := HCC.out; omega) (Kd.C_below HCT16.out HV5.out) (bytesOk_take HOK.out _)).mono ?_
  rintro e u6 ⟨rfl, hb⟩
  refine ⟨_, rfl, ?_⟩
  have HU6 := Aside0.mk (below_step HU5.out hb)
  have HV6 := Aside0.mk (below_step HV5.out hb)
  clear hb
  refine hK.out _ _ (pw_cell_below HU6.out HQ2.out) (fun hHeld => ?_)
  clear hK K
  refine norm_ (a' := ?_) ?_ ?_
  rotate_left
  · show Act.put _ (some 67) _ = _
    simp only [Act.put, sx1, sx2, sx3, i64_w, i32_w]
    rfl
  refine pure_ (i := 16) (N := some 68) (v := ?_) (a' := ?_) #[tt, tt, tt, tt, tt, tt, tt, tt, tt, tt, tt, tt, tt, tt, tt, tt, tt, ff] rfl rfl (by kernel_rfl) (hq71 (by decide)) (Or.inl ⟨by rfl, ?_⟩) ?_ ?_
  rotate_left
  · intro w'
    go_simp
    with_reducible rfl
  rotate_left
  · simp only [Act.put, sx1, sx2, sx3, i64_w, i32_w]
    rfl
  refine pure_ (i := 17) (N := some 69) (v := ?_) (a' := ?_) #[tt, tt, tt, tt, tt, tt, tt, tt, tt, tt, tt, tt, tt, tt, tt, tt, tt, tt] rfl rfl (by kernel_rfl) (hq71 (by decide)) (Or.inl ⟨by rfl, ?_⟩) ?_ ?_
  rotate_left
  · intro w'
    go_simp
    with_reducible rfl
  rotate_left
  · simp only [Act.put, sx1, sx2, sx3, i64_w, i32_w]
    rfl
  refine done_ (by kernel_rfl) ?_
  have HP4 := Aside0.mk ((HU6.out.block p4 (blk_lt HP4.out)).trans HP4.out)
  have HP5 := Aside0.mk ((HU6.out.block p5 (blk_lt HP5.out)).trans HP5.out)
  have HP6 := Aside0.mk ((HU6.out.block p6 (blk_lt HP6.out)).trans HP6.out)
  clear HU5 HU6 HV5 HD hHeld hc16 ht16 hq5 c2 HQ2 HV4
  go_wp2_with fail
  have HQ2 := Aside0.mk (pw_cell_below (below_drew1 HV6.out) HB2.out)
  have HD := Aside0.mk (below_drew1 HV6.out)
  have c2 := HQ2.out
  have hkd := HKD.out
  refine start_ (n := 12) (S := fun w' => w'.cell? ⟨ad.block, ad.off + 2, none⟩ = some (.int .u8 kd)) (ds := [11]) #[ff, ff, ff, ff, ff, ff, ff, ff, ff, ff, ff, ff] (by kernel_rfl) rfl rfl (c2) (fun hHeld => ?_)
  refine pure_ (i := 0) (N := some 71) (v := ?_) (a' := ?_) #[tt, ff, ff, ff, ff, ff, ff, ff, ff, ff, ff, ff] rfl rfl (by kernel_rfl) (hq71a (by decide)) (Or.inl ⟨by rfl, ?_⟩) ?_ ?_
  rotate_left
  · intro w'
    go_simp
    with_reducible rfl
  rotate_left
  · simp only [Act.put, sx1, sx2, sx3, i64_w, i32_w]
    rfl
  refine pure_ (i := 1) (N := some 72) (v := ?_) (a' := ?_) #[tt, tt, ff, ff, ff, ff, ff, ff, ff, ff, ff, ff] rfl rfl (by kernel_rfl) (hq71a (by decide)) (Or.inl ⟨by rfl, ?_⟩) ?_ ?_
  rotate_left
  · intro w'
    go_simp
    with_reducible rfl
  rotate_left
  · simp only [Act.put, sx1, sx2, sx3, i64_w, i32_w]
    rfl
  refine pure_ (i := 2) (N := some 73) (v := ?_) (a' := ?_) #[tt, tt, tt, ff, ff, ff, ff, ff, ff, ff, ff, ff] rfl rfl (by kernel_rfl) (hq71a (by decide)) (Or.inl ⟨by rfl, ?_⟩) ?_ ?_
  rotate_left
  · intro w'
    go_simp
    with_reducible rfl
  rotate_left
  · simp only [Act.put, sx1, sx2, sx3, i64_w, i32_w]
    rfl
  refine pure_ (i := 3) (N := some 74) (v := ?_) (a' := ?_) #[tt, tt, tt, tt, ff, ff, ff, ff, ff, ff, ff, ff] rfl rfl (by kernel_rfl) (hq71a (by decide)) (Or.inl ⟨by rfl, ?_⟩) ?_ ?_
  rotate_left
  · intro w'
    go_simp
    with_reducible rfl
  rotate_left
  · simp only [Act.put, sx1, sx2, sx3, i64_w, i32_w]
    rfl
  refine pure_ (i := 4) (N := some 75) (v := ?_) (a' := ?_) #[tt, tt, tt, tt, tt, ff, ff, ff, ff, ff, ff, ff] rfl rfl (by kernel_rfl) (hq71a (by decide)) (Or.inl ⟨by rfl, ?_⟩) ?_ ?_
  rotate_left
  · intro w'
    go_simp
    with_reducible rfl
  rotate_left
  · simp only [Act.put, sx1, sx2, sx3, i64_w, i32_w]
    rfl
  refine pure_ (i := 6) (N := some 77) (v := ?_) (a' := ?_) #[tt, tt, tt, tt, tt, ff, tt, ff, ff, ff, ff, ff] rfl rfl (by kernel_rfl) (hq71a (by decide)) (Or.inl ⟨by rfl, ?_⟩) ?_ ?_
  rotate_left
  · intro w'
    go_simp
    with_reducible rfl
  rotate_left
  · simp only [Act.put, sx1, sx2, sx3, i64_w, i32_w]
    rfl
  refine pure_ (i := 7) (N := some 78) (v := ?_) (a' := ?_) #[tt, tt, tt, tt, tt, ff, tt, tt, ff, ff, ff, ff] rfl rfl (by kernel_rfl) (hq71a (by decide)) (Or.inl ⟨by rfl, ?_⟩) ?_ ?_
  rotate_left
  · intro w'
    go_simp
    with_reducible rfl
  rotate_left
  · simp only [Act.put, sx1, sx2, sx3, i64_w, i32_w]
    rfl
  refine take_ (i := 8) (N := some 79) (v := ?_) (a' := ?_) #[tt, tt, tt, tt, tt, ff, tt, tt, tt, ff, ff, ff] rfl rfl (by kernel_rfl) (hq71a (by decide)) (Or.inl ⟨by rfl, ?_⟩) hHeld ?_ ?_
  rotate_left
  · intro w' s0
    go_simp
    with_reducible rfl
  rotate_left
  · simp only [Act.put, sx1, sx2, sx3, i64_w, i32_w]
    rfl
  refine pure_ (i := 9) (N := some 80) (v := ?_) (a' := ?_) #[tt, tt, tt, tt, tt, ff, tt, tt, tt, tt, ff, ff] rfl rfl (by kernel_rfl) (hq71a (by decide)) (Or.inl ⟨by rfl, ?_⟩) ?_ ?_
  rotate_left
  · intro w'
    go_simp
    with_reducible rfl
  rotate_left
  · simp only [Act.put, sx1, sx2, sx3, i64_w, i32_w]
    rfl
  refine one_ (i := 5) (N := some 76) #[tt, tt, tt, tt, tt, tt, tt, tt, tt, tt, ff, ff] rfl rfl (by kernel_rfl) (by decide) (fun K hK => ?_)
  refine value_ (w1 := ?_) (v := ?_) (by rfl) rfl ?_ ?_
  rotate_left 2
  · go_simp
    constructor
    · rfl
    · rfl
  obtain ⟨rb, hrb⟩ : ∃ rb, rb = u6.heap.size := ⟨_, rfl⟩
  obtain ⟨u7, hu7⟩ : ∃ u7, u7 = (u6.alloc (.cells #[.slice AM m (c - 16), .int .i64 0] 147)).drew := ⟨_, rfl⟩
  rw [← hu7, ← hrb]
  have HU7 := Aside0.mk (show Below u6.heap.size u6 u7 by rw [hu7]; exact below_drew1 (below_alloc (Below.refl _ _) _))
  have HV7 := Aside0.mk (below_step HV6.out HU7.out)
  have HRB := Aside0.mk (show u7.heap[rb]? = some (.cells #[.slice AM m (c - 16), .int .i64 0] 147 (0, 0)) by rw [hu7, hrb]; exact heap_alloc_new u6 _)
  have HRW := Aside0.mk (show w.heap.size ≤ rb by rw [hrb]; exact HV6.out.size)
  have HRN := Aside0.mk (show p4 ≠ rb ∧ p5 ≠ rb ∧ p6 ≠ rb by have := blk_lt HP4.out; have := blk_lt HP5.out; have := blk_lt HP6.out; omega)
  have HP4 := Aside0.mk ((HU7.out.block p4 (blk_lt HP4.out)).trans HP4.out)
  have HP5 := Aside0.mk ((HU7.out.block p5 (blk_lt HP5.out)).trans HP5.out)
  have HP6 := Aside0.mk ((HU7.out.block p6 (blk_lt HP6.out)).trans HP6.out)
  clear hrb hu7
  refine hK.out _ _ (pw_cell_below HV7.out HB2.out) (fun hHeld => ?_)
  clear hK K
  refine norm_ (a' := ?_) ?_ ?_
  rotate_left
  · show Act.put _ (some 76) _ = _
    simp only [Act.put, sx1, sx2, sx3, i64_w, i32_w]
    rfl
  refine one_ (i := 10) (N := some 81) #[tt, tt, tt, tt, tt, tt, tt, tt, tt, tt, tt, ff] rfl rfl (by kernel_rfl) (by decide) (fun K hK => ?_)
  refine goes_ Try.func84 (by kernel_rfl) rfl #[.pointer (some ⟨rb, 0, none⟩), .int .i64 (wrap64 kd)] (by rfl) rfl rfl (by simp only [List.map_toArray, List.map_cons, List.map_nil]; rfl) ?_
  rw [HKD.out]
  with_reducible refine (HREC.out u7 rb AM (c - 16) HV7.out HRW.out (by have := HCC.out; have := H20.out; omega) HRB.out HCM.out).mono ?_
  rintro e u8 ⟨B, nb, cb, rfl, hl2, hr2, hb⟩
  refine ⟨_, rfl, ?_⟩
  have HL2 := Aside0.mk hl2
  have HR2 := Aside0.mk (Kd.R_lower hr2 HV7.out.size)
  have HV8 := Aside0.mk (below_frm HV7.out hb (N := w.heap.size) (fun k hk => by rw [hk]; exact HRW.out) (Nat.le_refl _))
  have HP4 := Aside0.mk (hb.blk HP4.out HRN.out.1)
  have HP5 := Aside0.mk (hb.blk HP5.out HRN.out.2.1)
  have HP6 := Aside0.mk (hb.blk HP6.out HRN.out.2.2)
  clear hl2 hr2 hb
  refine hK.out _ _ (pw_cell_below HV8.out HB2.out) (fun hHeld => ?_)
  clear hK K
  refine norm_ (a' := ?_) ?_ ?_
  rotate_left
  · show Act.put _ (some 81) _ = _
    simp only [Act.put, sx1, sx2, sx3, i64_w, i32_w]
    rfl
  refine last_ (i := 11) (N := none) #[tt, tt, tt, tt, tt, tt, tt, tt, tt, tt, tt, tt] rfl rfl (by kernel_rfl) (by decide) (fun K hK => ?_)
  refine store_arm 28 _ _ rfl (by rfl) rfl (q := p4) (i := 0) (cur' := recCells kd s v k se rq B nb cb vn vp vb st of x) (recCells kd s v k se rq B nb cb vn vp vb st of x).toList rfl rfl rfl (by kernel_rfl) (by intro u hu; simp at hu; rcases hu with rfl | rfl | rfl | rfl | rfl | rfl | rfl | rfl | rfl | rfl | rfl | rfl | rfl <;> rfl) HP4.out (by simp) rfl ?_
  intro u9 hp9 hg9
  refine hK.out _ _ ?_
  clear hK K
  refine done_ (by kernel_rfl) ?_
  have HP9 := Aside0.mk hp9
  have HV9 := Aside0.mk (HV8.out.grown hg9 HV8.out.size (fun k e => by cases e; exact HPW.out.1))
  have HP5 := Aside0.mk ((hg9.block p5 (blk_lt HP5.out) (fun e => by have := HPW.out; have := Option.some.inj e; omega)).trans HP5.out)
  have HP6 := Aside0.mk ((hg9.block p6 (blk_lt HP6.out) (fun e => by have := HPW.out; have := Option.some.inj e; omega)).trans HP6.out)
  have HR9 := Aside0.mk (R40_other HR2.out HP4.out hg9)
  clear hHeld hm16 c2 HQ2 HV6 HV7 HV8 hp9 hg9 HR2 HRB HD
  have m0 := (blk_cell HP9.out 0).trans rfl
  have m1 := (blk_cell HP9.out 1).trans rfl
  have m2 := (blk_cell HP9.out 2).trans rfl
  have m3 := (blk_cell HP9.out 3).trans rfl
  have m4 := (blk_cell HP9.out 4).trans rfl
  have m5 := (blk_cell HP9.out 5).trans rfl
  have m6 := (blk_cell HP9.out 6).trans rfl
  have m7 := (blk_cell HP9.out 7).trans rfl
  have m8 := (blk_cell HP9.out 8).trans rfl
  have m9 := (blk_cell HP9.out 9).trans rfl
  have m10 := (blk_cell HP9.out 10).trans rfl
  have m11 := (blk_cell HP9.out 11).trans rfl
  have m12 := (blk_cell HP9.out 12).trans rfl
  go_wp2_with fail
  refine (encode_C sq kd s v k se rq B cb nb l2 vn vp vb st of x u9 HL2.out (R40_C HR9.out) (by obtain ⟨A2, n2, c2, e2, _, h2, _⟩ := R40_form HR9.out; cases e2; exact h2) r1 0 HE.out).mono ?_
  rintro e w10 ⟨V, rfl, _, hb⟩
  have HPA := Aside0.mk ((hb.block p4 (blk_lt HP9.out)).trans HP9.out)
  have HP5 := Aside0.mk ((hb.block p5 (blk_lt HP5.out)).trans HP5.out)
  have HP6 := Aside0.mk ((hb.block p6 (blk_lt HP6.out)).trans HP6.out)
  have HVA := Aside0.mk (below_step HV9.out hb)
  have HRA := Aside0.mk (Kd.R_below HR9.out hb)
  clear hb HV9 HR9 HP9 m0 m1 m2 m3 m4 m5 m6 m7 m8 m9 m10 m11 m12
  have m0 := (blk_cell HPA.out 0).trans rfl
  have m1 := (blk_cell HPA.out 1).trans rfl
  have m2 := (blk_cell HPA.out 2).trans rfl
  have m3 := (blk_cell HPA.out 3).trans rfl
  have m4 := (blk_cell HPA.out 4).trans rfl
  have m5 := (blk_cell HPA.out 5).trans rfl
  have m6 := (blk_cell HPA.out 6).trans rfl
  have m7 := (blk_cell HPA.out 7).trans rfl
  have m8 := (blk_cell HPA.out 8).trans rfl
  have m9 := (blk_cell HPA.out 9).trans rfl
  have m10 := (blk_cell HPA.out 10).trans rfl
  have m11 := (blk_cell HPA.out 11).trans rfl
  have m12 := (blk_cell HPA.out 12).trans rfl
  go_wp2_with (with_reducible refine stop_store rfl ?_)
  refine store_blk rfl rfl 28 _ _ rfl (q := p4) (i := 0) (cur' := recCells kd s v k se rq B nb cb vn vp vb st of x) (recCells kd s v k se rq B nb cb vn vp vb st of x).toList rfl rfl rfl (by kernel_rfl) (by intro u hu; simp at hu; rcases hu with rfl | rfl | rfl | rfl | rfl | rfl | rfl | rfl | rfl | rfl | rfl | rfl | rfl <;> rfl) HPA.out (by simp) rfl ?_
  intro w11 hpb hgb
  have HPB := Aside0.mk hpb
  have HVB := Aside0.mk (HVA.out.grown hgb HVA.out.size (fun k e => by cases e; exact HPW.out.1))
  have HP5 := Aside0.mk ((hgb.block p5 (blk_lt HP5.out) (fun e => by have := HPW.out; have := Option.some.inj e; omega)).trans HP5.out)
  have HP6 := Aside0.mk ((hgb.block p6 (blk_lt HP6.out) (fun e => by have := HPW.out; have := Option.some.inj e; omega)).trans HP6.out)
  have HRB2 := Aside0.mk (R40_other HRA.out HPA.out hgb)
  clear hpb hgb HVA HRA HPA m0 m1 m2 m3 m4 m5 m6 m7 m8 m9 m10 m11 m12
  have n5 := (blk_cell HP5.out 0).trans rfl
  have f5 := blk_frozen HP5.out 0
  have n6 := (blk_cell HP6.out 0).trans rfl
  have f6 := blk_frozen HP6.out 0
  have HN56 := Aside0.mk (show p5 ≠ p6 by have := HPW.out; omega)
  have hne := HN56.out
  have hw := wr_add20 (n := m) (by have := H20.out; have := HM.out; omega)
  go_wp2_with fail
  clear hw hne n5 n6 f5 f6
  obtain ⟨wy, hwy⟩ : ∃ wy, wy = w11.setCell ⟨p5, 0, none⟩ (.int .i64 ((m : Int) + 20)) := ⟨_, rfl⟩
  obtain ⟨wz, hwz⟩ : ∃ wz, wz = wy.setCell ⟨p6, 0, none⟩ (.bool true) := ⟨_, rfl⟩
  rw [← hwy, ← hwz]
  have k4 : wz.heap[p4]? = some (.cells (recCells kd s v k se rq B nb cb vn vp vb st of x) 28 (0, 0)) := by
    have := HPW.out
    rw [hwz, Below.heap_setCell wy _ _ p4 (by simp only; omega), hwy, Below.heap_setCell w11 _ _ p4 (by simp only; omega)]
    exact HPB.out
  have k6 : wy.heap[p6]? = some (.cells #[.bool false] 4 (0, 0)) := by
    have := HPW.out
    rw [hwy, Below.heap_setCell w11 _ _ p6 (by simp only; omega)]
    exact HP6.out
  have c5 : wz.cell? ⟨p5, 0, none⟩ = some (.int .i64 ((m : Int) + 20)) := by
    have hy : wy.cell? ⟨p5, 0, none⟩ = some (.int .i64 ((m : Int) + 20)) := by rw [hwy]; exact World.cell?_setCell_same' _ _ _ (by rw [blk_cell HP5.out 0]; rfl)
    have := HPW.out
    have he : wz.heap[p5]? = wy.heap[p5]? := by rw [hwz, Below.heap_setCell wy _ _ p5 (by simp only; omega)]
    simp only [World.cell?, he] at hy ⊢
    exact hy
  have c6 : wz.cell? ⟨p6, 0, none⟩ = some (.bool true) := by rw [hwz]; exact World.cell?_setCell_same' _ _ _ (by rw [blk_cell k6 0]; rfl)
  have hR : R40 wz w.heap.size (.slice B nb cb) l2 := by
    have hy1 : R40 wy w.heap.size (.slice B nb cb) l2 := by rw [hwy]; exact Kd.R_set HRB2.out HP5.out (fun t ht => by rw [k40_only ht]; decide) 0 _
    rw [hwz]
    exact Kd.R_set hy1 k6 (fun t ht => by rw [k40_only ht]; decide) 0 _
  have hBZ : Below w.heap.size w wz := by
    rw [hwz, hwy]
    exact (HVB.out.setCell (p := ⟨p5, 0, none⟩) (by have := HPW.out; simp only; omega) _).setCell (p := ⟨p6, 0, none⟩) (by have := HPW.out; simp only; omega) _
  exact door71 rfl (results71_row _ _ p4 p5 p6 _ _ _ rfl rfl rfl k4 rfl c5 c6) ⟨B, nb, cb, rfl, HL2.out, hR, hBZ⟩
end Go.Proofs.Ytdbniihjkiecbaa.PW
namespace Go.Proofs.Ytdbniihjkiecbaa.PW
open Go.RowKit Go.Proofs.YtdbniihjkiecbaaW.PrintWords Go.Proofs.YtdbniihjkiecbaaW.PrintLast Go.Proofs.YtdbniihjkiecbaaW.PrintMore
set_option linter.unusedVariables false
set_option linter.unusedSimpArgs false

abbrev zeroCells13 : Array Value := recCells 0 0 0 0 0 0 none 0 0 0 0 0 0 0 ⟨#[]⟩
set_option maxHeartbeats 16000000 in
set_option maxRecDepth 100000 in
theorem read_short (w : World) (A : Option Addr) (n c : Nat) (sq : Int) (h20 : n < 20) :
    Calls Try.prog 71 #[.slice A n c, .int .i64 sq] w fun e w' => e = .returned (.tuple #[zeroRec, .int .i64 0, .bool false]) ∧ Below w.heap.size w w' := by
  have hu28 := Try.underlying28
  have hu26 := Try.underlying26
  have hu24 := Try.underlying24
  have hmf : ∀ (fn : Fn) (first cap : Array Value) (w : World), (Instr.makeFunc fn first cap).run Try.prog w = .ok (.func fn first cap) w := fun _ _ _ _ => rfl
  have hd20 : decide ((n : Int) < 20) = true := decide_eq_true (by omega)
  have hd21 : decide (n < 20) = true := decide_eq_true (by omega)
  have H20 := Aside0.mk h20
  clear h20
  go_enter_defers Try.func71, Try.ntmps71
  go_wp2_with fail
  obtain ⟨p4, hp4⟩ : ∃ p4, p4 = w.heap.size := ⟨_, rfl⟩
  obtain ⟨p5, hp5⟩ : ∃ p5, p5 = w.heap.size + 1 := ⟨_, rfl⟩
  obtain ⟨p6, hp6⟩ : ∃ p6, p6 = w.heap.size + 1 + 1 := ⟨_, rfl⟩
  obtain ⟨wa, hwa⟩ : ∃ wa, wa = w.alloc (.cells #[.int .i64 0, .int .i64 0, .int .i64 0, .int .i64 0, .int .i64 0, .int .i64 0, .slice none 0 0, .int .i64 0, .int .i64 0, .int .i64 0, .int .i64 0, .int .i64 0, .string ⟨#[]⟩] 28) := ⟨_, rfl⟩
  obtain ⟨wb, hwb⟩ : ∃ wb, wb = wa.alloc (.cells #[.int .i64 0] 3) := ⟨_, rfl⟩
  obtain ⟨wc, hwc⟩ : ∃ wc, wc = wb.alloc (.cells #[.bool false] 4) := ⟨_, rfl⟩
  rw [← hwa, ← hwb, ← hwc, ← hp6, ← hp5, ← hp4]
  have hza : wa.heap.size = w.heap.size + 1 := by rw [hwa]; simp
  have hzb : wb.heap.size = w.heap.size + 1 + 1 := by rw [hwb, ← hza]; simp
  have hba : Below wa.heap.size wa wb := by rw [hwb]; exact below_alloc (Below.refl _ _) _
  have hbb : Below wb.heap.size wb wc := by rw [hwc]; exact below_alloc (Below.refl _ _) _
  have HB := Aside0.mk (show Below w.heap.size w wc from below_step (below_step (by rw [hwa]; exact below_alloc (Below.refl _ _) _) hba) hbb)
  have HP4 := Aside0.mk (show wc.heap[p4]? = some (.cells #[.int .i64 0, .int .i64 0, .int .i64 0, .int .i64 0, .int .i64 0, .int .i64 0, .slice none 0 0, .int .i64 0, .int .i64 0, .int .i64 0, .int .i64 0, .int .i64 0, .string ⟨#[]⟩] 28 (0, 0)) by
    refine (hbb.block p4 (by omega)).trans ((hba.block p4 (by omega)).trans ?_)
    rw [hwa, hp4]; exact heap_alloc_new w _)
  have HP5 := Aside0.mk (show wc.heap[p5]? = some (.cells #[.int .i64 0] 3 (0, 0)) by
    refine (hbb.block p5 (by omega)).trans ?_
    rw [hwb, hp5, ← hza]; exact heap_alloc_new wa _)
  have HP6 := Aside0.mk (show wc.heap[p6]? = some (.cells #[.bool false] 4 (0, 0)) by rw [hwc, hp6, ← hzb]; exact heap_alloc_new wb _)
  have HPW := Aside0.mk (show w.heap.size ≤ p4 ∧ p4 < p5 ∧ p5 < p6 by omega)
  clear hp4 hp5 hp6 hwa hwb hwc hza hzb hba hbb
  refine start_ (n := 37) (S := fun w' => True) (ds := []) #[ff, ff, ff, ff, ff, ff, ff, ff, ff, ff, ff, ff, ff, ff, ff, ff, ff, ff, ff, ff, ff, ff, ff, ff, ff, ff, ff, ff, ff, ff, ff, ff, ff, ff, ff, ff, ff] (by kernel_rfl) rfl rfl trivial (fun hHeld => ?_)
  refine pure_ (i := 0) (N := some 11) (v := ?_) (a' := ?_) #[tt, ff, ff, ff, ff, ff, ff, ff, ff, ff, ff, ff, ff, ff, ff, ff, ff, ff, ff, ff, ff, ff, ff, ff, ff, ff, ff, ff, ff, ff, ff, ff, ff, ff, ff, ff, ff] rfl rfl (by kernel_rfl) (hq71 (by decide)) (Or.inl ⟨by rfl, ?_⟩) ?_ ?_
  rotate_left
  · intro w'
    go_simp
    with_reducible rfl
  rotate_left
  · simp only [Act.put, sx1, sx2, sx3, i64_w, i32_w]
    rfl
  refine pure_ (i := 1) (N := some 12) (v := ?_) (a' := ?_) #[tt, tt, ff, ff, ff, ff, ff, ff, ff, ff, ff, ff, ff, ff, ff, ff, ff, ff, ff, ff, ff, ff, ff, ff, ff, ff, ff, ff, ff, ff, ff, ff, ff, ff, ff, ff, ff] rfl rfl (by kernel_rfl) (hq71 (by decide)) (Or.inl ⟨by rfl, ?_⟩) ?_ ?_
  rotate_left
  · intro w'
    go_simp
    with_reducible rfl
  rotate_left
  · simp only [Act.put, sx1, sx2, sx3, i64_w, i32_w]
    rfl
  refine pure_ (i := 2) (N := some 13) (v := ?_) (a' := ?_) #[tt, tt, tt, ff, ff, ff, ff, ff, ff, ff, ff, ff, ff, ff, ff, ff, ff, ff, ff, ff, ff, ff, ff, ff, ff, ff, ff, ff, ff, ff, ff, ff, ff, ff, ff, ff, ff] rfl rfl (by kernel_rfl) (hq71 (by decide)) (Or.inl ⟨by rfl, ?_⟩) ?_ ?_
  rotate_left
  · intro w'
    go_simp
    with_reducible rfl
  rotate_left
  · simp only [Act.put, sx1, sx2, sx3, i64_w, i32_w]
    rfl
  refine pure_ (i := 3) (N := some 14) (v := ?_) (a' := ?_) #[tt, tt, tt, tt, ff, ff, ff, ff, ff, ff, ff, ff, ff, ff, ff, ff, ff, ff, ff, ff, ff, ff, ff, ff, ff, ff, ff, ff, ff, ff, ff, ff, ff, ff, ff, ff, ff] rfl rfl (by kernel_rfl) (hq71 (by decide)) (Or.inl ⟨by rfl, ?_⟩) ?_ ?_
  rotate_left
  · intro w'
    go_simp
    with_reducible rfl
  rotate_left
  · simp only [Act.put, sx1, sx2, sx3, i64_w, i32_w]
    rfl
  refine pure_ (i := 4) (N := some 15) (v := undef) (a' := ?_) #[tt, tt, tt, tt, tt, ff, ff, ff, ff, ff, ff, ff, ff, ff, ff, ff, ff, ff, ff, ff, ff, ff, ff, ff, ff, ff, ff, ff, ff, ff, ff, ff, ff, ff, ff, ff, ff] rfl rfl (by kernel_rfl) (hq71 (by decide)) (Or.inr ⟨by rfl, rfl⟩) ?_ ?_
  rotate_left
  · simp only [Act.put, sx1, sx2, sx3, i64_w, i32_w]
    rfl
  refine pure_ (i := 5) (N := some 16) (v := undef) (a' := ?_) #[tt, tt, tt, tt, tt, tt, ff, ff, ff, ff, ff, ff, ff, ff, ff, ff, ff, ff, ff, ff, ff, ff, ff, ff, ff, ff, ff, ff, ff, ff, ff, ff, ff, ff, ff, ff, ff] rfl rfl (by kernel_rfl) (hq71 (by decide)) (Or.inr ⟨by rfl, rfl⟩) ?_ ?_
  rotate_left
  · simp only [Act.put, sx1, sx2, sx3, i64_w, i32_w]
    rfl
  refine pure_ (i := 6) (N := some 17) (v := undef) (a' := ?_) #[tt, tt, tt, tt, tt, tt, tt, ff, ff, ff, ff, ff, ff, ff, ff, ff, ff, ff, ff, ff, ff, ff, ff, ff, ff, ff, ff, ff, ff, ff, ff, ff, ff, ff, ff, ff, ff] rfl rfl (by kernel_rfl) (hq71 (by decide)) (Or.inr ⟨by rfl, rfl⟩) ?_ ?_
  rotate_left
  · simp only [Act.put, sx1, sx2, sx3, i64_w, i32_w]
    rfl
  refine pure_ (i := 7) (N := some 18) (v := undef) (a' := ?_) #[tt, tt, tt, tt, tt, tt, tt, tt, ff, ff, ff, ff, ff, ff, ff, ff, ff, ff, ff, ff, ff, ff, ff, ff, ff, ff, ff, ff, ff, ff, ff, ff, ff, ff, ff, ff, ff] rfl rfl (by kernel_rfl) (hq71 (by decide)) (Or.inr ⟨by rfl, rfl⟩) ?_ ?_
  rotate_left
  · simp only [Act.put, sx1, sx2, sx3, i64_w, i32_w]
    rfl
  refine pure_ (i := 8) (N := some 19) (v := ?_) (a' := ?_) #[tt, tt, tt, tt, tt, tt, tt, tt, tt, ff, ff, ff, ff, ff, ff, ff, ff, ff, ff, ff, ff, ff, ff, ff, ff, ff, ff, ff, ff, ff, ff, ff, ff, ff, ff, ff, ff] rfl rfl (by kernel_rfl) (hq71 (by decide)) (Or.inl ⟨by rfl, ?_⟩) ?_ ?_
  rotate_left
  · intro w'
    go_simp
    with_reducible rfl
  rotate_left
  · simp only [Act.put, sx1, sx2, sx3, i64_w, i32_w]
    rfl
  refine pure_ (i := 9) (N := some 20) (v := ?_) (a' := ?_) #[tt, tt, tt, tt, tt, tt, tt, tt, tt, tt, ff, ff, ff, ff, ff, ff, ff, ff, ff, ff, ff, ff, ff, ff, ff, ff, ff, ff, ff, ff, ff, ff, ff, ff, ff, ff, ff] rfl rfl (by kernel_rfl) (hq71 (by decide)) (Or.inl ⟨by rfl, ?_⟩) ?_ ?_
  rotate_left
  · intro w'
    go_simp
    with_reducible rfl
  rotate_left
  · simp only [Act.put, sx1, sx2, sx3, i64_w, i32_w]
    rfl
  refine pure_ (i := 10) (N := some 21) (v := undef) (a' := ?_) #[tt, tt, tt, tt, tt, tt, tt, tt, tt, tt, tt, ff, ff, ff, ff, ff, ff, ff, ff, ff, ff, ff, ff, ff, ff, ff, ff, ff, ff, ff, ff, ff, ff, ff, ff, ff, ff] rfl rfl (by kernel_rfl) (hq71 (by decide)) (Or.inr ⟨by rfl, rfl⟩) ?_ ?_
  rotate_left
  · simp only [Act.put, sx1, sx2, sx3, i64_w, i32_w]
    rfl
  refine pure_ (i := 11) (N := some 22) (v := undef) (a' := ?_) #[tt, tt, tt, tt, tt, tt, tt, tt, tt, tt, tt, tt, ff, ff, ff, ff, ff, ff, ff, ff, ff, ff, ff, ff, ff, ff, ff, ff, ff, ff, ff, ff, ff, ff, ff, ff, ff] rfl rfl (by kernel_rfl) (hq71 (by decide)) (Or.inr ⟨by rfl, rfl⟩) ?_ ?_
  rotate_left
  · simp only [Act.put, sx1, sx2, sx3, i64_w, i32_w]
    rfl
  refine pure_ (i := 12) (N := some 23) (v := undef) (a' := ?_) #[tt, tt, tt, tt, tt, tt, tt, tt, tt, tt, tt, tt, tt, ff, ff, ff, ff, ff, ff, ff, ff, ff, ff, ff, ff, ff, ff, ff, ff, ff, ff, ff, ff, ff, ff, ff, ff] rfl rfl (by kernel_rfl) (hq71 (by decide)) (Or.inr ⟨by rfl, rfl⟩) ?_ ?_
  rotate_left
  · simp only [Act.put, sx1, sx2, sx3, i64_w, i32_w]
    rfl
  refine pure_ (i := 13) (N := some 24) (v := undef) (a' := ?_) #[tt, tt, tt, tt, tt, tt, tt, tt, tt, tt, tt, tt, tt, tt, ff, ff, ff, ff, ff, ff, ff, ff, ff, ff, ff, ff, ff, ff, ff, ff, ff, ff, ff, ff, ff, ff, ff] rfl rfl (by kernel_rfl) (hq71 (by decide)) (Or.inr ⟨by rfl, rfl⟩) ?_ ?_
  rotate_left
  · simp only [Act.put, sx1, sx2, sx3, i64_w, i32_w]
    rfl
  refine pure_ (i := 14) (N := some 25) (v := ?_) (a' := ?_) #[tt, tt, tt, tt, tt, tt, tt, tt, tt, tt, tt, tt, tt, tt, tt, ff, ff, ff, ff, ff, ff, ff, ff, ff, ff, ff, ff, ff, ff, ff, ff, ff, ff, ff, ff, ff, ff] rfl rfl (by kernel_rfl) (hq71 (by decide)) (Or.inl ⟨by rfl, ?_⟩) ?_ ?_
  rotate_left
  · intro w'
    go_simp
    with_reducible rfl
  rotate_left
  · simp only [Act.put, sx1, sx2, sx3, i64_w, i32_w]
    rfl
  refine pure_ (i := 15) (N := some 26) (v := ?_) (a' := ?_) #[tt, tt, tt, tt, tt, tt, tt, tt, tt, tt, tt, tt, tt, tt, tt, tt, ff, ff, ff, ff, ff, ff, ff, ff, ff, ff, ff, ff, ff, ff, ff, ff, ff, ff, ff, ff, ff] rfl rfl (by kernel_rfl) (hq71 (by decide)) (Or.inl ⟨by rfl, ?_⟩) ?_ ?_
  rotate_left
  · intro w'
    go_simp
    with_reducible rfl
  rotate_left
  · simp only [Act.put, sx1, sx2, sx3, i64_w, i32_w]
    rfl
  refine pure_ (i := 16) (N := some 27) (v := undef) (a' := ?_) #[tt, tt, tt, tt, tt, tt, tt, tt, tt, tt, tt, tt, tt, tt, tt, tt, tt, ff, ff, ff, ff, ff, ff, ff, ff, ff, ff, ff, ff, ff, ff, ff, ff, ff, ff, ff, ff] rfl rfl (by kernel_rfl) (hq71 (by decide)) (Or.inr ⟨by rfl, rfl⟩) ?_ ?_
  rotate_left
  · simp only [Act.put, sx1, sx2, sx3, i64_w, i32_w]
    rfl
  refine pure_ (i := 17) (N := some 28) (v := undef) (a' := ?_) #[tt, tt, tt, tt, tt, tt, tt, tt, tt, tt, tt, tt, tt, tt, tt, tt, tt, tt, ff, ff, ff, ff, ff, ff, ff, ff, ff, ff, ff, ff, ff, ff, ff, ff, ff, ff, ff] rfl rfl (by kernel_rfl) (hq71 (by decide)) (Or.inr ⟨by rfl, rfl⟩) ?_ ?_
  rotate_left
  · simp only [Act.put, sx1, sx2, sx3, i64_w, i32_w]
    rfl
  refine pure_ (i := 18) (N := some 29) (v := undef) (a' := ?_) #[tt, tt, tt, tt, tt, tt, tt, tt, tt, tt, tt, tt, tt, tt, tt, tt, tt, tt, tt, ff, ff, ff, ff, ff, ff, ff, ff, ff, ff, ff, ff, ff, ff, ff, ff, ff, ff] rfl rfl (by kernel_rfl) (hq71 (by decide)) (Or.inr ⟨by rfl, rfl⟩) ?_ ?_
  rotate_left
  · simp only [Act.put, sx1, sx2, sx3, i64_w, i32_w]
    rfl
  refine pure_ (i := 19) (N := some 30) (v := undef) (a' := ?_) #[tt, tt, tt, tt, tt, tt, tt, tt, tt, tt, tt, tt, tt, tt, tt, tt, tt, tt, tt, tt, ff, ff, ff, ff, ff, ff, ff, ff, ff, ff, ff, ff, ff, ff, ff, ff, ff] rfl rfl (by kernel_rfl) (hq71 (by decide)) (Or.inr ⟨by rfl, rfl⟩) ?_ ?_
  rotate_left
  · simp only [Act.put, sx1, sx2, sx3, i64_w, i32_w]
    rfl
  refine pure_ (i := 20) (N := some 31) (v := ?_) (a' := ?_) #[tt, tt, tt, tt, tt, tt, tt, tt, tt, tt, tt, tt, tt, tt, tt, tt, tt, tt, tt, tt, tt, ff, ff, ff, ff, ff, ff, ff, ff, ff, ff, ff, ff, ff, ff, ff, ff] rfl rfl (by kernel_rfl) (hq71 (by decide)) (Or.inl ⟨by rfl, ?_⟩) ?_ ?_
  rotate_left
  · intro w'
    go_simp
    with_reducible rfl
  rotate_left
  · simp only [Act.put, sx1, sx2, sx3, i64_w, i32_w]
    rfl
  refine pure_ (i := 21) (N := some 32) (v := ?_) (a' := ?_) #[tt, tt, tt, tt, tt, tt, tt, tt, tt, tt, tt, tt, tt, tt, tt, tt, tt, tt, tt, tt, tt, tt, ff, ff, ff, ff, ff, ff, ff, ff, ff, ff, ff, ff, ff, ff, ff] rfl rfl (by kernel_rfl) (hq71 (by decide)) (Or.inl ⟨by rfl, ?_⟩) ?_ ?_
  rotate_left
  · intro w'
    go_simp
    with_reducible rfl
  rotate_left
  · simp only [Act.put, sx1, sx2, sx3, i64_w, i32_w]
    rfl
  refine pure_ (i := 22) (N := some 33) (v := undef) (a' := ?_) #[tt, tt, tt, tt, tt, tt, tt, tt, tt, tt, tt, tt, tt, tt, tt, tt, tt, tt, tt, tt, tt, tt, tt, ff, ff, ff, ff, ff, ff, ff, ff, ff, ff, ff, ff, ff, ff] rfl rfl (by kernel_rfl) (hq71 (by decide)) (Or.inr ⟨by rfl, rfl⟩) ?_ ?_
  rotate_left
  · simp only [Act.put, sx1, sx2, sx3, i64_w, i32_w]
    rfl
  refine pure_ (i := 23) (N := some 34) (v := undef) (a' := ?_) #[tt, tt, tt, tt, tt, tt, tt, tt, tt, tt, tt, tt, tt, tt, tt, tt, tt, tt, tt, tt, tt, tt, tt, tt, ff, ff, ff, ff, ff, ff, ff, ff, ff, ff, ff, ff, ff] rfl rfl (by kernel_rfl) (hq71 (by decide)) (Or.inr ⟨by rfl, rfl⟩) ?_ ?_
  rotate_left
  · simp only [Act.put, sx1, sx2, sx3, i64_w, i32_w]
    rfl
  refine pure_ (i := 24) (N := some 35) (v := undef) (a' := ?_) #[tt, tt, tt, tt, tt, tt, tt, tt, tt, tt, tt, tt, tt, tt, tt, tt, tt, tt, tt, tt, tt, tt, tt, tt, tt, ff, ff, ff, ff, ff, ff, ff, ff, ff, ff, ff, ff] rfl rfl (by kernel_rfl) (hq71 (by decide)) (Or.inr ⟨by rfl, rfl⟩) ?_ ?_
  rotate_left
  · simp only [Act.put, sx1, sx2, sx3, i64_w, i32_w]
    rfl
  refine pure_ (i := 25) (N := some 36) (v := undef) (a' := ?_) #[tt, tt, tt, tt, tt, tt, tt, tt, tt, tt, tt, tt, tt, tt, tt, tt, tt, tt, tt, tt, tt, tt, tt, tt, tt, tt, ff, ff, ff, ff, ff, ff, ff, ff, ff, ff, ff] rfl rfl (by kernel_rfl) (hq71 (by decide)) (Or.inr ⟨by rfl, rfl⟩) ?_ ?_
  rotate_left
  · simp only [Act.put, sx1, sx2, sx3, i64_w, i32_w]
    rfl
  refine pure_ (i := 26) (N := some 37) (v := undef) (a' := ?_) #[tt, tt, tt, tt, tt, tt, tt, tt, tt, tt, tt, tt, tt, tt, tt, tt, tt, tt, tt, tt, tt, tt, tt, tt, tt, tt, tt, ff, ff, ff, ff, ff, ff, ff, ff, ff, ff] rfl rfl (by kernel_rfl) (hq71 (by decide)) (Or.inr ⟨by rfl, rfl⟩) ?_ ?_
  rotate_left
  · simp only [Act.put, sx1, sx2, sx3, i64_w, i32_w]
    rfl
  refine pure_ (i := 27) (N := some 38) (v := ?_) (a' := ?_) #[tt, tt, tt, tt, tt, tt, tt, tt, tt, tt, tt, tt, tt, tt, tt, tt, tt, tt, tt, tt, tt, tt, tt, tt, tt, tt, tt, tt, ff, ff, ff, ff, ff, ff, ff, ff, ff] rfl rfl (by kernel_rfl) (hq71 (by decide)) (Or.inl ⟨by rfl, ?_⟩) ?_ ?_
  rotate_left
  · intro w'
    go_simp
    with_reducible rfl
  rotate_left
  · simp only [Act.put, sx1, sx2, sx3, i64_w, i32_w]
    rfl
  refine pure_ (i := 28) (N := some 39) (v := ?_) (a' := ?_) #[tt, tt, tt, tt, tt, tt, tt, tt, tt, tt, tt, tt, tt, tt, tt, tt, tt, tt, tt, tt, tt, tt, tt, tt, tt, tt, tt, tt, tt, ff, ff, ff, ff, ff, ff, ff, ff] rfl rfl (by kernel_rfl) (hq71 (by decide)) (Or.inl ⟨by rfl, ?_⟩) ?_ ?_
  rotate_left
  · intro w'
    go_simp
    with_reducible rfl
  rotate_left
  · simp only [Act.put, sx1, sx2, sx3, i64_w, i32_w]
    rfl
  refine pure_ (i := 29) (N := some 40) (v := undef) (a' := ?_) #[tt, tt, tt, tt, tt, tt, tt, tt, tt, tt, tt, tt, tt, tt, tt, tt, tt, tt, tt, tt, tt, tt, tt, tt, tt, tt, tt, tt, tt, tt, ff, ff, ff, ff, ff, ff, ff] rfl rfl (by kernel_rfl) (hq71 (by decide)) (Or.inr ⟨by rfl, rfl⟩) ?_ ?_
  rotate_left
  · simp only [Act.put, sx1, sx2, sx3, i64_w, i32_w]
    rfl
  refine pure_ (i := 30) (N := some 41) (v := undef) (a' := ?_) #[tt, tt, tt, tt, tt, tt, tt, tt, tt, tt, tt, tt, tt, tt, tt, tt, tt, tt, tt, tt, tt, tt, tt, tt, tt, tt, tt, tt, tt, tt, tt, ff, ff, ff, ff, ff, ff] rfl rfl (by kernel_rfl) (hq71 (by decide)) (Or.inr ⟨by rfl, rfl⟩) ?_ ?_
  rotate_left
  · simp only [Act.put, sx1, sx2, sx3, i64_w, i32_w]
    rfl
  refine pure_ (i := 31) (N := some 42) (v := undef) (a' := ?_) #[tt, tt, tt, tt, tt, tt, tt, tt, tt, tt, tt, tt, tt, tt, tt, tt, tt, tt, tt, tt, tt, tt, tt, tt, tt, tt, tt, tt, tt, tt, tt, tt, ff, ff, ff, ff, ff] rfl rfl (by kernel_rfl) (hq71 (by decide)) (Or.inr ⟨by rfl, rfl⟩) ?_ ?_
  rotate_left
  · simp only [Act.put, sx1, sx2, sx3, i64_w, i32_w]
    rfl
  refine pure_ (i := 32) (N := some 43) (v := undef) (a' := ?_) #[tt, tt, tt, tt, tt, tt, tt, tt, tt, tt, tt, tt, tt, tt, tt, tt, tt, tt, tt, tt, tt, tt, tt, tt, tt, tt, tt, tt, tt, tt, tt, tt, tt, ff, ff, ff, ff] rfl rfl (by kernel_rfl) (hq71 (by decide)) (Or.inr ⟨by rfl, rfl⟩) ?_ ?_
  rotate_left
  · simp only [Act.put, sx1, sx2, sx3, i64_w, i32_w]
    rfl
  refine pure_ (i := 33) (N := some 44) (v := undef) (a' := ?_) #[tt, tt, tt, tt, tt, tt, tt, tt, tt, tt, tt, tt, tt, tt, tt, tt, tt, tt, tt, tt, tt, tt, tt, tt, tt, tt, tt, tt, tt, tt, tt, tt, tt, tt, ff, ff, ff] rfl rfl (by kernel_rfl) (hq71 (by decide)) (Or.inr ⟨by rfl, rfl⟩) ?_ ?_
  rotate_left
  · simp only [Act.put, sx1, sx2, sx3, i64_w, i32_w]
    rfl
  refine pure_ (i := 34) (N := some 45) (v := undef) (a' := ?_) #[tt, tt, tt, tt, tt, tt, tt, tt, tt, tt, tt, tt, tt, tt, tt, tt, tt, tt, tt, tt, tt, tt, tt, tt, tt, tt, tt, tt, tt, tt, tt, tt, tt, tt, tt, ff, ff] rfl rfl (by kernel_rfl) (hq71 (by decide)) (Or.inr ⟨by rfl, rfl⟩) ?_ ?_
  rotate_left
  · simp only [Act.put, sx1, sx2, sx3, i64_w, i32_w]
    rfl
  refine pure_ (i := 35) (N := some 46) (v := undef) (a' := ?_) #[tt, tt, tt, tt, tt, tt, tt, tt, tt, tt, tt, tt, tt, tt, tt, tt, tt, tt, tt, tt, tt, tt, tt, tt, tt, tt, tt, tt, tt, tt, tt, tt, tt, tt, tt, tt, ff] rfl rfl (by kernel_rfl) (hq71 (by decide)) (Or.inr ⟨by rfl, rfl⟩) ?_ ?_
  rotate_left
  · simp only [Act.put, sx1, sx2, sx3, i64_w, i32_w]
    rfl
  refine pure_ (i := 36) (N := some 47) (v := ?_) (a' := ?_) #[tt, tt, tt, tt, tt, tt, tt, tt, tt, tt, tt, tt, tt, tt, tt, tt, tt, tt, tt, tt, tt, tt, tt, tt, tt, tt, tt, tt, tt, tt, tt, tt, tt, tt, tt, tt, tt] rfl rfl (by kernel_rfl) (hq71 (by decide)) (Or.inl ⟨by rfl, ?_⟩) ?_ ?_
  rotate_left
  · intro w'
    go_simp
    with_reducible rfl
  rotate_left
  · simp only [Act.put, sx1, sx2, sx3, i64_w, i32_w]
    rfl
  refine done_ (by kernel_rfl) ?_
  have HV := Aside0.mk (below_drew1 HB.out)
  have HP4 := Aside0.mk (show wc.drew.heap[p4]? = _ from HP4.out)
  have HP5 := Aside0.mk (show wc.drew.heap[p5]? = _ from HP5.out)
  have HP6 := Aside0.mk (show wc.drew.heap[p6]? = _ from HP6.out)
  clear HB hHeld
  go_wp2_with (with_reducible refine stop_store rfl ?_)
  refine store_blk rfl rfl 28 _ _ rfl (q := p4) (i := 0) (cur' := zeroCells13) zeroCells13.toList rfl rfl rfl (by kernel_rfl) (by intro u hu; simp at hu; rcases hu with rfl | rfl | rfl | rfl <;> rfl) HP4.out (by simp) rfl ?_
  intro w11 hpb hgb
  have HPB := Aside0.mk hpb
  have HVB := Aside0.mk (HV.out.grown hgb HV.out.size (fun k e => by cases e; exact HPW.out.1))
  have HP5 := Aside0.mk ((hgb.block p5 (blk_lt HP5.out) (fun e => by have := HPW.out; have := Option.some.inj e; omega)).trans HP5.out)
  have HP6 := Aside0.mk ((hgb.block p6 (blk_lt HP6.out) (fun e => by have := HPW.out; have := Option.some.inj e; omega)).trans HP6.out)
  clear hpb hgb HV
  have n5 := (blk_cell HP5.out 0).trans rfl
  have f5 := blk_frozen HP5.out 0
  have n6 := (blk_cell HP6.out 0).trans rfl
  have f6 := blk_frozen HP6.out 0
  have HN56 := Aside0.mk (show p5 ≠ p6 by have := HPW.out; omega)
  have hne := HN56.out
  go_wp2_with fail
  clear hne n5 n6 f5 f6
  obtain ⟨wy, hwy⟩ : ∃ wy, wy = w11.setCell ⟨p5, 0, none⟩ (.int .i64 0) := ⟨_, rfl⟩
  obtain ⟨wz, hwz⟩ : ∃ wz, wz = wy.setCell ⟨p6, 0, none⟩ (.bool false) := ⟨_, rfl⟩
  rw [← hwy, ← hwz]
  have k4 : wz.heap[p4]? = some (.cells zeroCells13 28 (0, 0)) := by
    have := HPW.out
    rw [hwz, Below.heap_setCell wy _ _ p4 (by simp only; omega), hwy, Below.heap_setCell w11 _ _ p4 (by simp only; omega)]
    exact HPB.out
  have k6 : wy.heap[p6]? = some (.cells #[.bool false] 4 (0, 0)) := by
    have := HPW.out
    rw [hwy, Below.heap_setCell w11 _ _ p6 (by simp only; omega)]
    exact HP6.out
  have c5 : wz.cell? ⟨p5, 0, none⟩ = some (.int .i64 0) := by
    have hy : wy.cell? ⟨p5, 0, none⟩ = some (.int .i64 0) := by rw [hwy]; exact World.cell?_setCell_same' _ _ _ (by rw [blk_cell HP5.out 0]; rfl)
    have := HPW.out
    have he : wz.heap[p5]? = wy.heap[p5]? := by rw [hwz, Below.heap_setCell wy _ _ p5 (by simp only; omega)]
    simp only [World.cell?, he] at hy ⊢
    exact hy
  have c6 : wz.cell? ⟨p6, 0, none⟩ = some (.bool false) := by rw [hwz]; exact World.cell?_setCell_same' _ _ _ (by rw [blk_cell k6 0]; rfl)
  have hBZ : Below w.heap.size w wz := by
    rw [hwz, hwy]
    exact (HVB.out.setCell (p := ⟨p5, 0, none⟩) (by have := HPW.out; simp only; omega) _).setCell (p := ⟨p6, 0, none⟩) (by have := HPW.out; simp only; omega) _
  exact door71 rfl (results71_row _ _ p4 p5 p6 _ _ _ rfl rfl rfl k4 rfl c5 c6) ⟨rfl, hBZ⟩
end Go.Proofs.Ytdbniihjkiecbaa.PW
namespace Go.Proofs.Ytdbniihjkiecbaa.PW
open Go.RowKit Go.Proofs.YtdbniihjkiecbaaW.PrintWords Go.Proofs.YtdbniihjkiecbaaW.PrintLast Go.Proofs.YtdbniihjkiecbaaW.PrintMore
set_option linter.unusedVariables false
set_option linter.unusedSimpArgs false

theorem wr_small {a : Int} (h0 : 0 ≤ a) (h1 : a < 256) : wrap64 a = a ∧ wrap64 (a * 16777216) = a * 16777216 ∧ wrap64 (a * 65536) = a * 65536 ∧ wrap64 (a * 256) = a * 256 := by unfold wrap64; omega
theorem four_bytes (a b c d : Int) (t : List Int) (ha : 0 ≤ a ∧ a < 256) (hb : 0 ≤ b ∧ b < 256) (hc : 0 ≤ c ∧ c < 256) (hd : 0 ≤ d ∧ d < 256) : journal_four.f (a :: b :: c :: d :: t) = some (a * 16777216 + b * 65536 + c * 256 + d) := by
  unfold journal_four.f
  rw [if_pos (by simp only [List.length_cons]; omega), if_pos (by simp only [List.length_cons]; omega), if_pos (by simp only [List.length_cons]; omega), if_pos (by simp only [List.length_cons]; omega)]
  have e0 : rd (a :: b :: c :: d :: t) 0 = a := rfl
  have e1 : rd (a :: b :: c :: d :: t) 1 = b := rfl
  have e2 : rd (a :: b :: c :: d :: t) 2 = c := rfl
  have e3 : rd (a :: b :: c :: d :: t) 3 = d := rfl
  obtain ⟨a1, a2, a3, a4⟩ := wr_small ha.1 ha.2
  obtain ⟨b1, b2, b3, b4⟩ := wr_small hb.1 hb.2
  obtain ⟨c1, c2, c3, c4⟩ := wr_small hc.1 hc.2
  obtain ⟨d1, d2, d3, d4⟩ := wr_small hd.1 hd.2
  rw [e0, e1, e2, e3, a1, b1, c1, d1, a2, b3, c4, word_join .i64 (by decide) (fun n h0 h1 => wr_i64 n h0 (by omega)) a b c d ha hb hc hd]
theorem four_val (v : Int) (h0 : 0 ≤ v) (h1 : v < 4294967296) (t : List Int) : journal_four.f (four4 v ++ t) = some v := by
  have h := four_bytes ((v / 16777216) % 256) ((v / 65536) % 256) ((v / 256) % 256) (v % 256) t (by omega) (by omega) (by omega) (by omega)
  show journal_four.f (((v / 16777216) % 256) :: ((v / 65536) % 256) :: ((v / 256) % 256) :: (v % 256) :: t) = some v
  rw [h]
  congr 1
  omega
/-- A record's bytes, by their parts. -/
theorem rec_parts (sq kd : Int) (b t : List Int) : recBytes sq kd b ++ t = (withSum (recHead sq kd b.length) ++ b) ++ (four4 (sumW (withSum (recHead sq kd b.length) ++ b)) ++ t) := by
  unfold recBytes
  rw [show withSum (withSum (recHead sq kd b.length) ++ b) = (withSum (recHead sq kd b.length) ++ b) ++ four4 (sumW (withSum (recHead sq kd b.length) ++ b)) from rfl, List.append_assoc]
theorem withHead_len (sq kd : Int) (m : Nat) : (withSum (recHead sq kd m)).length = 16 := by rw [withSum_len, recHead_len]
theorem recBytes_len (sq kd : Int) (b : List Int) : (recBytes sq kd b).length = b.length + 20 := by
  unfold recBytes
  rw [withSum_len, List.length_append, withHead_len]
  omega
set_option maxHeartbeats 4000000 in
set_option maxRecDepth 100000 in
theorem rd_body (sq kd s v k se rq : Int) (l2 : List S40) (vn vp vb st of : Int) (x : ByteArray) (b t : List Int) (hsq : 1 ≤ sq ∧ sq ≤ 2147483647) (hE : recEnc sq kd s v k se rq l2 vn vp vb st of x = (recBytes sq kd b, 0)) (hb : bytesOk b = true) (hbl : b.length ≤ 3000000) (hkd : 0 ≤ kd ∧ kd < 256) (ht : bytesOk t = true) (hmx : (recBytes sq kd b ++ t).length ≤ 1000000000)
    (hrec : ∀ (w w1 : World) (rb : Nat) (A' : Option Addr) (c' : Nat), Below w.heap.size w w1 → w.heap.size ≤ rb → b.length ≤ c' → w1.heap[rb]? = some (.cells #[.slice A' b.length c', .int .i64 0] 147 (0, 0)) → C8 w A' b.length b →
      Calls Try.prog 84 #[.pointer (some ⟨rb, 0, none⟩), .int .i64 kd] w1 fun e w' => ∃ B nb cb, e = .returned (.agg (recCells kd s v k se rq B nb cb vn vp vb st of x)) ∧ l2.length = nb ∧ R40 w' w1.heap.size (.slice B nb cb) l2 ∧ Frm w1 w' (fun k => k = rb))
    (w : World) (A : Option Addr) (n c : Nat) (hn : (recBytes sq kd b ++ t).length = n) (hc : n ≤ c) (hC : C8 w A n (recBytes sq kd b ++ t)) :
    Calls Try.prog 71 #[.slice A n c, .int .i64 sq] w fun e w' => ∃ B nb cb, e = .returned (.tuple #[.agg (recCells kd s v k se rq B nb cb vn vp vb st of x), .int .i64 ((b.length : Int) + 20), .bool true]) ∧ l2.length = nb ∧ R40 w' w.heap.size (.slice B nb cb) l2 ∧ Below w.heap.size w w' := by
  obtain ⟨m, hm⟩ : ∃ m, m = b.length := ⟨_, rfl⟩
  obtain ⟨L, hL⟩ : ∃ L, L = recBytes sq kd b ++ t := ⟨_, rfl⟩
  have hp := rec_parts sq kd b t
  rw [← hL] at hp hn hC hmx
  have hH : (withSum (recHead sq kd b.length) ++ b).length = 16 + m := by rw [List.length_append, withHead_len, hm]
  have hlen : L.length = 20 + m + t.length := by rw [hp, List.length_append, hH, List.length_append, four4_len]; omega
  have hk : kd % 256 = kd := by omega
  have hLx : L = 74 :: 82 :: (kd % 256) :: 0 :: (four4 sq ++ (four4 (b.length : Int) ++ (four4 (sumW (recHead sq kd b.length)) ++ (b ++ (four4 (sumW (withSum (recHead sq kd b.length) ++ b)) ++ t))))) := by
    rw [hp]
    simp only [withSum, recHead, List.append_assoc, List.cons_append, List.nil_append]
  have h12 : L.take 12 = recHead sq kd b.length := by
    rw [hp]
    rw [show withSum (recHead sq kd b.length) = recHead sq kd b.length ++ four4 (sumW (recHead sq kd b.length)) from rfl, List.append_assoc, List.append_assoc]
    exact List.take_left' (recHead_len ..)
  have hs1 := sumW_range (recHead sq kd b.length) (recHead_ok ..)
  have hok2 : bytesOk (withSum (recHead sq kd b.length) ++ b) = true := bytesOk_append (withSum_ok (recHead_ok ..)) hb
  have hs2 := sumW_range _ hok2
  have hLok : bytesOk L = true := by rw [hp]; exact bytesOk_append hok2 (bytesOk_append (four4_ok _) ht)
  have e0 : rd L 0 = 74 := by rw [hLx]; rfl
  have e1 : rd L 1 = 82 := by rw [hLx]; rfl
  have e2 : rd L 2 = kd := by rw [hLx]; exact hk
  have e3 : rd L 3 = 0 := by rw [hLx]; rfl
  have d4 : journal_four.f (L.drop 4) = some sq := by rw [hLx]; exact four_val sq (by omega) (by omega) _
  have d8 : journal_four.f (L.drop 8) = some (m : Int) := by rw [hLx, hm]; exact four_val (b.length : Int) (by omega) (by omega) _
  have d12 : journal_four.f (L.drop 12) = some (sumW (L.take 12)) := by rw [h12, hLx]; exact four_val _ hs1.1 hs1.2 _
  have dt : L.take (16 + m) = withSum (recHead sq kd b.length) ++ b := by rw [hp]; exact List.take_left' hH
  have dd : L.drop (16 + m) = four4 (sumW (withSum (recHead sq kd b.length) ++ b)) ++ t := by rw [hp]; exact List.drop_left' hH
  have d16 : journal_four.f (L.drop (16 + m)) = some (sumW (L.take (16 + m))) := by rw [dd, dt]; exact four_val _ hs2.1 hs2.2 _
  have db : (L.take (16 + m)).drop 16 = b := by rw [dt]; exact List.drop_left' (withHead_len _ _ _)
  rw [← hm]
  refine read_ok w A n c L sq m kd s v k se rq l2 vn vp vb st of x _ hn hc (by omega) hLok hC (by omega) e0 e1 e2 e3 d4 d8 d12 d16 hE ?_
  intro w1 rb A' c' h1 h2 h3 h4 h5
  rw [db] at h5
  rw [hm] at h3 h4 h5
  exact hrec w w1 rb A' c' h1 h2 h3 h4 h5
end Go.Proofs.Ytdbniihjkiecbaa.PW
namespace Go.Proofs.Ytdbniihjkiecbaa.PW
open Go.RowKit Go.Proofs.YtdbniihjkiecbaaW.PrintWords Go.Proofs.YtdbniihjkiecbaaW.PrintLast Go.Proofs.YtdbniihjkiecbaaW.PrintMore
set_option linter.unusedVariables false
set_option linter.unusedSimpArgs false

theorem str_bytes (s : ByteArray) : strOfNums (bytesOf s) = s := by
  unfold strOfNums bytesOf
  apply ByteArray.ext
  have e : ((fun n : Int => UInt8.ofNat n.toNat) ∘ fun b : UInt8 => (b.toNat : Int)) = id := by funext b; simp
  simp [e]
theorem empty_str {x : ByteArray} (h : x.toList = []) : x = ⟨#[]⟩ := by
  apply ByteArray.ext
  apply Array.toList_inj.1
  rw [ByteArray.toList_eq] at h
  exact h
/-- Where the next thing stands. -/
theorem step_at {l a t : List Int} {i : Nat} (hi : i ≤ l.length) (h : l.drop i = a ++ t) : i + a.length ≤ l.length ∧ l.drop (i + a.length) = t := ⟨drop_le rfl hi h, drop_next h⟩
theorem op_at {l t : List Int} {i : Nat} {o : S40} (hi : i ≤ l.length) (h : l.drop i = opEnc o ++ t) (ho : opOk o = true) : OpAt l (i : Int) o ((i + (opEnc o).length : Nat) : Int) := by
  obtain ⟨⟨a0, a1⟩, ⟨b0, b1⟩, h3, hs1, hs2⟩ := opOk_parts ho
  unfold opEnc at h ⊢
  by_cases e3 : o.f3 = -1
  · rw [if_pos e3] at h ⊢
    simp only [List.append_assoc] at h
    have r0 := readNum_drop a0 a1 hi h
    obtain ⟨hi1, h1⟩ := step_at hi h
    have r1 := readText_drop (by omega) hi1 h1
    obtain ⟨hi2, h2⟩ := step_at hi1 h1
    have r2 := readText_drop (by omega) hi2 h2
    obtain ⟨hi3, h3⟩ := step_at hi2 h2
    have r3 := readNum_drop (by omega) (by omega) hi3 h3
    obtain ⟨hi4, h4⟩ := step_at hi3 h3
    have r4 := readNum_drop b0 b1 hi4 h4
    refine ⟨_, _, _, _, _, _, r0, r1, str_bytes _, r2, str_bytes _, .inl ⟨e3, r3, ?_⟩⟩
    rw [r4]
    simp only [List.length_append]
    congr 3
    omega
  · rw [if_neg e3] at h ⊢
    have h3' : 0 ≤ o.f3 ∧ o.f3 ≤ 2147483647 := h3.resolve_left e3
    simp only [List.append_assoc] at h
    have r0 := readNum_drop a0 a1 hi h
    obtain ⟨hi1, h1⟩ := step_at hi h
    have r1 := readText_drop (by omega) hi1 h1
    obtain ⟨hi2, h2⟩ := step_at hi1 h1
    have r2 := readText_drop (by omega) hi2 h2
    obtain ⟨hi3, h3⟩ := step_at hi2 h2
    have r3 := readNum_drop (by omega) (by omega) hi3 h3
    obtain ⟨hi4, h4⟩ := step_at hi3 h3
    have r4 := readNum_drop h3'.1 h3'.2 hi4 h4
    obtain ⟨hi5, h5⟩ := step_at hi4 h4
    have r5 := readNum_drop b0 b1 hi5 h5
    refine ⟨_, _, _, _, _, _, r0, r1, str_bytes _, r2, str_bytes _, .inr ⟨_, r3, r4, ?_⟩⟩
    rw [r5]
    simp only [List.length_append]
    congr 3
    omega
theorem ops_at {l : List Int} : ∀ (ops : List S40) {t : List Int} {i : Nat}, i ≤ l.length → l.drop i = opsEncs ops ++ t → ops.all opOk = true → OpsAt l (i : Int) ops ((i + (opsEncs ops).length : Nat) : Int)
  | [], t, i, hi, h, ho => by simp [OpsAt, opsEncs]
  | o :: os, t, i, hi, h, ho => by
    rw [List.all_cons, Bool.and_eq_true] at ho
    have e : opsEncs (o :: os) = opEnc o ++ opsEncs os := by simp [opsEncs]
    rw [e, List.append_assoc] at h
    obtain ⟨hi1, h1⟩ := step_at hi h
    refine ⟨_, op_at hi h ho.1, ?_⟩
    have := ops_at os hi1 h1 ho.2
    rw [e, List.length_append, ← Nat.add_assoc]
    exact this
theorem ent_at (s v k se rq : Int) (ops : List S40) (h : entOk s v k se rq ops = true) : EntAt (entBytes s v k se rq ops) 0 s v k se rq ops ((entBytes s v k se rq ops).length : Int) := by
  obtain ⟨hx, hl, ho⟩ := entOk_parts h
  have hs := hx s (by simp)
  have hv := hx v (by simp)
  have hk := hx k (by simp)
  have he := hx se (by simp)
  have hq := hx rq (by simp)
  obtain ⟨L, hL⟩ : ∃ L, L = entBytes s v k se rq ops := ⟨_, rfl⟩
  rw [← hL]
  have h0 : L.drop 0 = (numEnc s).1 ++ ((numEnc v).1 ++ ((numEnc k).1 ++ ((numEnc se).1 ++ ((numEnc rq).1 ++ ((numEnc (ops.length : Int)).1 ++ (opsEncs ops ++ [])))))) := by
    rw [hL]
    simp [entBytes, opsEnc, List.append_assoc]
  have hi0 : 0 ≤ L.length := Nat.zero_le _
  have r0 := readNum_drop hs.1 hs.2 hi0 h0
  obtain ⟨hi1, h1⟩ := step_at hi0 h0
  have r1 := readNum_drop hv.1 hv.2 hi1 h1
  obtain ⟨hi2, h2⟩ := step_at hi1 h1
  have r2 := readNum_drop hk.1 hk.2 hi2 h2
  obtain ⟨hi3, h3⟩ := step_at hi2 h2
  have r3 := readNum_drop he.1 he.2 hi3 h3
  obtain ⟨hi4, h4⟩ := step_at hi3 h3
  have r4 := readNum_drop hq.1 hq.2 hi4 h4
  obtain ⟨hi5, h5⟩ := step_at hi4 h4
  have r5 := readNum_drop (by omega) (by omega) hi5 h5
  obtain ⟨hi6, h6⟩ := step_at hi5 h5
  have r6 := ops_at ops hi6 h6 ho
  refine ⟨_, _, _, _, _, _, r0, r1, r2, r3, r4, r5, ?_⟩
  have hlen := congrArg List.length h0
  simp only [List.drop_zero, List.length_append, List.length_nil] at hlen
  rw [show (L.length : Int) = ((0 + (numEnc s).1.length + (numEnc v).1.length + (numEnc k).1.length + (numEnc se).1.length + (numEnc rq).1.length + (numEnc (ops.length : Int)).1.length + (opsEncs ops).length : Nat) : Int) from by congr 1; omega]
  exact r6
theorem opEnc_small {o : S40} (h : opOk o = true) : (opEnc o).length ≤ 550 := by
  obtain ⟨_, _, _, hs1, hs2⟩ := opOk_parts h
  have t1 : (textEnc o.f1).1.length ≤ 5 + 256 := by
    unfold textEnc
    rw [if_neg (by omega), List.length_append, bytesOf_length]
    have := numBytes_len 4 (o.f1.size : Int)
    omega
  have t2 : (textEnc o.f2).1.length ≤ 5 + 256 := by
    unfold textEnc
    rw [if_neg (by omega), List.length_append, bytesOf_length]
    have := numBytes_len 4 (o.f2.size : Int)
    omega
  have n0 := numEnc_len o.f0
  have n4 := numEnc_len o.f4
  have n3 := numEnc_len o.f3
  have z0 := numEnc_len 0
  have z1 := numEnc_len 1
  unfold opEnc
  simp only [List.length_append]
  split
  · omega
  · rw [List.length_append]; omega
theorem opsEncs_small : ∀ (ops : List S40), ops.all opOk = true → (opsEncs ops).length ≤ 550 * ops.length
  | [], _ => by simp [opsEncs]
  | o :: os, h => by
    rw [List.all_cons, Bool.and_eq_true] at h
    have h1 := opEnc_small h.1
    have h2 := opsEncs_small os h.2
    have e : opsEncs (o :: os) = opEnc o ++ opsEncs os := by simp [opsEncs]
    rw [e, List.length_append, List.length_cons]
    omega
theorem entBytes_small {s v k se rq : Int} {ops : List S40} (h : entOk s v k se rq ops = true) : (entBytes s v k se rq ops).length ≤ 3000 := by
  obtain ⟨hx, hl, ho⟩ := entOk_parts h
  have h1 := numEnc_len s
  have h2 := numEnc_len v
  have h3 := numEnc_len k
  have h4 := numEnc_len se
  have h5 := numEnc_len rq
  have h6 := numEnc_len (ops.length : Int)
  have h7 := opsEncs_small ops ho
  unfold entBytes opsEnc
  simp only [List.length_append, List.length_nil]
  omega
end Go.Proofs.Ytdbniihjkiecbaa.PW
namespace Go.Proofs.Ytdbniihjkiecbaa.PW
open Go.RowKit Go.Proofs.YtdbniihjkiecbaaW.PrintWords Go.Proofs.YtdbniihjkiecbaaW.PrintLast Go.Proofs.YtdbniihjkiecbaaW.PrintMore
set_option linter.unusedVariables false
set_option linter.unusedSimpArgs false

def Num (v : Int) : Prop := 0 ≤ v ∧ v ≤ 2147483647
theorem nums1 {a : Int} (ha : Num a) : readNum (numsEnc [a]) 0 = (a, ((numsEnc [a]).length : Int), 0) := by
  obtain ⟨L, hL⟩ : ∃ L, L = numsEnc [a] := ⟨_, rfl⟩
  rw [← hL]
  have h0 : L.drop 0 = (numEnc a).1 ++ [] := by rw [hL]; simp [numsEnc]
  have hi0 : 0 ≤ L.length := Nat.zero_le _
  have r0 := readNum_drop ha.1 ha.2 hi0 h0
  have hlen := congrArg List.length h0
  simp only [List.drop_zero, List.length_append, List.length_nil] at hlen
  rw [show (L.length : Int) = ((0 + (numEnc a).1.length : Nat) : Int) from by congr 1; omega]
  exact r0
theorem nums3 {a b c : Int} (ha : Num a) (hb : Num b) (hc : Num c) : ∃ q1 q2, readNum (numsEnc [a, b, c]) 0 = (a, q1, 0) ∧ readNum (numsEnc [a, b, c]) q1 = (b, q2, 0) ∧ readNum (numsEnc [a, b, c]) q2 = (c, ((numsEnc [a, b, c]).length : Int), 0) := by
  obtain ⟨L, hL⟩ : ∃ L, L = numsEnc [a, b, c] := ⟨_, rfl⟩
  rw [← hL]
  have h0 : L.drop 0 = (numEnc a).1 ++ ((numEnc b).1 ++ ((numEnc c).1 ++ [])) := by rw [hL]; simp [numsEnc]
  have hi0 : 0 ≤ L.length := Nat.zero_le _
  have r0 := readNum_drop ha.1 ha.2 hi0 h0
  obtain ⟨hi1, h1⟩ := step_at hi0 h0
  have r1 := readNum_drop hb.1 hb.2 hi1 h1
  obtain ⟨hi2, h2⟩ := step_at hi1 h1
  have r2 := readNum_drop hc.1 hc.2 hi2 h2
  refine ⟨_, _, r0, r1, ?_⟩
  have hlen := congrArg List.length h0
  simp only [List.drop_zero, List.length_append, List.length_nil] at hlen
  rw [show (L.length : Int) = ((0 + (numEnc a).1.length + (numEnc b).1.length + (numEnc c).1.length : Nat) : Int) from by congr 1; omega]
  exact r2
theorem nums2t {a b : Int} {x : ByteArray} (ha : Num a) (hb : Num b) (hx : x.size ≤ 262144) : ∃ q1 q2, readNum (numsEnc [a, b] ++ (textEnc x).1) 0 = (a, q1, 0) ∧ readNum (numsEnc [a, b] ++ (textEnc x).1) q1 = (b, q2, 0) ∧ readText (numsEnc [a, b] ++ (textEnc x).1) q2 = (bytesOf x, ((numsEnc [a, b] ++ (textEnc x).1).length : Int), 0) := by
  obtain ⟨L, hL⟩ : ∃ L, L = numsEnc [a, b] ++ (textEnc x).1 := ⟨_, rfl⟩
  rw [← hL]
  have h0 : L.drop 0 = (numEnc a).1 ++ ((numEnc b).1 ++ ((textEnc x).1 ++ [])) := by rw [hL]; simp [numsEnc]
  have hi0 : 0 ≤ L.length := Nat.zero_le _
  have r0 := readNum_drop ha.1 ha.2 hi0 h0
  obtain ⟨hi1, h1⟩ := step_at hi0 h0
  have r1 := readNum_drop hb.1 hb.2 hi1 h1
  obtain ⟨hi2, h2⟩ := step_at hi1 h1
  have r2 := readText_drop hx hi2 h2
  refine ⟨_, _, r0, r1, ?_⟩
  have hlen := congrArg List.length h0
  simp only [List.drop_zero, List.length_append, List.length_nil] at hlen
  rw [show (L.length : Int) = ((0 + (numEnc a).1.length + (numEnc b).1.length + (textEnc x).1.length : Nat) : Int) from by congr 1; omega]
  exact r2
theorem nums3t {a b c : Int} {x : ByteArray} (ha : Num a) (hb : Num b) (hc : Num c) (hx : x.size ≤ 262144) : ∃ q0 q1 q2, readNum (numsEnc [a, b, c] ++ (textEnc x).1) 0 = (a, q0, 0) ∧ readNum (numsEnc [a, b, c] ++ (textEnc x).1) q0 = (b, q1, 0) ∧ readNum (numsEnc [a, b, c] ++ (textEnc x).1) q1 = (c, q2, 0) ∧ readText (numsEnc [a, b, c] ++ (textEnc x).1) q2 = (bytesOf x, ((numsEnc [a, b, c] ++ (textEnc x).1).length : Int), 0) := by
  obtain ⟨L, hL⟩ : ∃ L, L = numsEnc [a, b, c] ++ (textEnc x).1 := ⟨_, rfl⟩
  rw [← hL]
  have h0 : L.drop 0 = (numEnc a).1 ++ ((numEnc b).1 ++ ((numEnc c).1 ++ ((textEnc x).1 ++ []))) := by rw [hL]; simp [numsEnc]
  have hi0 : 0 ≤ L.length := Nat.zero_le _
  have r0 := readNum_drop ha.1 ha.2 hi0 h0
  obtain ⟨hi1, h1⟩ := step_at hi0 h0
  have r1 := readNum_drop hb.1 hb.2 hi1 h1
  obtain ⟨hi2, h2⟩ := step_at hi1 h1
  have r2 := readNum_drop hc.1 hc.2 hi2 h2
  obtain ⟨hi3, h3⟩ := step_at hi2 h2
  have r3 := readText_drop hx hi3 h3
  refine ⟨_, _, _, r0, r1, r2, ?_⟩
  have hlen := congrArg List.length h0
  simp only [List.drop_zero, List.length_append, List.length_nil] at hlen
  rw [show (L.length : Int) = ((0 + (numEnc a).1.length + (numEnc b).1.length + (numEnc c).1.length + (textEnc x).1.length : Nat) : Int) from by congr 1; omega]
  exact r3
theorem blankE_parts {s v k se rq : Int} {l : List S40} (h : blankE s v k se rq l = true) : s = 0 ∧ v = 0 ∧ k = 0 ∧ se = 0 ∧ rq = 0 ∧ l = [] := by
  unfold blankE at h
  simp only [Bool.and_eq_true, beq_iff_eq, decide_eq_true_eq, List.length_eq_zero_iff] at h
  exact h
theorem noState_parts {of : Int} {x : ByteArray} (h : noState of x = true) : x = ⟨#[]⟩ ∧ of = 0 := by
  unfold noState at h
  simp only [Bool.and_eq_true, beq_iff_eq, decide_eq_true_eq] at h
  exact ⟨empty_str h.1, h.2⟩
theorem noView_parts {a b c : Int} (h : noView a b c = true) : a = 0 ∧ b = 0 ∧ c = 0 := by
  unfold noView at h
  simpa only [Bool.and_eq_true, beq_iff_eq] using h
theorem vMay_parts {a b c : Int} (h : vMay a b c = true) : Num a ∧ Num b ∧ Num c ∧ 1 ≤ a := by
  unfold vMay at h
  simp only [Bool.and_eq_true, decide_eq_true_eq] at h
  unfold Num
  omega
theorem nMay_parts {a b c : Int} (h : nMay a b c = true) : Num a ∧ b = 0 ∧ c = 0 ∧ 1 ≤ a := by
  unfold nMay at h
  simp only [Bool.and_eq_true, decide_eq_true_eq, beq_iff_eq] at h
  unfold Num
  omega
/-- What Encode writes, by the kind. -/
theorem recEnc_parts {sq kd s v k se rq : Int} {l : List S40} {vn vp vb st of : Int} {x : ByteArray} {r1 : List Int} (h : recEnc sq kd s v k se rq l vn vp vb st of x = (r1, 0)) :
    r1 = recBytes sq kd (recBody kd s v k se rq l vn vp vb st of x).1 ∧ (recBody kd s v k se rq l vn vp vb st of x).2 = true ∧ (1 ≤ sq ∧ sq ≤ 2147483647) ∧ x.size ≤ 200000 := by
  unfold recEnc at h
  by_cases hx : (x.size : Int) > 200000
  · rw [if_pos hx] at h; cases h
  · rw [if_neg hx] at h
    by_cases hb : ((recBody kd s v k se rq l vn vp vb st of x).2 && seqOk sq) = true
    · rw [if_pos hb] at h
      rw [Bool.and_eq_true] at hb
      have hs := hb.2
      unfold seqOk at hs
      simp only [Bool.and_eq_true, decide_eq_true_eq] at hs
      exact ⟨(Prod.mk.inj h).1.symm, hb.1, hs, by omega⟩
    · rw [if_neg hb] at h; cases h
set_option maxRecDepth 100000 in
theorem rd_valid (sq : Int) (y : JR) (r1 : List Int) (hE : recEnc sq y.kd y.s y.v y.k y.se y.rq y.ops y.vn y.vp y.vb y.st y.of y.x = (r1, 0)) (t : List Int) (ht : bytesOk t = true) (hmx : (r1 ++ t).length ≤ 1000000000) : RdSpec (r1 ++ t) sq (some (y, r1.length)) := by
  obtain ⟨kd, s, v, k, se, rq, ops, vn, vp, vb, st, of, x⟩ := y
  simp only at hE
  obtain ⟨h1, h2, hsq, hx⟩ := recEnc_parts hE
  subst h1
  have hbok := recBody_ok kd s v k se rq ops vn vp vb st of x
  have hbl := recBody_len kd s v k se rq ops vn vp vb st of x
  have key := rd_body sq kd s v k se rq ops vn vp vb st of x _ t hsq hE hbok hbl
  have fin : (0 ≤ kd ∧ kd < 256) → (∀ (w w1 : World) (rb : Nat) (A' : Option Addr) (c' : Nat), Below w.heap.size w w1 → w.heap.size ≤ rb → (recBody kd s v k se rq ops vn vp vb st of x).1.length ≤ c' → w1.heap[rb]? = some (.cells #[.slice A' (recBody kd s v k se rq ops vn vp vb st of x).1.length c', .int .i64 0] 147 (0, 0)) → C8 w A' (recBody kd s v k se rq ops vn vp vb st of x).1.length (recBody kd s v k se rq ops vn vp vb st of x).1 →
      Calls Try.prog 84 #[.pointer (some ⟨rb, 0, none⟩), .int .i64 kd] w1 fun e w' => ∃ B nb cb, e = .returned (.agg (recCells kd s v k se rq B nb cb vn vp vb st of x)) ∧ ops.length = nb ∧ R40 w' w1.heap.size (.slice B nb cb) ops ∧ Frm w1 w' (fun k => k = rb)) → RdSpec (recBytes sq kd (recBody kd s v k se rq ops vn vp vb st of x).1 ++ t) sq (some (⟨kd, s, v, k, se, rq, ops, vn, vp, vb, st, of, x⟩, (recBytes sq kd (recBody kd s v k se rq ops vn vp vb st of x).1).length)) := by
    intro hkd hrec w A n c hn hc hC
    refine (key hkd ht hmx hrec w A n c hn hc hC).mono ?_
    rintro e w' ⟨B, nb, cb, rfl, rfl, hr, hb⟩
    exact ⟨B, cb, by rw [recBytes_len]; rfl, hr, hb⟩
  clear key
  by_cases k1 : kd = 1
  · subst k1
    have e1 : (recBody 1 s v k se rq ops vn vp vb st of x).2 = (entOk s v k se rq ops && (noView vn vp vb && ((st == 0) && noState of x))) := rfl
    rw [e1] at h2
    simp only [Bool.and_eq_true, beq_iff_eq] at h2
    obtain ⟨hok, hv, rfl, hs⟩ := h2
    obtain ⟨rfl, rfl, rfl⟩ := noView_parts hv
    obtain ⟨rfl, rfl⟩ := noState_parts hs
    refine fin (by omega) ?_
    have eb : (recBody 1 s v k se rq ops 0 0 0 0 0 ⟨#[]⟩).1 = entBytes s v k se rq ops := by
      show (if entOk s v k se rq ops = true then entBytes s v k se rq ops else []) = _
      rw [if_pos hok]
    rw [eb] at hbok ⊢
    have hsm := entBytes_small hok
    have hl := (entOk_parts hok).2.1
    intro w w1 rb A' c' hB hrb hc' hg hC
    refine (rd_entry w w1 rb _ c' A' (entBytes s v k se rq ops) s v k se rq ops ops.length rfl (by omega) rfl hc' hbok (by omega) hC hB hrb hg (ent_at s v k se rq ops hok) hok).mono ?_
    rintro e w' ⟨B, cb, rfl, hr, hf⟩
    exact ⟨B, _, cb, rfl, rfl, hr, hf⟩
  by_cases k2 : kd = 2
  · subst k2
    have e1 : (recBody 2 s v k se rq ops vn vp vb st of x).2 = (vMay vn vp vb && (blankE s v k se rq ops && ((st == 0) && noState of x))) := rfl
    rw [e1] at h2
    simp only [Bool.and_eq_true, beq_iff_eq] at h2
    obtain ⟨hv, hbk, rfl, hs⟩ := h2
    obtain ⟨rfl, rfl, rfl, rfl, rfl, rfl⟩ := blankE_parts hbk
    obtain ⟨rfl, rfl⟩ := noState_parts hs
    obtain ⟨p1, p2, p3, _⟩ := vMay_parts hv
    refine fin (by omega) ?_
    have eb : (recBody 2 0 0 0 0 0 [] vn vp vb 0 0 ⟨#[]⟩).1 = numsEnc [vn, vp, vb] := rfl
    rw [eb] at hbok hbl ⊢
    obtain ⟨q1, q2, r0, r1, r2⟩ := nums3 p1 p2 p3
    intro w w1 rb A' c' hB hrb hc' hg hC
    refine (rd_view w w1 rb _ c' A' (numsEnc [vn, vp, vb]) vn q1 vp q2 vb rfl hc' hbok (by omega) hC hB hrb hg r0 r1 r2).mono ?_
    rintro e w' ⟨rfl, hf⟩
    exact ⟨none, 0, 0, rfl, rfl, Kd.R_nil _ _ _ _ _, hf⟩
  by_cases k3 : kd = 3
  · subst k3
    have e1 : (recBody 3 s v k se rq ops vn vp vb st of x).2 = (nMay vn vp vb && (blankE s v k se rq ops && ((st == 0) && noState of x))) := rfl
    rw [e1] at h2
    simp only [Bool.and_eq_true, beq_iff_eq] at h2
    obtain ⟨hv, hbk, rfl, hs⟩ := h2
    obtain ⟨rfl, rfl, rfl, rfl, rfl, rfl⟩ := blankE_parts hbk
    obtain ⟨rfl, rfl⟩ := noState_parts hs
    obtain ⟨p1, rfl, rfl, _⟩ := nMay_parts hv
    refine fin (by omega) ?_
    have eb : (recBody 3 0 0 0 0 0 [] vn 0 0 0 0 ⟨#[]⟩).1 = numsEnc [vn] := rfl
    rw [eb] at hbok hbl ⊢
    intro w w1 rb A' c' hB hrb hc' hg hC
    refine (rd_matched w w1 rb _ c' A' (numsEnc [vn]) vn rfl hc' hbok (by omega) hC hB hrb hg (nums1 p1)).mono ?_
    rintro e w' ⟨rfl, hf⟩
    exact ⟨none, 0, 0, rfl, rfl, Kd.R_nil _ _ _ _ _, hf⟩
  by_cases k4 : kd = 4
  · subst k4
    have e1 : (recBody 4 s v k se rq ops vn vp vb st of x).2 = (nMay vn vp vb && (blankE s v k se rq ops && (numOk st && numOk of))) := rfl
    rw [e1] at h2
    simp only [Bool.and_eq_true, beq_iff_eq] at h2
    obtain ⟨hv, hbk, hst, hof⟩ := h2
    obtain ⟨rfl, rfl, rfl, rfl, rfl, rfl⟩ := blankE_parts hbk
    obtain ⟨p1, rfl, rfl, _⟩ := nMay_parts hv
    refine fin (by omega) ?_
    have eb : (recBody 4 0 0 0 0 0 [] vn 0 0 st of x).1 = numsEnc [vn, st, of] ++ (textEnc x).1 := rfl
    rw [eb] at hbok hbl ⊢
    obtain ⟨q0, q1, q2, r0, r1, r2, r3⟩ := nums3t p1 (numOk_iff hst) (numOk_iff hof) (show x.size ≤ 262144 by omega)
    intro w w1 rb A' c' hB hrb hc' hg hC
    refine (rd_reset w w1 rb _ c' A' (numsEnc [vn, st, of] ++ (textEnc x).1) vn st of q0 q1 q2 (bytesOf x) x rfl hc' hbok (by omega) hC hB hrb hg r0 r1 r2 r3 (str_bytes x)).mono ?_
    rintro e w' ⟨rfl, hf⟩
    exact ⟨none, 0, 0, rfl, rfl, Kd.R_nil _ _ _ _ _, hf⟩
  by_cases k5 : kd = 5
  · subst k5
    have e1 : (recBody 5 s v k se rq ops vn vp vb st of x).2 = (noView vn vp vb && (blankE s v k se rq ops && (numOk st && numOk of))) := rfl
    rw [e1] at h2
    simp only [Bool.and_eq_true, beq_iff_eq] at h2
    obtain ⟨hv, hbk, hst, hof⟩ := h2
    obtain ⟨rfl, rfl, rfl, rfl, rfl, rfl⟩ := blankE_parts hbk
    obtain ⟨rfl, rfl, rfl⟩ := noView_parts hv
    refine fin (by omega) ?_
    have eb : (recBody 5 0 0 0 0 0 [] 0 0 0 st of x).1 = numsEnc [st, of] ++ (textEnc x).1 := rfl
    rw [eb] at hbok hbl ⊢
    obtain ⟨q1, q2, r0, r1, r2⟩ := nums2t (numOk_iff hst) (numOk_iff hof) (show x.size ≤ 262144 by omega)
    intro w w1 rb A' c' hB hrb hc' hg hC
    refine (rd_save w w1 rb _ c' A' (numsEnc [st, of] ++ (textEnc x).1) st of q1 q2 (bytesOf x) x rfl hc' hbok (by omega) hC hB hrb hg r0 r1 r2 (str_bytes x)).mono ?_
    rintro e w' ⟨rfl, hf⟩
    exact ⟨none, 0, 0, rfl, rfl, Kd.R_nil _ _ _ _ _, hf⟩
  by_cases k6 : kd = 6
  · subst k6
    have e1 : (recBody 6 s v k se rq ops vn vp vb st of x).2 = (numOk st && (blankE s v k se rq ops && (noState of x && noView vn vp vb))) := rfl
    rw [e1] at h2
    simp only [Bool.and_eq_true, beq_iff_eq] at h2
    obtain ⟨hst, hbk, hs, hv⟩ := h2
    obtain ⟨rfl, rfl, rfl, rfl, rfl, rfl⟩ := blankE_parts hbk
    obtain ⟨rfl, rfl, rfl⟩ := noView_parts hv
    obtain ⟨rfl, rfl⟩ := noState_parts hs
    refine fin (by omega) ?_
    have eb : (recBody 6 0 0 0 0 0 [] 0 0 0 st 0 ⟨#[]⟩).1 = numsEnc [st] := rfl
    rw [eb] at hbok hbl ⊢
    intro w w1 rb A' c' hB hrb hc' hg hC
    refine (rd_commit w w1 rb _ c' A' (numsEnc [st]) st rfl hc' hbok (by omega) hC hB hrb hg (nums1 (numOk_iff hst))).mono ?_
    rintro e w' ⟨rfl, hf⟩
    exact ⟨none, 0, 0, rfl, rfl, Kd.R_nil _ _ _ _ _, hf⟩
  · exfalso
    unfold recBody at h2
    rw [if_neg k1, if_neg k2, if_neg k3, if_neg k4, if_neg k5, if_neg k6] at h2
    cases h2
end Go.Proofs.Ytdbniihjkiecbaa.PW
namespace Go.Proofs.Ytdbniihjkiecbaa.PW
open Go.RowKit Go.Proofs.YtdbniihjkiecbaaW.PrintWords Go.Proofs.YtdbniihjkiecbaaW.PrintLast Go.Proofs.YtdbniihjkiecbaaW.PrintMore
set_option linter.unusedVariables false
set_option linter.unusedSimpArgs false

/-- d is what Encode writes of the records ys, numbered from k + 1 on. -/
def Enc : Nat → List JR → List Int → Prop
  | _, [], d => d = []
  | k, y :: ys, d => ∃ r1 d', y.enc ((k : Int) + 1) = (r1, 0) ∧ d = r1 ++ d' ∧ Enc (k + 1) ys d'
/-- ys are those of xs, in order, that Encode takes as number k + 1 and on, as far as it went. -/
def Pick : Nat → List JR → List JR → Prop
  | _, _, [] => True
  | _, [], _ :: _ => False
  | k, x :: xs, y :: ys => if (x.enc ((k : Int) + 1)).2 = 0 then x = y ∧ Pick (k + 1) xs ys else Pick k xs (y :: ys)
theorem enc_ok {y : JR} {sq : Int} {r1 : List Int} (h : y.enc sq = (r1, 0)) : bytesOk r1 = true ∧ 20 ≤ r1.length := by
  obtain ⟨h1, _⟩ := recEnc_parts h
  rw [h1, recBytes_len]
  refine ⟨?_, by omega⟩
  unfold recBytes
  exact withSum_ok (bytesOk_append (withSum_ok (recHead_ok ..)) (recBody_ok ..))
theorem Enc_snoc : ∀ (ys : List JR) (k : Nat) (d r1 : List Int) (y : JR), Enc k ys d → y.enc (((k + ys.length : Nat) : Int) + 1) = (r1, 0) → Enc k (ys ++ [y]) (d ++ r1)
  | [], k, d, r1, y, h, hr => by
    obtain rfl : d = [] := h
    exact ⟨r1, [], by simpa using hr, by simp, rfl⟩
  | z :: ys, k, d, r1, y, h, hr => by
    obtain ⟨r2, d', h1, rfl, h3⟩ := h
    refine ⟨r2, d' ++ r1, h1, by rw [List.append_assoc], Enc_snoc ys (k + 1) d' r1 y h3 ?_⟩
    rw [show k + 1 + ys.length = k + (z :: ys).length by rw [List.length_cons]; omega]
    exact hr
theorem Enc_ok : ∀ (ys : List JR) (k : Nat) (d : List Int), Enc k ys d → bytesOk d = true ∧ 20 * ys.length ≤ d.length
  | [], k, d, h => by
    obtain rfl : d = [] := h
    exact ⟨rfl, by simp⟩
  | z :: ys, k, d, h => by
    obtain ⟨r2, d', h1, rfl, h3⟩ := h
    obtain ⟨h4, h5⟩ := Enc_ok ys (k + 1) d' h3
    obtain ⟨h6, h7⟩ := enc_ok h1
    exact ⟨bytesOk_append h6 h4, by rw [List.length_append, List.length_cons]; omega⟩
theorem wrGo_pick : ∀ (l : List JR) (d es : List Int) (ys : List JR), es.length = ys.length → Enc 0 ys d → ∃ zs, (wrGo l (d, es, ys)).2.2 = ys ++ zs ∧ Pick ys.length l zs ∧ Enc 0 (ys ++ zs) (wrGo l (d, es, ys)).1 ∧ (wrGo l (d, es, ys)).2.1.length = (ys ++ zs).length
  | [], d, es, ys, he, hE => ⟨[], by simp [wrGo], trivial, by simpa [wrGo] using hE, by simpa [wrGo] using he⟩
  | y :: l, d, es, ys, he, hE => by
    unfold wrGo
    by_cases h6 : d.length < 60000
    · rw [if_pos h6]
      by_cases h0 : (y.enc ((es.length : Int) + 1)).2 = 0
      · rw [if_pos h0]
        have hE2 : Enc 0 (ys ++ [y]) (d ++ (y.enc ((es.length : Int) + 1)).1) := Enc_snoc ys 0 d _ y hE (by rw [Nat.zero_add, ← he]; exact Prod.ext rfl h0)
        obtain ⟨zs, h1, h2, h3, h4⟩ := wrGo_pick l (d ++ (y.enc ((es.length : Int) + 1)).1) (es ++ [((d.length + (y.enc ((es.length : Int) + 1)).1.length : Nat) : Int)]) (ys ++ [y]) (by simp [he]) hE2
        refine ⟨y :: zs, by rw [h1]; simp, ?_, by rw [show ys ++ y :: zs = ys ++ [y] ++ zs by simp]; exact h3, by rw [h4]; simp⟩
        show (if (y.enc ((ys.length : Int) + 1)).2 = 0 then _ else _)
        rw [← he, if_pos h0]
        rw [List.length_append] at h2
        rw [he]
        exact ⟨rfl, h2⟩
      · rw [if_neg h0]
        obtain ⟨zs, h1, h2, h3, h4⟩ := wrGo_pick l d es ys he hE
        refine ⟨zs, h1, ?_, h3, h4⟩
        cases zs with
        | nil => trivial
        | cons z zs =>
          show (if (y.enc ((ys.length : Int) + 1)).2 = 0 then _ else _)
          rw [← he, if_neg h0, he]
          exact h2
    · rw [if_neg h6]
      exact ⟨[], by simp, trivial, by simpa using hE, by simpa using he⟩
theorem wrGo_len : ∀ (l : List JR) (d es : List Int) (ys : List JR), d.length ≤ 4100000 → (wrGo l (d, es, ys)).1.length ≤ 4100000
  | [], d, es, ys, h => h
  | y :: l, d, es, ys, h => by
    unfold wrGo
    by_cases h6 : d.length < 60000
    · rw [if_pos h6]
      by_cases h0 : (y.enc ((es.length : Int) + 1)).2 = 0
      · rw [if_pos h0]
        have := enc_len y ((es.length : Int) + 1)
        exact wrGo_len l _ _ _ (by rw [List.length_append]; omega)
      · rw [if_neg h0]
        exact wrGo_len l _ _ _ h
    · rw [if_neg h6]
      exact h
end Go.Proofs.Ytdbniihjkiecbaa.PW
