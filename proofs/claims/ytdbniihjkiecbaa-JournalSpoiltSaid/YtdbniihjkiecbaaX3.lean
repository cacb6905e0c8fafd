/- Words, contracts and walks of the law JournalSpoilt, in one text. -/
import Derived.Test.YtdbniihjkiecbaaX2
import Derived.Test.YtdbniihjkiecbaaX1
import Derived.Outline
import Derived.Test.YtdbniihjkiecbaaRows
import Derived.WalkKit
import Derived.ProofKit
import Derived.OpenShut
import Derived.ChangeOld
import Derived.Below
import Derived.SizedLaws
import Derived.Deep.Slices
namespace Go.Proofs.Ytdbniihjkiecbaa.PW
open Go.RowKit Go.Proofs.YtdbniihjkiecbaaW.PrintWords Go.Proofs.YtdbniihjkiecbaaW.PrintLast Go.Proofs.YtdbniihjkiecbaaW.PrintMore
set_option linter.unusedVariables false
set_option linter.unusedSimpArgs false

theorem if_max (a b : Int) : (if a < b then b else a) = max a b := by
  rw [Int.max_def]
  split <;> split <;> omega
set_option maxHeartbeats 16000000 in
set_option maxRecDepth 100000 in
theorem says_save (w : World) (p : Nat) (s : SV) (E : Option Addr) (ne ce : Nat) (hp : w.heap[p]? = some (.cells (s.cells E ne ce) 53 (0, 0))) (base : Nat) (ok : Nat → Prop) (hR : Kd.R k24 24 w base ok (.slice E ne ce) s.es) (hfresh : ∀ k, w.heap.size ≤ k → ok k) (hbase : base ≤ w.heap.size) (hs : s.small) (kd a v k se rq : Int) (A : Option Addr) (n c : Nat) (vn vp vb st of : Int) (x : ByteArray) (d : Nat) (hd : st = s.st + (d : Int)) (hdd : d ≤ ne ∨ s.es = []) (hst : st ≤ 2147483647) (m : Nat) (hm : m = (s.es.drop d).length) :
    Calls Try.prog 134 #[.agg (recCells kd a v k se rq A n c vn vp vb st of x), .pointer (some ⟨p, 0, none⟩)] w fun r w' => (∃ v, r = .returned v) ∧ ∃ E' ce', w'.heap[p]? = some (.cells (({ s with es := s.es.drop d, st := st, of := of, x := x, co := max s.co st } : SV).cells E' m ce') 53 (0, 0)) ∧
      Kd.R k24 24 w' base ok (.slice E' m ce') (s.es.drop d) ∧ Frm w w' (fun k => k = p) := by
  have hu53 := Try.underlying53
  have hu26 := Try.underlying26
  have hu116 := Try.underlying116
  have HN := Aside0.mk (show s.es.length = ne by
    obtain ⟨A0, c0, he0, hle⟩ := Kd.R_reads hR
    injection he0 with eA eN eC
    exact eN.symm)
  have HLE := Aside0.mk (show ne ≤ ce by
    obtain ⟨A0, c0, he0, hle, _⟩ := Kd.R_reads hR
    injection he0 with eA eN eC
    omega)
  have HP := Aside0.mk hp
  have HR := Aside0.mk hR
  have HFR := Aside0.mk hfresh
  have HBS := Aside0.mk hbase
  have HLN := Aside0.mk hs.2.2.1
  have HMM := Aside0.mk hm
  have HDD := Aside0.mk hdd
  have w0 : IntKind.i64.wrap (st - s.st) = (d : Int) := (i64_w _).trans (by
    have m1 := hs.1
    have m2 := hs.2.1
    unfold wrap64
    omega)
  clear hp hR hfresh hbase hm hs hd hst hdd
  go_enter Try.func134, Try.ntmps134
  go_wp2_with fail
  obtain ⟨g, hg⟩ : ∃ g, g = w.heap.size := ⟨_, rfl⟩
  obtain ⟨w1, hw1⟩ : ∃ w1, w1 = w.alloc (.cells (recCells kd a v k se rq A n c vn vp vb st of x) 116) := ⟨_, rfl⟩
  rw [← hw1, ← hg]
  have HB := Aside0.mk (show Below w.heap.size w w1 by rw [hw1]; exact below_alloc (Below.refl _ _) _)
  have HG := Aside0.mk (show w1.heap[g]? = some (.cells (recCells kd a v k se rq A n c vn vp vb st of x) 116 (0, 0)) by rw [hw1, hg]; exact heap_alloc_new w _)
  have HP1 := Aside0.mk ((HB.out.block p (blk_lt HP.out)).trans HP.out)
  have HPG := Aside0.mk (show g ≠ p by have := blk_lt HP.out; omega)
  have HR1 := Aside0.mk (Kd.R_below HR.out HB.out)
  clear hw1 hg
  have g10 := (blk_cell HG.out 10).trans rfl
  have c4 := (blk_cell HP1.out 4).trans rfl
  go_quiet (fail)
  clear g10 c4
  obtain ⟨w2, hw2⟩ : ∃ w2, w2 = w1.drewN nq := ⟨_, rfl⟩
  rw [← hw2]
  have HP2 := Aside0.mk (show w2.heap[p]? = some (.cells (s.cells E ne ce) 53 (0, 0)) by rw [hw2]; exact HP1.out)
  have HG2 := Aside0.mk (show w2.heap[g]? = some (.cells (recCells kd a v k se rq A n c vn vp vb st of x) 116 (0, 0)) by rw [hw2]; exact HG.out)
  have HX2 := Aside0.mk (show Frm w w2 (fun k => k = p) by rw [hw2]; exact Frm.of_below (pw_below_drewN HB.out _) _)
  have HR2 := Aside0.mk (show Kd.R k24 24 w2 base ok (.slice E ne ce) s.es by rw [hw2]; exact Kd.R_step HR1.out (fun _ _ _ => rfl))
  have HF2 := Aside0.mk (show ∀ k, w2.heap.size ≤ k → ok k from fun k hk => HFR.out k (Nat.le_trans HX2.out.size hk))
  have HB2 := Aside0.mk (Nat.le_trans HBS.out HX2.out.size)
  clear hw2
  have c7 := (blk_cell HP2.out 7).trans rfl
  by_cases h1 : d ≤ ne
  · have e1 : decide ((d : Int) ≤ (ne : Int)) = true := decide_eq_true (by omega)
    have e2 : decide (d ≤ ne) = true := decide_eq_true h1
    obtain ⟨A3, hcut, hrow⟩ := cut51 (A := E) (n := ne) (c := ce) d h1 HLE.out
    have HRW := Aside0.mk hrow
    have HH := Aside0.mk h1
    clear hrow h1
    go_wp2_with fail
    refine (clone_R A3 (ne - d) (ce - d) (s.es.drop d) _ base ok (by rw [List.length_drop, HN.out]) (HRW.out _ _ _ (by
      obtain ⟨A0, c0, he0, hle, hrd⟩ := OwnRow.reads HR2.out.2
      injection he0 with eA eN eC
      rw [← eN] at hrd
      rw [← eA] at hrd
      exact hrd.imp_ (Below.refl _ _) (fun x cs h => k24.M_mono (fun k hk => hk.1) h))) (by have := HLN.out; have := HN.out; omega) HF2.out HB2.out).mono ?_
    rintro e w5 ⟨E1, c1, rfl, hr5, hb5⟩
    obtain ⟨nd, hnd⟩ : ∃ nd, nd = ne - d := ⟨_, rfl⟩
    rw [← hnd] at hr5 ⊢
    have HND := Aside0.mk (show nd = m by rw [hnd, HMM.out, List.length_drop, HN.out])
    have HP5 := Aside0.mk ((hb5.block p (blk_lt HP2.out)).trans HP2.out)
    have HG5 := Aside0.mk ((hb5.block g (blk_lt HG2.out)).trans HG2.out)
    have HX5 := Aside0.mk (HX2.out.step hb5)
    have HR5 := Aside0.mk hr5
    clear hb5 hr5 hnd c7
    have c7 := (blk_cell HP5.out 7).trans rfl
    have z7 := blk_frozen HP5.out 7
    go_wp2_with fail
    obtain ⟨wa, hwa⟩ : ∃ wa, wa = w5.setCell ⟨p, 7, none⟩ (.slice E1 nd c1) := ⟨_, rfl⟩
    rw [← hwa]
    have HPa := Aside0.mk (show wa.heap[p]? = some (.cells ((({ s with es := s.es.drop d } : SV)).cells E1 m c1) 53 (0, 0)) by rw [hwa, ← HND.out]; exact blk_put HP5.out 7 _ rfl)
    have HGa := Aside0.mk (show wa.heap[g]? = some (.cells (recCells kd a v k se rq A n c vn vp vb st of x) 116 (0, 0)) by rw [hwa]; exact blk_far HG5.out (by simp only; exact HPG.out) _)
    have HXa := Aside0.mk (show Frm w wa (fun k => k = p) by rw [hwa]; exact HX5.out.set_ (p := ⟨p, 7, none⟩) (.inl rfl) _)
    have HRa := Aside0.mk (show Kd.R k24 24 wa base ok (.slice E1 m c1) (s.es.drop d) by
      rw [hwa, ← HND.out]
      exact Kd.R_set HR5.out HP5.out (fun t ht => by rcases k24_types ht with rfl | rfl <;> decide) 7 _)
    clear hwa c7 z7 hcut e1 e2 w0
    have a10 : wa.drew.cell? ⟨g, 10, none⟩ = some (.int .i64 st) := (blk_cell (w := wa.drew) HGa.out 10).trans rfl
    have b10 : wa.cell? ⟨g, 10, none⟩ = some (.int .i64 st) := a10
    have a11 : wa.drew.cell? ⟨g, 11, none⟩ = some (.int .i64 of) := (blk_cell (w := wa.drew) HGa.out 11).trans rfl
    have b11 : wa.cell? ⟨g, 11, none⟩ = some (.int .i64 of) := a11
    have a12 : wa.drew.cell? ⟨g, 12, none⟩ = some (.string x) := (blk_cell (w := wa.drew) HGa.out 12).trans rfl
    have b12 : wa.cell? ⟨g, 12, none⟩ = some (.string x) := a12
    have c4 := (blk_cell HPa.out 4).trans rfl
    have z4 := blk_frozen HPa.out 4
    have c5 := (blk_cell HPa.out 5).trans rfl
    have z5 := blk_frozen HPa.out 5
    have c6 := (blk_cell HPa.out 6).trans rfl
    have z6 := blk_frozen HPa.out 6
    have hgp := HPG.out
    refine start_ (n := 18) (S := fun w' => w'.cell? ⟨g, 10, none⟩ = some (.int .i64 st) ∧ w'.cell? ⟨g, 11, none⟩ = some (.int .i64 of) ∧ w'.cell? ⟨g, 12, none⟩ = some (.string x)) (ds := [17]) bq121 (by kernel_rfl) rfl rfl ⟨a10, a11, a12⟩ (fun hHeld => ?_)
    refine pure_ (i := 0) (N := some 29) (v := ?_) (a' := ?_) bq122 rfl rfl (by kernel_rfl) (fun _ _ _ h => h) (Or.inl ⟨by rfl, ?_⟩) ?_ ?_
    rotate_left
    · intro w'; go_simp; with_reducible rfl
    rotate_left
    · simp only [sxx]; rfl
    refine pure_ (i := 1) (N := some 30) (v := ?_) (a' := ?_) bq123 rfl rfl (by kernel_rfl) (fun _ _ _ h => h) (Or.inl ⟨by rfl, ?_⟩) ?_ ?_
    rotate_left
    · intro w'; go_simp; with_reducible rfl
    rotate_left
    · simp only [sxx]; rfl
    refine pure_ (i := 2) (N := some 31) (v := ?_) (a' := ?_) bq124 rfl rfl (by kernel_rfl) (fun _ _ _ h => h) (Or.inl ⟨by rfl, ?_⟩) ?_ ?_
    rotate_left
    · intro w'; go_simp; with_reducible rfl
    rotate_left
    · simp only [sxx]; rfl
    refine pure_ (i := 3) (N := some 32) (v := ?_) (a' := ?_) bq125 rfl rfl (by kernel_rfl) (fun _ _ _ h => h) (Or.inl ⟨by rfl, ?_⟩) ?_ ?_
    rotate_left
    · intro w'; go_simp; with_reducible rfl
    rotate_left
    · simp only [sxx]; rfl
    refine pure_ (i := 5) (N := some 34) (v := ?_) (a' := ?_) bq184 rfl rfl (by kernel_rfl) (fun _ _ _ h => h) (Or.inl ⟨by rfl, ?_⟩) ?_ ?_
    rotate_left
    · intro w'; go_simp; with_reducible rfl
    rotate_left
    · simp only [sxx]; rfl
    refine pure_ (i := 7) (N := some 36) (v := ?_) (a' := ?_) bq185 rfl rfl (by kernel_rfl) (fun _ _ _ h => h) (Or.inl ⟨by rfl, ?_⟩) ?_ ?_
    rotate_left
    · intro w'; go_simp; with_reducible rfl
    rotate_left
    · simp only [sxx]; rfl
    refine take_ (i := 4) (N := some 33) (v := ?_) (a' := ?_) bq186 rfl rfl (by kernel_rfl) (fun _ _ _ h => h) (Or.inl ⟨by rfl, ?_⟩) hHeld ?_ ?_
    rotate_left
    · rintro w' ⟨s0, s1, s2⟩
      go_simp; with_reducible rfl
    rotate_left
    · simp only [sxx]; rfl
    refine pure_ (i := 9) (N := some 38) (v := ?_) (a' := ?_) bq187 rfl rfl (by kernel_rfl) (fun _ _ _ h => h) (Or.inl ⟨by rfl, ?_⟩) ?_ ?_
    rotate_left
    · intro w'; go_simp; with_reducible rfl
    rotate_left
    · simp only [sxx]; rfl
    refine pure_ (i := 10) (N := some 39) (v := ?_) (a' := ?_) bq188 rfl rfl (by kernel_rfl) (fun _ _ _ h => h) (Or.inl ⟨by rfl, ?_⟩) ?_ ?_
    rotate_left
    · intro w'; go_simp; with_reducible rfl
    rotate_left
    · simp only [sxx]; rfl
    refine take_ (i := 6) (N := some 35) (v := ?_) (a' := ?_) bq189 rfl rfl (by kernel_rfl) (fun _ _ _ h => h) (Or.inl ⟨by rfl, ?_⟩) hHeld ?_ ?_
    rotate_left
    · rintro w' ⟨s0, s1, s2⟩
      go_simp; with_reducible rfl
    rotate_left
    · simp only [sxx]; rfl
    refine take_ (i := 8) (N := some 37) (v := ?_) (a' := ?_) bq190 rfl rfl (by kernel_rfl) (fun _ _ _ h => h) (Or.inl ⟨by rfl, ?_⟩) hHeld ?_ ?_
    rotate_left
    · rintro w' ⟨s0, s1, s2⟩
      go_simp; with_reducible rfl
    rotate_left
    · simp only [sxx]; rfl
    refine one_ (i := 11) (N := none) bq191 rfl rfl (by kernel_rfl) (by decide) (fun K hK => ?_)
    refine skip_ (w1 := ?_) (by rfl) rfl ?_ ?_
    rotate_left
    · go_simp; rfl
    refine hK.out _ _ ⟨(by first | exact set_other hgp a10 | exact drew_cell (set_other hgp b10) | exact set_other hgp b10), (by first | exact set_other hgp a11 | exact drew_cell (set_other hgp b11) | exact set_other hgp b11), (by first | exact set_other hgp a12 | exact drew_cell (set_other hgp b12) | exact set_other hgp b12)⟩ (fun hHeld => ?_)
    clear hK K
    refine pure_ (i := 12) (N := some 40) (v := ?_) (a' := ?_) bq192 rfl rfl (by kernel_rfl) (fun _ _ _ h => h) (Or.inl ⟨by rfl, ?_⟩) ?_ ?_
    rotate_left
    · intro w'; go_simp; with_reducible rfl
    rotate_left
    · simp only [sxx]; rfl
    refine pure_ (i := 13) (N := some 41) (v := ?_) (a' := ?_) bq193 rfl rfl (by kernel_rfl) (fun _ _ _ h => h) (Or.inl ⟨by rfl, ?_⟩) ?_ ?_
    rotate_left
    · intro w'; go_simp; with_reducible rfl
    rotate_left
    · simp only [sxx]; rfl
    refine one_ (i := 14) (N := none) bq136 rfl rfl (by kernel_rfl) (by decide) (fun K hK => ?_)
    refine skip_ (w1 := ?_) (by rfl) rfl ?_ ?_
    rotate_left
    · go_simp; rfl
    refine hK.out _ _ ⟨(by first | exact set_other hgp (set_other hgp a10) | exact drew_cell (set_other hgp (set_other hgp b10)) | exact set_other hgp (set_other hgp b10)), (by first | exact set_other hgp (set_other hgp a11) | exact drew_cell (set_other hgp (set_other hgp b11)) | exact set_other hgp (set_other hgp b11)), (by first | exact set_other hgp (set_other hgp a12) | exact drew_cell (set_other hgp (set_other hgp b12)) | exact set_other hgp (set_other hgp b12))⟩ (fun hHeld => ?_)
    clear hK K
    refine pure_ (i := 15) (N := some 42) (v := ?_) (a' := ?_) bq137 rfl rfl (by kernel_rfl) (fun _ _ _ h => h) (Or.inl ⟨by rfl, ?_⟩) ?_ ?_
    rotate_left
    · intro w'; go_simp; with_reducible rfl
    rotate_left
    · simp only [sxx]; rfl
    refine pure_ (i := 16) (N := some 43) (v := ?_) (a' := ?_) bq138 rfl rfl (by kernel_rfl) (fun _ _ _ h => h) (Or.inl ⟨by rfl, ?_⟩) ?_ ?_
    rotate_left
    · intro w'; go_simp; with_reducible rfl
    rotate_left
    · simp only [sxx]; rfl
    refine last_ (i := 17) (N := none) bq139 rfl rfl (by kernel_rfl) (by decide) (fun K hK => ?_)
    refine skip_ (w1 := ?_) (by rfl) rfl ?_ ?_
    rotate_left
    · go_simp; rfl
    refine hK.out _ _ ?_
    clear hK K
    refine done_ (by kernel_rfl) ?_
    clear hHeld a10 a11 a12 b10 b11 b12 c4 c5 c6 z4 z5 z6 hgp
    obtain ⟨w7, hw7⟩ : ∃ w7, w7 = (((wa.setCell ⟨p, 4, none⟩ (.int .i64 st)).setCell ⟨p, 5, none⟩ (.int .i64 of)).setCell ⟨p, 6, none⟩ (.string x)).drew := ⟨_, rfl⟩
    rw [← hw7]
    have HP7 := Aside0.mk (show w7.heap[p]? = some (.cells (({ ({ s with es := s.es.drop d } : SV) with st := st, of := of, x := x } : SV).cells E1 m c1) 53 (0, 0)) by
      rw [hw7]
      show (((wa.setCell ⟨p, 4, none⟩ (.int .i64 st)).setCell ⟨p, 5, none⟩ (.int .i64 of)).setCell ⟨p, 6, none⟩ (.string x)).heap[p]? = _
      refine blk_put (cs := ({ ({ s with es := s.es.drop d } : SV) with st := st, of := of } : SV).cells E1 m c1) ?_ 6 _ rfl
      refine blk_put (cs := ({ ({ s with es := s.es.drop d } : SV) with st := st } : SV).cells E1 m c1) ?_ 5 _ rfl
      exact blk_put HPa.out 4 _ rfl)
    have HG7 := Aside0.mk (show w7.heap[g]? = some (.cells (recCells kd a v k se rq A n c vn vp vb st of x) 116 (0, 0)) by
      rw [hw7]
      exact blk_far (blk_far (blk_far HGa.out (by simp only; exact HPG.out) _) (by simp only; exact HPG.out) _) (by simp only; exact HPG.out) _)
    have HX7 := Aside0.mk (show Frm w w7 (fun k => k = p) by
      rw [hw7]
      exact (((HXa.out.set_ (p := ⟨p, 4, none⟩) (.inl rfl) _).set_ (p := ⟨p, 5, none⟩) (.inl rfl) _).set_ (p := ⟨p, 6, none⟩) (.inl rfl) _).drew)
    have HR7 := Aside0.mk (show Kd.R k24 24 w7 base ok (.slice E1 m c1) (s.es.drop d) by
      rw [hw7]
      have ht : ∀ t, t ∈ 24 :: k24.E → t ≠ 53 := fun t ht => by rcases k24_types ht with rfl | rfl <;> decide
      have h4 := Kd.R_set HRa.out HPa.out ht 4 (.int .i64 st)
      have h5 := Kd.R_set h4 (blk_put HPa.out 4 _ rfl) ht 5 (.int .i64 of)
      have h6 := Kd.R_set h5 (blk_put (blk_put HPa.out 4 _ rfl) 5 _ rfl) ht 6 (.string x)
      exact Kd.R_step h6 (fun _ _ _ => rfl))
    clear hw7
    have c8 : w7.drew.cell? ⟨p, 8, none⟩ = some (.int .i64 s.co) := (blk_cell (w := w7.drew) HP7.out 8).trans rfl
    have a10 : w7.drew.cell? ⟨g, 10, none⟩ = some (.int .i64 st) := (blk_cell (w := w7.drew) HG7.out 10).trans rfl
    have z8 := blk_frozen HP7.out 8
    go_wp2_with fail
    refine start_ (n := 11) (S := fun w' => w'.cell? ⟨p, 8, none⟩ = some (.int .i64 s.co) ∧ w'.cell? ⟨g, 10, none⟩ = some (.int .i64 st)) (ds := [10]) bq147 (by kernel_rfl) rfl rfl ⟨c8, a10⟩ (fun hHeld => ?_)
    refine pure_ (i := 0) (N := some 44) (v := ?_) (a' := ?_) bq148 rfl rfl (by kernel_rfl) (fun _ _ _ h => h) (Or.inl ⟨by rfl, ?_⟩) ?_ ?_
    rotate_left
    · intro w'; go_simp; with_reducible rfl
    rotate_left
    · simp only [sxx]; rfl
    refine pure_ (i := 1) (N := some 45) (v := ?_) (a' := ?_) bq149 rfl rfl (by kernel_rfl) (fun _ _ _ h => h) (Or.inl ⟨by rfl, ?_⟩) ?_ ?_
    rotate_left
    · intro w'; go_simp; with_reducible rfl
    rotate_left
    · simp only [sxx]; rfl
    refine pure_ (i := 2) (N := some 46) (v := ?_) (a' := ?_) bq150 rfl rfl (by kernel_rfl) (fun _ _ _ h => h) (Or.inl ⟨by rfl, ?_⟩) ?_ ?_
    rotate_left
    · intro w'; go_simp; with_reducible rfl
    rotate_left
    · simp only [sxx]; rfl
    refine pure_ (i := 3) (N := some 47) (v := ?_) (a' := ?_) bq151 rfl rfl (by kernel_rfl) (fun _ _ _ h => h) (Or.inl ⟨by rfl, ?_⟩) ?_ ?_
    rotate_left
    · intro w'; go_simp; with_reducible rfl
    rotate_left
    · simp only [sxx]; rfl
    refine pure_ (i := 5) (N := some 49) (v := ?_) (a' := ?_) bq194 rfl rfl (by kernel_rfl) (fun _ _ _ h => h) (Or.inl ⟨by rfl, ?_⟩) ?_ ?_
    rotate_left
    · intro w'; go_simp; with_reducible rfl
    rotate_left
    · simp only [sxx]; rfl
    refine take_ (i := 4) (N := some 48) (v := ?_) (a' := ?_) bq153 rfl rfl (by kernel_rfl) (fun _ _ _ h => h) (Or.inl ⟨by rfl, ?_⟩) hHeld ?_ ?_
    rotate_left
    · rintro w' ⟨s0, s1⟩
      go_simp; with_reducible rfl
    rotate_left
    · simp only [sxx]; rfl
    refine take_ (i := 6) (N := some 50) (v := ?_) (a' := ?_) bq154 rfl rfl (by kernel_rfl) (fun _ _ _ h => h) (Or.inl ⟨by rfl, ?_⟩) hHeld ?_ ?_
    rotate_left
    · rintro w' ⟨s0, s1⟩
      go_simp; with_reducible rfl
    rotate_left
    · simp only [sxx]; rfl
    refine pure_ (i := 7) (N := some 51) (v := ?_) (a' := ?_) bq155 rfl rfl (by kernel_rfl) (fun _ _ _ h => h) (Or.inl ⟨by rfl, ?_⟩) ?_ ?_
    rotate_left
    · intro w'; go_simp; with_reducible rfl
    rotate_left
    · simp only [sxx]; rfl
    refine pure_ (i := 8) (N := some 52) (v := ?_) (a' := ?_) bq156 rfl rfl (by kernel_rfl) (fun _ _ _ h => h) (Or.inl ⟨by rfl, ?_⟩) ?_ ?_
    rotate_left
    · intro w'; go_simp; with_reducible rfl
    rotate_left
    · simp only [sxx]; rfl
    refine pure_ (i := 9) (N := some 53) (v := ?_) (a' := ?_) bq157 rfl rfl (by kernel_rfl) (fun _ _ _ h => h) (Or.inl ⟨by rfl, ?_⟩) ?_ ?_
    rotate_left
    · intro w'; go_simp; with_reducible rfl
    rotate_left
    · simp only [sxx]; rfl
    refine last_ (i := 10) (N := none) bq158 rfl rfl (by kernel_rfl) (by decide) (fun K hK => ?_)
    refine skip_ (w1 := ?_) (by rfl) rfl ?_ ?_
    rotate_left
    · go_simp; rfl
    refine hK.out _ _ ?_
    clear hK K
    refine done_ (by kernel_rfl) ?_
    go_end0
    rw [if_max s.co st]
    refine ⟨⟨_, rfl⟩, E1, c1, ?_, ?_, ?_⟩
    · exact blk_put HP7.out 8 _ rfl
    · exact Kd.R_set HR7.out HP7.out (fun t ht => by rcases k24_types ht with rfl | rfl <;> decide) 8 _
    · exact (HX7.out.set_ (p := ⟨p, 8, none⟩) (.inl rfl) _).drew
  · have e1 : decide ((d : Int) ≤ (ne : Int)) = false := decide_eq_false (by omega)
    have e2 : decide (d ≤ ne) = false := decide_eq_false h1
    have HNL := Aside0.mk (show s.es = [] from HDD.out.resolve_left h1)
    have HND := Aside0.mk (show ne = m by rw [HMM.out, HNL.out, List.drop_nil, ← HN.out, HNL.out])
    clear h1
    go_wp2_with fail
    clear c7 e1 e2 w0
    obtain ⟨wa, hwa⟩ : ∃ wa, wa = w2 := ⟨_, rfl⟩
    rw [← hwa]
    have HPa := Aside0.mk (show wa.heap[p]? = some (.cells ((({ s with es := s.es.drop d } : SV)).cells E m ce) 53 (0, 0)) by
      rw [hwa, ← HND.out]
      have : (({ s with es := s.es.drop d } : SV)) = s := by
        cases s
        have h := HNL.out
        simp only at h
        subst h
        simp
      rw [this]
      exact HP2.out)
    have HGa := Aside0.mk (show wa.heap[g]? = some (.cells (recCells kd a v k se rq A n c vn vp vb st of x) 116 (0, 0)) by rw [hwa]; exact HG2.out)
    have HXa := Aside0.mk (show Frm w wa (fun k => k = p) by rw [hwa]; exact HX2.out)
    have HRa := Aside0.mk (show Kd.R k24 24 wa base ok (.slice E m ce) (s.es.drop d) by
      rw [hwa, ← HND.out, HNL.out, List.drop_nil]
      have h := HR2.out
      rw [HNL.out] at h
      exact h)
    clear hwa
    have a10 : wa.drew.cell? ⟨g, 10, none⟩ = some (.int .i64 st) := (blk_cell (w := wa.drew) HGa.out 10).trans rfl
    have b10 : wa.cell? ⟨g, 10, none⟩ = some (.int .i64 st) := a10
    have a11 : wa.drew.cell? ⟨g, 11, none⟩ = some (.int .i64 of) := (blk_cell (w := wa.drew) HGa.out 11).trans rfl
    have b11 : wa.cell? ⟨g, 11, none⟩ = some (.int .i64 of) := a11
    have a12 : wa.drew.cell? ⟨g, 12, none⟩ = some (.string x) := (blk_cell (w := wa.drew) HGa.out 12).trans rfl
    have b12 : wa.cell? ⟨g, 12, none⟩ = some (.string x) := a12
    have c4 := (blk_cell HPa.out 4).trans rfl
    have z4 := blk_frozen HPa.out 4
    have c5 := (blk_cell HPa.out 5).trans rfl
    have z5 := blk_frozen HPa.out 5
    have c6 := (blk_cell HPa.out 6).trans rfl
    have z6 := blk_frozen HPa.out 6
    have hgp := HPG.out
    refine start_ (n := 18) (S := fun w' => w'.cell? ⟨g, 10, none⟩ = some (.int .i64 st) ∧ w'.cell? ⟨g, 11, none⟩ = some (.int .i64 of) ∧ w'.cell? ⟨g, 12, none⟩ = some (.string x)) (ds := [17]) bq121 (by kernel_rfl) rfl rfl ⟨a10, a11, a12⟩ (fun hHeld => ?_)
    refine pure_ (i := 0) (N := some 29) (v := ?_) (a' := ?_) bq122 rfl rfl (by kernel_rfl) (fun _ _ _ h => h) (Or.inl ⟨by rfl, ?_⟩) ?_ ?_
    rotate_left
    · intro w'; go_simp; with_reducible rfl
    rotate_left
    · simp only [sxx]; rfl
    refine pure_ (i := 1) (N := some 30) (v := ?_) (a' := ?_) bq123 rfl rfl (by kernel_rfl) (fun _ _ _ h => h) (Or.inl ⟨by rfl, ?_⟩) ?_ ?_
    rotate_left
    · intro w'; go_simp; with_reducible rfl
    rotate_left
    · simp only [sxx]; rfl
    refine pure_ (i := 2) (N := some 31) (v := ?_) (a' := ?_) bq124 rfl rfl (by kernel_rfl) (fun _ _ _ h => h) (Or.inl ⟨by rfl, ?_⟩) ?_ ?_
    rotate_left
    · intro w'; go_simp; with_reducible rfl
    rotate_left
    · simp only [sxx]; rfl
    refine pure_ (i := 3) (N := some 32) (v := ?_) (a' := ?_) bq125 rfl rfl (by kernel_rfl) (fun _ _ _ h => h) (Or.inl ⟨by rfl, ?_⟩) ?_ ?_
    rotate_left
    · intro w'; go_simp; with_reducible rfl
    rotate_left
    · simp only [sxx]; rfl
    refine pure_ (i := 5) (N := some 34) (v := ?_) (a' := ?_) bq184 rfl rfl (by kernel_rfl) (fun _ _ _ h => h) (Or.inl ⟨by rfl, ?_⟩) ?_ ?_
    rotate_left
    · intro w'; go_simp; with_reducible rfl
    rotate_left
    · simp only [sxx]; rfl
    refine pure_ (i := 7) (N := some 36) (v := ?_) (a' := ?_) bq185 rfl rfl (by kernel_rfl) (fun _ _ _ h => h) (Or.inl ⟨by rfl, ?_⟩) ?_ ?_
    rotate_left
    · intro w'; go_simp; with_reducible rfl
    rotate_left
    · simp only [sxx]; rfl
    refine take_ (i := 4) (N := some 33) (v := ?_) (a' := ?_) bq186 rfl rfl (by kernel_rfl) (fun _ _ _ h => h) (Or.inl ⟨by rfl, ?_⟩) hHeld ?_ ?_
    rotate_left
    · rintro w' ⟨s0, s1, s2⟩
      go_simp; with_reducible rfl
    rotate_left
    · simp only [sxx]; rfl
    refine pure_ (i := 9) (N := some 38) (v := ?_) (a' := ?_) bq187 rfl rfl (by kernel_rfl) (fun _ _ _ h => h) (Or.inl ⟨by rfl, ?_⟩) ?_ ?_
    rotate_left
    · intro w'; go_simp; with_reducible rfl
    rotate_left
    · simp only [sxx]; rfl
    refine pure_ (i := 10) (N := some 39) (v := ?_) (a' := ?_) bq188 rfl rfl (by kernel_rfl) (fun _ _ _ h => h) (Or.inl ⟨by rfl, ?_⟩) ?_ ?_
    rotate_left
    · intro w'; go_simp; with_reducible rfl
    rotate_left
    · simp only [sxx]; rfl
    refine take_ (i := 6) (N := some 35) (v := ?_) (a' := ?_) bq189 rfl rfl (by kernel_rfl) (fun _ _ _ h => h) (Or.inl ⟨by rfl, ?_⟩) hHeld ?_ ?_
    rotate_left
    · rintro w' ⟨s0, s1, s2⟩
      go_simp; with_reducible rfl
    rotate_left
    · simp only [sxx]; rfl
    refine take_ (i := 8) (N := some 37) (v := ?_) (a' := ?_) bq190 rfl rfl (by kernel_rfl) (fun _ _ _ h => h) (Or.inl ⟨by rfl, ?_⟩) hHeld ?_ ?_
    rotate_left
    · rintro w' ⟨s0, s1, s2⟩
      go_simp; with_reducible rfl
    rotate_left
    · simp only [sxx]; rfl
    refine one_ (i := 11) (N := none) bq191 rfl rfl (by kernel_rfl) (by decide) (fun K hK => ?_)
    refine skip_ (w1 := ?_) (by rfl) rfl ?_ ?_
    rotate_left
    · go_simp; rfl
    refine hK.out _ _ ⟨(by first | exact set_other hgp a10 | exact drew_cell (set_other hgp b10) | exact set_other hgp b10), (by first | exact set_other hgp a11 | exact drew_cell (set_other hgp b11) | exact set_other hgp b11), (by first | exact set_other hgp a12 | exact drew_cell (set_other hgp b12) | exact set_other hgp b12)⟩ (fun hHeld => ?_)
    clear hK K
    refine pure_ (i := 12) (N := some 40) (v := ?_) (a' := ?_) bq192 rfl rfl (by kernel_rfl) (fun _ _ _ h => h) (Or.inl ⟨by rfl, ?_⟩) ?_ ?_
    rotate_left
    · intro w'; go_simp; with_reducible rfl
    rotate_left
    · simp only [sxx]; rfl
    refine pure_ (i := 13) (N := some 41) (v := ?_) (a' := ?_) bq193 rfl rfl (by kernel_rfl) (fun _ _ _ h => h) (Or.inl ⟨by rfl, ?_⟩) ?_ ?_
    rotate_left
    · intro w'; go_simp; with_reducible rfl
    rotate_left
    · simp only [sxx]; rfl
    refine one_ (i := 14) (N := none) bq136 rfl rfl (by kernel_rfl) (by decide) (fun K hK => ?_)
    refine skip_ (w1 := ?_) (by rfl) rfl ?_ ?_
    rotate_left
    · go_simp; rfl
    refine hK.out _ _ ⟨(by first | exact set_other hgp (set_other hgp a10) | exact drew_cell (set_other hgp (set_other hgp b10)) | exact set_other hgp (set_other hgp b10)), (by first | exact set_other hgp (set_other hgp a11) | exact drew_cell (set_other hgp (set_other hgp b11)) | exact set_other hgp (set_other hgp b11)), (by first | exact set_other hgp (set_other hgp a12) | exact drew_cell (set_other hgp (set_other hgp b12)) | exact set_other hgp (set_other hgp b12))⟩ (fun hHeld => ?_)
    clear hK K
    refine pure_ (i := 15) (N := some 42) (v := ?_) (a' := ?_) bq137 rfl rfl (by kernel_rfl) (fun _ _ _ h => h) (Or.inl ⟨by rfl, ?_⟩) ?_ ?_
    rotate_left
    · intro w'; go_simp; with_reducible rfl
    rotate_left
    · simp only [sxx]; rfl
    refine pure_ (i := 16) (N := some 43) (v := ?_) (a' := ?_) bq138 rfl rfl (by kernel_rfl) (fun _ _ _ h => h) (Or.inl ⟨by rfl, ?_⟩) ?_ ?_
    rotate_left
    · intro w'; go_simp; with_reducible rfl
    rotate_left
    · simp only [sxx]; rfl
    refine last_ (i := 17) (N := none) bq139 rfl rfl (by kernel_rfl) (by decide) (fun K hK => ?_)
    refine skip_ (w1 := ?_) (by rfl) rfl ?_ ?_
    rotate_left
    · go_simp; rfl
    refine hK.out _ _ ?_
    clear hK K
    refine done_ (by kernel_rfl) ?_
    clear hHeld a10 a11 a12 b10 b11 b12 c4 c5 c6 z4 z5 z6 hgp
    obtain ⟨w7, hw7⟩ : ∃ w7, w7 = (((wa.setCell ⟨p, 4, none⟩ (.int .i64 st)).setCell ⟨p, 5, none⟩ (.int .i64 of)).setCell ⟨p, 6, none⟩ (.string x)).drew := ⟨_, rfl⟩
    rw [← hw7]
    have HP7 := Aside0.mk (show w7.heap[p]? = some (.cells (({ ({ s with es := s.es.drop d } : SV) with st := st, of := of, x := x } : SV).cells E m ce) 53 (0, 0)) by
      rw [hw7]
      show (((wa.setCell ⟨p, 4, none⟩ (.int .i64 st)).setCell ⟨p, 5, none⟩ (.int .i64 of)).setCell ⟨p, 6, none⟩ (.string x)).heap[p]? = _
      refine blk_put (cs := ({ ({ s with es := s.es.drop d } : SV) with st := st, of := of } : SV).cells E m ce) ?_ 6 _ rfl
      refine blk_put (cs := ({ ({ s with es := s.es.drop d } : SV) with st := st } : SV).cells E m ce) ?_ 5 _ rfl
      exact blk_put HPa.out 4 _ rfl)
    have HG7 := Aside0.mk (show w7.heap[g]? = some (.cells (recCells kd a v k se rq A n c vn vp vb st of x) 116 (0, 0)) by
      rw [hw7]
      exact blk_far (blk_far (blk_far HGa.out (by simp only; exact HPG.out) _) (by simp only; exact HPG.out) _) (by simp only; exact HPG.out) _)
    have HX7 := Aside0.mk (show Frm w w7 (fun k => k = p) by
      rw [hw7]
      exact (((HXa.out.set_ (p := ⟨p, 4, none⟩) (.inl rfl) _).set_ (p := ⟨p, 5, none⟩) (.inl rfl) _).set_ (p := ⟨p, 6, none⟩) (.inl rfl) _).drew)
    have HR7 := Aside0.mk (show Kd.R k24 24 w7 base ok (.slice E m ce) (s.es.drop d) by
      rw [hw7]
      have ht : ∀ t, t ∈ 24 :: k24.E → t ≠ 53 := fun t ht => by rcases k24_types ht with rfl | rfl <;> decide
      have h4 := Kd.R_set HRa.out HPa.out ht 4 (.int .i64 st)
      have h5 := Kd.R_set h4 (blk_put HPa.out 4 _ rfl) ht 5 (.int .i64 of)
      have h6 := Kd.R_set h5 (blk_put (blk_put HPa.out 4 _ rfl) 5 _ rfl) ht 6 (.string x)
      exact Kd.R_step h6 (fun _ _ _ => rfl))
    clear hw7
    have c8 : w7.drew.cell? ⟨p, 8, none⟩ = some (.int .i64 s.co) := (blk_cell (w := w7.drew) HP7.out 8).trans rfl
    have a10 : w7.drew.cell? ⟨g, 10, none⟩ = some (.int .i64 st) := (blk_cell (w := w7.drew) HG7.out 10).trans rfl
    have z8 := blk_frozen HP7.out 8
    go_wp2_with fail
    refine start_ (n := 11) (S := fun w' => w'.cell? ⟨p, 8, none⟩ = some (.int .i64 s.co) ∧ w'.cell? ⟨g, 10, none⟩ = some (.int .i64 st)) (ds := [10]) bq147 (by kernel_rfl) rfl rfl ⟨c8, a10⟩ (fun hHeld => ?_)
    refine pure_ (i := 0) (N := some 44) (v := ?_) (a' := ?_) bq148 rfl rfl (by kernel_rfl) (fun _ _ _ h => h) (Or.inl ⟨by rfl, ?_⟩) ?_ ?_
    rotate_left
    · intro w'; go_simp; with_reducible rfl
    rotate_left
    · simp only [sxx]; rfl
    refine pure_ (i := 1) (N := some 45) (v := ?_) (a' := ?_) bq149 rfl rfl (by kernel_rfl) (fun _ _ _ h => h) (Or.inl ⟨by rfl, ?_⟩) ?_ ?_
    rotate_left
    · intro w'; go_simp; with_reducible rfl
    rotate_left
    · simp only [sxx]; rfl
    refine pure_ (i := 2) (N := some 46) (v := ?_) (a' := ?_) bq150 rfl rfl (by kernel_rfl) (fun _ _ _ h => h) (Or.inl ⟨by rfl, ?_⟩) ?_ ?_
    rotate_left
    · intro w'; go_simp; with_reducible rfl
    rotate_left
    · simp only [sxx]; rfl
    refine pure_ (i := 3) (N := some 47) (v := ?_) (a' := ?_) bq151 rfl rfl (by kernel_rfl) (fun _ _ _ h => h) (Or.inl ⟨by rfl, ?_⟩) ?_ ?_
    rotate_left
    · intro w'; go_simp; with_reducible rfl
    rotate_left
    · simp only [sxx]; rfl
    refine pure_ (i := 5) (N := some 49) (v := ?_) (a' := ?_) bq194 rfl rfl (by kernel_rfl) (fun _ _ _ h => h) (Or.inl ⟨by rfl, ?_⟩) ?_ ?_
    rotate_left
    · intro w'; go_simp; with_reducible rfl
    rotate_left
    · simp only [sxx]; rfl
    refine take_ (i := 4) (N := some 48) (v := ?_) (a' := ?_) bq153 rfl rfl (by kernel_rfl) (fun _ _ _ h => h) (Or.inl ⟨by rfl, ?_⟩) hHeld ?_ ?_
    rotate_left
    · rintro w' ⟨s0, s1⟩
      go_simp; with_reducible rfl
    rotate_left
    · simp only [sxx]; rfl
    refine take_ (i := 6) (N := some 50) (v := ?_) (a' := ?_) bq154 rfl rfl (by kernel_rfl) (fun _ _ _ h => h) (Or.inl ⟨by rfl, ?_⟩) hHeld ?_ ?_
    rotate_left
    · rintro w' ⟨s0, s1⟩
      go_simp; with_reducible rfl
    rotate_left
    · simp only [sxx]; rfl
    refine pure_ (i := 7) (N := some 51) (v := ?_) (a' := ?_) bq155 rfl rfl (by kernel_rfl) (fun _ _ _ h => h) (Or.inl ⟨by rfl, ?_⟩) ?_ ?_
    rotate_left
    · intro w'; go_simp; with_reducible rfl
    rotate_left
    · simp only [sxx]; rfl
    refine pure_ (i := 8) (N := some 52) (v := ?_) (a' := ?_) bq156 rfl rfl (by kernel_rfl) (fun _ _ _ h => h) (Or.inl ⟨by rfl, ?_⟩) ?_ ?_
    rotate_left
    · intro w'; go_simp; with_reducible rfl
    rotate_left
    · simp only [sxx]; rfl
    refine pure_ (i := 9) (N := some 53) (v := ?_) (a' := ?_) bq157 rfl rfl (by kernel_rfl) (fun _ _ _ h => h) (Or.inl ⟨by rfl, ?_⟩) ?_ ?_
    rotate_left
    · intro w'; go_simp; with_reducible rfl
    rotate_left
    · simp only [sxx]; rfl
    refine last_ (i := 10) (N := none) bq158 rfl rfl (by kernel_rfl) (by decide) (fun K hK => ?_)
    refine skip_ (w1 := ?_) (by rfl) rfl ?_ ?_
    rotate_left
    · go_simp; rfl
    refine hK.out _ _ ?_
    clear hK K
    refine done_ (by kernel_rfl) ?_
    go_end0
    rw [if_max s.co st]
    refine ⟨⟨_, rfl⟩, E, ce, ?_, ?_, ?_⟩
    · exact blk_put HP7.out 8 _ rfl
    · exact Kd.R_set HR7.out HP7.out (fun t ht => by rcases k24_types ht with rfl | rfl <;> decide) 8 _
    · exact (HX7.out.set_ (p := ⟨p, 8, none⟩) (.inl rfl) _).drew

def SV.zero : SV := ⟨0, 0, 0, 0, 0, 0, ⟨#[]⟩, [], 0⟩
def JR.ent (y : JR) : S24 := ⟨y.s, y.v, y.k, y.se, y.rq, y.ops⟩
/-- What has been said, with a record that fits. -/
def SV.says (s : SV) (y : JR) : SV :=
  if y.kd = 1 then { s with es := s.es ++ [y.ent] }
  else if y.kd = 2 then { s with vn := y.vn, vp := y.vp, vb := y.vb }
  else if y.kd = 3 then { s with ma := y.vn }
  else if y.kd = 4 then { s with ma := y.vn, st := y.st, of := y.of, x := y.x, co := y.st, es := [] }
  else if y.kd = 5 then { s with es := s.es.drop (y.st - s.st).toNat, st := y.st, of := y.of, x := y.x, co := max s.co y.st }
  else { s with co := y.st }
/-- What Recover says of records: s, how many, how many bytes. -/
def rcGo : List JR → Nat → SV → Nat → SV × Nat × Nat
  | [], k, s, z => (s, k, z)
  | y :: L, k, s, z => if s.fits y (decide (k = 0)) = true then rcGo L (k + 1) (s.says y) (z + (y.enc ((k : Int) + 1)).1.length) else (s, k, z)
/-- What a record that Encode takes is like. -/
def JR.okay (y : JR) : Prop := (y.kd = 1 ∨ y.kd = 2 ∨ y.kd = 3 ∨ y.kd = 4 ∨ y.kd = 5 ∨ y.kd = 6) ∧ (y.kd = 4 ∨ y.kd = 5 ∨ y.kd = 6 → 0 ≤ y.st ∧ y.st ≤ 2147483647)
theorem body_okay {kd s v k se rq : Int} {l : List S40} {vn vp vb st of : Int} {x : ByteArray} (h2 : (recBody kd s v k se rq l vn vp vb st of x).2 = true) :
    (kd = 1 ∨ kd = 2 ∨ kd = 3 ∨ kd = 4 ∨ kd = 5 ∨ kd = 6) ∧ (kd = 4 ∨ kd = 5 ∨ kd = 6 → 0 ≤ st ∧ st ≤ 2147483647) := by
  unfold recBody at h2
  by_cases h1 : kd = 1
  · exact ⟨.inl h1, fun h => by omega⟩
  rw [if_neg h1] at h2
  by_cases h3 : kd = 2
  · exact ⟨.inr (.inl h3), fun h => by omega⟩
  rw [if_neg h3] at h2
  by_cases h4 : kd = 3
  · exact ⟨.inr (.inr (.inl h4)), fun h => by omega⟩
  rw [if_neg h4] at h2
  by_cases h5 : kd = 4
  · rw [if_pos h5] at h2
    simp only [Bool.and_eq_true, numOk, decide_eq_true_eq] at h2
    exact ⟨.inr (.inr (.inr (.inl h5))), fun h => h2.2.2.1⟩
  rw [if_neg h5] at h2
  by_cases h6 : kd = 5
  · rw [if_pos h6] at h2
    simp only [Bool.and_eq_true, numOk, decide_eq_true_eq] at h2
    exact ⟨.inr (.inr (.inr (.inr (.inl h6)))), fun h => h2.2.2.1⟩
  rw [if_neg h6] at h2
  by_cases h7 : kd = 6
  · rw [if_pos h7] at h2
    simp only [Bool.and_eq_true, numOk, decide_eq_true_eq] at h2
    exact ⟨.inr (.inr (.inr (.inr (.inr h7)))), fun h => h2.1⟩
  rw [if_neg h7] at h2
  cases h2
theorem enc_okay {y : JR} {sq : Int} {r1 : List Int} (h : y.enc sq = (r1, 0)) : y.okay := body_okay (recEnc_parts h).2.1
theorem zero_small : SV.zero.small := ⟨by decide, by decide, by decide, by decide⟩
theorem says_len (s : SV) (y : JR) : (s.says y).es.length ≤ s.es.length + 1 := by
  unfold SV.says
  split
  · simp
  split
  · simp
  split
  · simp
  split
  · simp
  split
  · simp only [List.length_drop]; omega
  · simp
theorem fits_save' {s : SV} {y : JR} (hk : y.kd = 5) (hf : s.fits y false = true) : s.st ≤ y.st ∧ y.st ≤ s.co := by
  unfold SV.fits at hf
  rw [if_neg (by omega), if_neg (by omega), if_neg (by omega), if_neg (by omega), if_pos hk, if_neg (by decide)] at hf
  by_cases h : y.st < s.st ∨ s.co < y.st
  · rw [if_pos h] at hf; cases hf
  · omega
theorem save_ahead {s : SV} {y : JR} {first : Bool} (hs : s.small) (hk : y.kd = 5) (hy : y.okay) (hf : s.fits y first = true) (hz : first = true → s = SV.zero) :
    s.st ≤ y.st ∧ ((y.st - s.st).toNat ≤ s.es.length ∨ s.es = []) := by
  have hst := hy.2 (.inr (.inl hk))
  cases first with
  | true =>
    obtain rfl := hz rfl
    exact ⟨hst.1, .inr rfl⟩
  | false =>
    have h := fits_save' hk hf
    have h2 := hs.2.2.2
    exact ⟨h.1, .inl (by omega)⟩
theorem says_small {s : SV} {y : JR} {first : Bool} (hs : s.small) (hf : s.fits y first = true) (hy : y.okay) (hz : first = true → s = SV.zero) (hl : s.es.length + 1 ≤ 1000000) : (s.says y).small := by
  obtain ⟨h1, h2, h3, h4⟩ := hs
  unfold SV.says
  by_cases k1 : y.kd = 1
  · rw [if_pos k1]
    exact ⟨h1, h2, by simp only [List.length_append, List.length_cons, List.length_nil]; omega, by simp only [List.length_append, List.length_cons, List.length_nil]; omega⟩
  rw [if_neg k1]
  by_cases k2 : y.kd = 2
  · rw [if_pos k2]; exact ⟨h1, h2, h3, h4⟩
  rw [if_neg k2]
  by_cases k3 : y.kd = 3
  · rw [if_pos k3]; exact ⟨h1, h2, h3, h4⟩
  rw [if_neg k3]
  by_cases k4 : y.kd = 4
  · rw [if_pos k4]
    have h := hy.2 (.inl k4)
    exact ⟨h.1, h.2, by simp, by simp⟩
  rw [if_neg k4]
  by_cases k5 : y.kd = 5
  · rw [if_pos k5]
    have h := hy.2 (.inr (.inl k5))
    have ha := save_ahead ⟨h1, h2, h3, h4⟩ k5 hy hf hz
    refine ⟨h.1, h.2, by simp only [List.length_drop]; omega, ?_⟩
    simp only [List.length_drop]
    cases first with
    | true =>
      obtain rfl := hz rfl
      have : max SV.zero.co y.st = y.st := by rw [Int.max_def]; have : SV.zero.co = 0 := rfl; split <;> omega
      rw [this]
      omega
    | false =>
      have h' := fits_save' k5 hf
      have : max s.co y.st = s.co := by rw [Int.max_def]; split <;> omega
      rw [this]
      omega
  rw [if_neg k5]
  have k6 : y.kd = 6 := by rcases hy.1 with h | h | h | h | h | h <;> first | exact absurd h ‹_› | exact h
  unfold SV.fits at hf
  rw [if_neg k1, if_neg k2, if_neg k3, if_neg k4, if_neg k5] at hf
  simp only [Bool.and_eq_true, decide_eq_true_eq, SV.lst] at hf
  exact ⟨h1, h2, h3, of_decide_eq_true hf.2⟩
/-- A Saved in block p; its entries a row of one's own. -/
structure SvAt (w : World) (p base : Nat) (ok : Nat → Prop) (s : SV) (E : Option Addr) (ne ce : Nat) : Prop where
  blk : w.heap[p]? = some (.cells (s.cells E ne ce) 53 (0, 0))
  row : Kd.R k24 24 w base ok (.slice E ne ce) s.es
  len : s.es.length = ne
  small : s.small
theorem SvAt.read {w : World} {p base : Nat} {ok : Nat → Prop} {s : SV} {E : Option Addr} {ne ce : Nat} (h : SvAt w p base ok s E ne ce) : Kd.C k24 w E ne s.es := by
  obtain ⟨A, c, e, _, hC⟩ := Kd.R_reads h.row
  injection e with e1 e2 e3
  rw [e1, e2]
  exact hC
theorem SvAt.below {w w' : World} {p base : Nat} {ok : Nat → Prop} {s : SV} {E : Option Addr} {ne ce : Nat} (h : SvAt w p base ok s E ne ce) (hb : Below w.heap.size w w') : SvAt w' p base ok s E ne ce :=
  ⟨(hb.block p (blk_lt h.blk)).trans h.blk, Kd.R_below h.row hb, h.len, h.small⟩
theorem SvAt.keep {w w' : World} {p base : Nat} {ok : Nat → Prop} {s s' : SV} {E : Option Addr} {ne ce : Nat} (h : SvAt w p base ok s E ne ce) (hp : w'.heap[p]? = some (.cells (s'.cells E ne ce) 53 (0, 0))) (he : s'.es = s.es) (hs : s'.small) (hF : Frm w w' (fun k => k = p)) : SvAt w' p base ok s' E ne ce := by
  refine ⟨hp, ?_, by rw [he]; exact h.len, hs⟩
  rw [he]
  exact Kd.R_mono (Kd.R_step (Kd.R_types h.row h.blk (fun t ht => by rcases k24_types ht with rfl | rfl <;> decide)) (fun j hj hlt => hF.block j hlt hj.2)) (fun _ hj => hj.1)
abbrev JR.rc (y : JR) (A : Option Addr) (m c : Nat) : Array Value := recCells y.kd y.s y.v y.k y.se y.rq A m c y.vn y.vp y.vb y.st y.of y.x
set_option maxHeartbeats 4000000 in
set_option maxRecDepth 100000 in
theorem knownR_1 (s v k se rq : Int) (A : Option Addr) (m c : Nat) (vn vp vb st of : Int) (x : ByteArray) (w : World) :
    Calls Try.prog 36 #[.agg (recCells 1 s v k se rq A m c vn vp vb st of x)] w fun e w' => e = .returned (.iface 112 (.agg #[.int .i64 s, .int .i64 v, .int .i64 k, .int .i64 se, .int .i64 rq, .slice A m c])) ∧ Below w.heap.size w w' := by
  have hu28 := Try.underlying28
  have hu26 := Try.underlying26
  have hu24 := Try.underlying24
  have hu112 := Try.underlying112
  go_enter Try.func36, Try.ntmps36
  go_wp2_with fail
  refine bodyPost_ret (results_tmp rfl _ _ _) rfl ?_
  exact ⟨rfl, below_alloc (Below.refl _ _) _⟩
theorem known_1 (y : JR) (hk : y.kd = 1) (A : Option Addr) (m c : Nat) (w : World) :
    Calls Try.prog 36 #[.agg (y.rc A m c)] w fun e w' => e = .returned (.iface 112 (.agg #[.int .i64 y.s, .int .i64 y.v, .int .i64 y.k, .int .i64 y.se, .int .i64 y.rq, .slice A m c])) ∧ Below w.heap.size w w' := by
  rw [show y.rc A m c = recCells 1 y.s y.v y.k y.se y.rq A m c y.vn y.vp y.vb y.st y.of y.x by rw [← hk]]
  exact knownR_1 _ _ _ _ _ _ _ _ _ _ _ _ _ _ _
set_option maxHeartbeats 4000000 in
set_option maxRecDepth 100000 in
theorem knownR_2 (s v k se rq : Int) (A : Option Addr) (m c : Nat) (vn vp vb st of : Int) (x : ByteArray) (w : World) :
    Calls Try.prog 36 #[.agg (recCells 2 s v k se rq A m c vn vp vb st of x)] w fun e w' => e = .returned (.iface 113 (.agg #[.int .i64 vn, .int .i64 vp, .int .i64 vb])) ∧ Below w.heap.size w w' := by
  have hu28 := Try.underlying28
  have hu26 := Try.underlying26
  have hu24 := Try.underlying24
  have hu113 := Try.underlying113
  go_enter Try.func36, Try.ntmps36
  go_wp2_with fail
  refine bodyPost_ret (results_tmp rfl _ _ _) rfl ?_
  exact ⟨rfl, below_alloc (Below.refl _ _) _⟩
theorem known_2 (y : JR) (hk : y.kd = 2) (A : Option Addr) (m c : Nat) (w : World) :
    Calls Try.prog 36 #[.agg (y.rc A m c)] w fun e w' => e = .returned (.iface 113 (.agg #[.int .i64 y.vn, .int .i64 y.vp, .int .i64 y.vb])) ∧ Below w.heap.size w w' := by
  rw [show y.rc A m c = recCells 2 y.s y.v y.k y.se y.rq A m c y.vn y.vp y.vb y.st y.of y.x by rw [← hk]]
  exact knownR_2 _ _ _ _ _ _ _ _ _ _ _ _ _ _ _
set_option maxHeartbeats 4000000 in
set_option maxRecDepth 100000 in
theorem knownR_3 (s v k se rq : Int) (A : Option Addr) (m c : Nat) (vn vp vb st of : Int) (x : ByteArray) (w : World) :
    Calls Try.prog 36 #[.agg (recCells 3 s v k se rq A m c vn vp vb st of x)] w fun e w' => e = .returned (.iface 114 (.int .i64 vn)) ∧ Below w.heap.size w w' := by
  have hu28 := Try.underlying28
  have hu26 := Try.underlying26
  have hu24 := Try.underlying24
  have hu114 := Try.underlying114
  go_enter Try.func36, Try.ntmps36
  go_wp2_with fail
  refine bodyPost_ret (results_tmp rfl _ _ _) rfl ?_
  exact ⟨rfl, below_alloc (Below.refl _ _) _⟩
theorem known_3 (y : JR) (hk : y.kd = 3) (A : Option Addr) (m c : Nat) (w : World) :
    Calls Try.prog 36 #[.agg (y.rc A m c)] w fun e w' => e = .returned (.iface 114 (.int .i64 y.vn)) ∧ Below w.heap.size w w' := by
  rw [show y.rc A m c = recCells 3 y.s y.v y.k y.se y.rq A m c y.vn y.vp y.vb y.st y.of y.x by rw [← hk]]
  exact knownR_3 _ _ _ _ _ _ _ _ _ _ _ _ _ _ _
set_option maxHeartbeats 4000000 in
set_option maxRecDepth 100000 in
theorem knownR_4 (s v k se rq : Int) (A : Option Addr) (m c : Nat) (vn vp vb st of : Int) (x : ByteArray) (w : World) :
    Calls Try.prog 36 #[.agg (recCells 4 s v k se rq A m c vn vp vb st of x)] w fun e w' => e = .returned (.iface 115 (.agg (recCells 4 s v k se rq A m c vn vp vb st of x))) ∧ Below w.heap.size w w' := by
  have hu28 := Try.underlying28
  have hu26 := Try.underlying26
  have hu24 := Try.underlying24
  have hu115 := Try.underlying115
  go_enter Try.func36, Try.ntmps36
  go_wp2_with fail
  refine bodyPost_ret (results_tmp rfl _ _ _) rfl ?_
  exact ⟨rfl, below_alloc (Below.refl _ _) _⟩
theorem known_4 (y : JR) (hk : y.kd = 4) (A : Option Addr) (m c : Nat) (w : World) :
    Calls Try.prog 36 #[.agg (y.rc A m c)] w fun e w' => e = .returned (.iface 115 (.agg (y.rc A m c))) ∧ Below w.heap.size w w' := by
  rw [show y.rc A m c = recCells 4 y.s y.v y.k y.se y.rq A m c y.vn y.vp y.vb y.st y.of y.x by rw [← hk]]
  exact knownR_4 _ _ _ _ _ _ _ _ _ _ _ _ _ _ _
set_option maxHeartbeats 4000000 in
set_option maxRecDepth 100000 in
theorem knownR_5 (s v k se rq : Int) (A : Option Addr) (m c : Nat) (vn vp vb st of : Int) (x : ByteArray) (w : World) :
    Calls Try.prog 36 #[.agg (recCells 5 s v k se rq A m c vn vp vb st of x)] w fun e w' => e = .returned (.iface 116 (.agg (recCells 5 s v k se rq A m c vn vp vb st of x))) ∧ Below w.heap.size w w' := by
  have hu28 := Try.underlying28
  have hu26 := Try.underlying26
  have hu24 := Try.underlying24
  have hu116 := Try.underlying116
  go_enter Try.func36, Try.ntmps36
  go_wp2_with fail
  refine bodyPost_ret (results_tmp rfl _ _ _) rfl ?_
  exact ⟨rfl, below_alloc (Below.refl _ _) _⟩
theorem known_5 (y : JR) (hk : y.kd = 5) (A : Option Addr) (m c : Nat) (w : World) :
    Calls Try.prog 36 #[.agg (y.rc A m c)] w fun e w' => e = .returned (.iface 116 (.agg (y.rc A m c))) ∧ Below w.heap.size w w' := by
  rw [show y.rc A m c = recCells 5 y.s y.v y.k y.se y.rq A m c y.vn y.vp y.vb y.st y.of y.x by rw [← hk]]
  exact knownR_5 _ _ _ _ _ _ _ _ _ _ _ _ _ _ _
set_option maxHeartbeats 4000000 in
set_option maxRecDepth 100000 in
theorem knownR_6 (s v k se rq : Int) (A : Option Addr) (m c : Nat) (vn vp vb st of : Int) (x : ByteArray) (w : World) :
    Calls Try.prog 36 #[.agg (recCells 6 s v k se rq A m c vn vp vb st of x)] w fun e w' => e = .returned (.iface 117 (.int .i64 st)) ∧ Below w.heap.size w w' := by
  have hu28 := Try.underlying28
  have hu26 := Try.underlying26
  have hu24 := Try.underlying24
  have hu117 := Try.underlying117
  go_enter Try.func36, Try.ntmps36
  go_wp2_with fail
  refine bodyPost_ret (results_tmp rfl _ _ _) rfl ?_
  exact ⟨rfl, below_alloc (Below.refl _ _) _⟩
theorem known_6 (y : JR) (hk : y.kd = 6) (A : Option Addr) (m c : Nat) (w : World) :
    Calls Try.prog 36 #[.agg (y.rc A m c)] w fun e w' => e = .returned (.iface 117 (.int .i64 y.st)) ∧ Below w.heap.size w w' := by
  rw [show y.rc A m c = recCells 6 y.s y.v y.k y.se y.rq A m c y.vn y.vp y.vb y.st y.of y.x by rw [← hk]]
  exact knownR_6 _ _ _ _ _ _ _ _ _ _ _ _ _ _ _
theorem fit_1 {w : World} {p base : Nat} {ok : Nat → Prop} {s : SV} {E : Option Addr} {ne ce : Nat} (h : SvAt w p base ok s E ne ce) (y : JR) (A : Option Addr) (m c : Nat) (hk : y.kd = 1) (hy : y.okay) (first : Bool) (r : Bool) (hr : s.fits y first = r) :
    Calls Try.prog 125 #[.agg #[.int .i64 y.s, .int .i64 y.v, .int .i64 y.k, .int .i64 y.se, .int .i64 y.rq, .slice A m c], .pointer (some ⟨p, 0, none⟩), .bool first] w fun e w' => e = .returned (.bool r) ∧ Below w.heap.size w w' := by
  refine (fits_entry w p s E ne ce h.blk h.read h.len h.small y.s y.v y.k y.se y.rq (.slice A m c) ⟨_, _, _, rfl⟩ first).mono ?_
  rintro e w' ⟨rfl, hb⟩
  refine ⟨?_, hb⟩
  rw [← hr]
  unfold SV.fits
  rw [if_pos hk]
theorem fit_2 {w : World} {p base : Nat} {ok : Nat → Prop} {s : SV} {E : Option Addr} {ne ce : Nat} (h : SvAt w p base ok s E ne ce) (y : JR) (A : Option Addr) (m c : Nat) (hk : y.kd = 2) (hy : y.okay) (first : Bool) (r : Bool) (hr : s.fits y first = r) :
    Calls Try.prog 127 #[.agg #[.int .i64 y.vn, .int .i64 y.vp, .int .i64 y.vb], .pointer (some ⟨p, 0, none⟩), .bool first] w fun e w' => e = .returned (.bool r) ∧ Below w.heap.size w w' := by
  refine (fits_view y.vn y.vp y.vb p _ s.vn first w h.blk rfl).mono ?_
  rintro e w' ⟨rfl, hb⟩
  refine ⟨?_, hb⟩
  rw [← hr]
  unfold SV.fits
  rw [if_neg (by omega), if_pos hk]
theorem fit_3 {w : World} {p base : Nat} {ok : Nat → Prop} {s : SV} {E : Option Addr} {ne ce : Nat} (h : SvAt w p base ok s E ne ce) (y : JR) (A : Option Addr) (m c : Nat) (hk : y.kd = 3) (hy : y.okay) (first : Bool) (r : Bool) (hr : s.fits y first = r) :
    Calls Try.prog 129 #[.int .i64 y.vn, .pointer (some ⟨p, 0, none⟩), .bool first] w fun e w' => e = .returned (.bool r) ∧ Below w.heap.size w w' := by
  refine (fits_matched w p s E ne ce h.blk y.vn first).mono ?_
  rintro e w' ⟨rfl, hb⟩
  refine ⟨?_, hb⟩
  rw [← hr]
  unfold SV.fits
  rw [if_neg (by omega), if_neg (by omega), if_pos hk]
theorem fit_4 {w : World} {p base : Nat} {ok : Nat → Prop} {s : SV} {E : Option Addr} {ne ce : Nat} (h : SvAt w p base ok s E ne ce) (y : JR) (A : Option Addr) (m c : Nat) (hk : y.kd = 4) (hy : y.okay) (first : Bool) (r : Bool) (hr : s.fits y first = r) :
    Calls Try.prog 131 #[.agg (y.rc A m c), .pointer (some ⟨p, 0, none⟩), .bool first] w fun e w' => e = .returned (.bool r) ∧ Below w.heap.size w w' := by
  refine (fits_reset w p s E ne ce h.blk y.kd y.s y.v y.k y.se y.rq A m c y.vn y.vp y.vb y.st y.of y.x first).mono ?_
  rintro e w' ⟨rfl, hb⟩
  refine ⟨?_, hb⟩
  rw [← hr]
  unfold SV.fits
  rw [if_neg (by omega), if_neg (by omega), if_neg (by omega), if_pos hk]
theorem fit_5 {w : World} {p base : Nat} {ok : Nat → Prop} {s : SV} {E : Option Addr} {ne ce : Nat} (h : SvAt w p base ok s E ne ce) (y : JR) (A : Option Addr) (m c : Nat) (hk : y.kd = 5) (hy : y.okay) (first : Bool) (r : Bool) (hr : s.fits y first = r) :
    Calls Try.prog 133 #[.agg (y.rc A m c), .pointer (some ⟨p, 0, none⟩), .bool first] w fun e w' => e = .returned (.bool r) ∧ Below w.heap.size w w' := by
  exact (fits_save w p s E ne ce h.blk h.read h.len h.small y.kd y.s y.v y.k y.se y.rq A m c y.vn y.vp y.vb y.st y.of y.x first (hy.2 (.inr (.inl hk))) r (by unfold SV.fits at hr; rw [if_neg (by omega), if_neg (by omega), if_neg (by omega), if_neg (by omega), if_pos hk] at hr; exact hr))
theorem fit_6 {w : World} {p base : Nat} {ok : Nat → Prop} {s : SV} {E : Option Addr} {ne ce : Nat} (h : SvAt w p base ok s E ne ce) (y : JR) (A : Option Addr) (m c : Nat) (hk : y.kd = 6) (hy : y.okay) (first : Bool) (r : Bool) (hr : s.fits y first = r) :
    Calls Try.prog 136 #[.int .i64 y.st, .pointer (some ⟨p, 0, none⟩), .bool first] w fun e w' => e = .returned (.bool r) ∧ Below w.heap.size w w' := by
  refine (fits_commit w p s E ne ce h.blk h.read h.len h.small y.st first).mono ?_
  rintro e w' ⟨rfl, hb⟩
  refine ⟨?_, hb⟩
  rw [← hr]
  unfold SV.fits
  rw [if_neg (by omega), if_neg (by omega), if_neg (by omega), if_neg (by omega), if_neg (by omega)]
theorem say_1 {w : World} {p base : Nat} {ok : Nat → Prop} {s : SV} {E : Option Addr} {ne ce : Nat} (h : SvAt w p base ok s E ne ce) (y : JR) (A : Option Addr) (m c : Nat) (hk : y.kd = 1) (hy : y.okay) (okx : Nat → Prop) (hv : Kd.R k40 40 w base okx (.slice A m c) y.ops) (hokx : ∀ k, okx k → ok k ∧ some k ≠ (Value.slice E ne ce).ownBlock) (hfresh : ∀ k, w.heap.size ≤ k → ok k) (hbase : base ≤ w.heap.size) (first : Bool) (hf : s.fits y first = true) (hz : first = true → s = SV.zero) (hsm : (s.says y).small) :
    Calls Try.prog 126 #[.agg #[.int .i64 y.s, .int .i64 y.v, .int .i64 y.k, .int .i64 y.se, .int .i64 y.rq, .slice A m c], .pointer (some ⟨p, 0, none⟩)] w fun r w' => (∃ v, r = .returned v) ∧ ∃ E' ne' ce', SvAt w' p base ok (s.says y) E' ne' ce' ∧ Frm w w' (fun k => k = p ∨ (Value.slice E ne ce).ownBlock = some k) := by
  have e1 : s.says y = ({ s with es := s.es ++ [y.ent] } : SV) := by unfold SV.says; rw [if_pos hk]
  rw [e1] at hsm ⊢
  refine (says_entry w p s E ne ce h.blk base ok okx h.row y.ent A m c hv hokx hfresh hbase h.small.2.2.1 _ rfl).mono ?_
  rintro r w' ⟨hr, E', ce', h1, h2, h3⟩
  exact ⟨hr, E', _, ce', ⟨h1, h2, rfl, hsm⟩, h3⟩
theorem say_2 {w : World} {p base : Nat} {ok : Nat → Prop} {s : SV} {E : Option Addr} {ne ce : Nat} (h : SvAt w p base ok s E ne ce) (y : JR) (A : Option Addr) (m c : Nat) (hk : y.kd = 2) (hy : y.okay) (okx : Nat → Prop) (hv : Kd.R k40 40 w base okx (.slice A m c) y.ops) (hokx : ∀ k, okx k → ok k ∧ some k ≠ (Value.slice E ne ce).ownBlock) (hfresh : ∀ k, w.heap.size ≤ k → ok k) (hbase : base ≤ w.heap.size) (first : Bool) (hf : s.fits y first = true) (hz : first = true → s = SV.zero) (hsm : (s.says y).small) :
    Calls Try.prog 128 #[.agg #[.int .i64 y.vn, .int .i64 y.vp, .int .i64 y.vb], .pointer (some ⟨p, 0, none⟩)] w fun r w' => (∃ v, r = .returned v) ∧ ∃ E' ne' ce', SvAt w' p base ok (s.says y) E' ne' ce' ∧ Frm w w' (fun k => k = p ∨ (Value.slice E ne ce).ownBlock = some k) := by
  have e1 : s.says y = ({ s with vn := y.vn, vp := y.vp, vb := y.vb } : SV) := by unfold SV.says; rw [if_neg (by omega), if_pos hk]
  rw [e1] at hsm ⊢
  refine (says_view y.vn y.vp y.vb p s.vn s.vp s.vb s.ma s.st s.of s.x E ne ce s.co w h.blk).mono ?_
  rintro r w' ⟨hr, h1, h3⟩
  exact ⟨hr, E, ne, ce, h.keep h1 rfl hsm h3, h3.mono (fun k hk _ => .inl hk)⟩
theorem say_3 {w : World} {p base : Nat} {ok : Nat → Prop} {s : SV} {E : Option Addr} {ne ce : Nat} (h : SvAt w p base ok s E ne ce) (y : JR) (A : Option Addr) (m c : Nat) (hk : y.kd = 3) (hy : y.okay) (okx : Nat → Prop) (hv : Kd.R k40 40 w base okx (.slice A m c) y.ops) (hokx : ∀ k, okx k → ok k ∧ some k ≠ (Value.slice E ne ce).ownBlock) (hfresh : ∀ k, w.heap.size ≤ k → ok k) (hbase : base ≤ w.heap.size) (first : Bool) (hf : s.fits y first = true) (hz : first = true → s = SV.zero) (hsm : (s.says y).small) :
    Calls Try.prog 130 #[.int .i64 y.vn, .pointer (some ⟨p, 0, none⟩)] w fun r w' => (∃ v, r = .returned v) ∧ ∃ E' ne' ce', SvAt w' p base ok (s.says y) E' ne' ce' ∧ Frm w w' (fun k => k = p ∨ (Value.slice E ne ce).ownBlock = some k) := by
  have e1 : s.says y = ({ s with ma := y.vn } : SV) := by unfold SV.says; rw [if_neg (by omega), if_neg (by omega), if_pos hk]
  rw [e1] at hsm ⊢
  refine (says_matched w p s E ne ce h.blk y.vn).mono ?_
  rintro r w' ⟨hr, h1, h3⟩
  exact ⟨hr, E, ne, ce, h.keep h1 rfl hsm h3, h3.mono (fun k hk _ => .inl hk)⟩
theorem say_4 {w : World} {p base : Nat} {ok : Nat → Prop} {s : SV} {E : Option Addr} {ne ce : Nat} (h : SvAt w p base ok s E ne ce) (y : JR) (A : Option Addr) (m c : Nat) (hk : y.kd = 4) (hy : y.okay) (okx : Nat → Prop) (hv : Kd.R k40 40 w base okx (.slice A m c) y.ops) (hokx : ∀ k, okx k → ok k ∧ some k ≠ (Value.slice E ne ce).ownBlock) (hfresh : ∀ k, w.heap.size ≤ k → ok k) (hbase : base ≤ w.heap.size) (first : Bool) (hf : s.fits y first = true) (hz : first = true → s = SV.zero) (hsm : (s.says y).small) :
    Calls Try.prog 132 #[.agg (y.rc A m c), .pointer (some ⟨p, 0, none⟩)] w fun r w' => (∃ v, r = .returned v) ∧ ∃ E' ne' ce', SvAt w' p base ok (s.says y) E' ne' ce' ∧ Frm w w' (fun k => k = p ∨ (Value.slice E ne ce).ownBlock = some k) := by
  have e1 : s.says y = ({ s with ma := y.vn, st := y.st, of := y.of, x := y.x, co := y.st, es := [] } : SV) := by unfold SV.says; rw [if_neg (by omega), if_neg (by omega), if_neg (by omega), if_pos hk]
  rw [e1] at hsm ⊢
  refine (says_reset w p s E ne ce h.blk y.kd y.s y.v y.k y.se y.rq A m c y.vn y.vp y.vb y.st y.of y.x).mono ?_
  rintro r w' ⟨hr, h1, h3⟩
  exact ⟨hr, none, 0, 0, ⟨h1, Kd.R_nil _ _ _ _ _, rfl, hsm⟩, h3.mono (fun k hk _ => .inl hk)⟩
theorem say_5 {w : World} {p base : Nat} {ok : Nat → Prop} {s : SV} {E : Option Addr} {ne ce : Nat} (h : SvAt w p base ok s E ne ce) (y : JR) (A : Option Addr) (m c : Nat) (hk : y.kd = 5) (hy : y.okay) (okx : Nat → Prop) (hv : Kd.R k40 40 w base okx (.slice A m c) y.ops) (hokx : ∀ k, okx k → ok k ∧ some k ≠ (Value.slice E ne ce).ownBlock) (hfresh : ∀ k, w.heap.size ≤ k → ok k) (hbase : base ≤ w.heap.size) (first : Bool) (hf : s.fits y first = true) (hz : first = true → s = SV.zero) (hsm : (s.says y).small) :
    Calls Try.prog 134 #[.agg (y.rc A m c), .pointer (some ⟨p, 0, none⟩)] w fun r w' => (∃ v, r = .returned v) ∧ ∃ E' ne' ce', SvAt w' p base ok (s.says y) E' ne' ce' ∧ Frm w w' (fun k => k = p ∨ (Value.slice E ne ce).ownBlock = some k) := by
  have e1 : s.says y = ({ s with es := s.es.drop (y.st - s.st).toNat, st := y.st, of := y.of, x := y.x, co := max s.co y.st } : SV) := by unfold SV.says; rw [if_neg (by omega), if_neg (by omega), if_neg (by omega), if_neg (by omega), if_pos hk]
  rw [e1] at hsm ⊢
  have ha := save_ahead h.small hk hy hf hz
  refine (says_save w p s E ne ce h.blk base ok h.row hfresh hbase h.small y.kd y.s y.v y.k y.se y.rq A m c y.vn y.vp y.vb y.st y.of y.x (y.st - s.st).toNat (by omega) (by rw [← h.len]; exact ha.2) (hy.2 (.inr (.inl hk))).2 _ rfl).mono ?_
  rintro r w' ⟨hr, E', ce', h1, h2, h3⟩
  exact ⟨hr, E', _, ce', ⟨h1, h2, rfl, hsm⟩, h3.mono (fun k hk _ => .inl hk)⟩
theorem say_6 {w : World} {p base : Nat} {ok : Nat → Prop} {s : SV} {E : Option Addr} {ne ce : Nat} (h : SvAt w p base ok s E ne ce) (y : JR) (A : Option Addr) (m c : Nat) (hk : y.kd = 6) (hy : y.okay) (okx : Nat → Prop) (hv : Kd.R k40 40 w base okx (.slice A m c) y.ops) (hokx : ∀ k, okx k → ok k ∧ some k ≠ (Value.slice E ne ce).ownBlock) (hfresh : ∀ k, w.heap.size ≤ k → ok k) (hbase : base ≤ w.heap.size) (first : Bool) (hf : s.fits y first = true) (hz : first = true → s = SV.zero) (hsm : (s.says y).small) :
    Calls Try.prog 137 #[.int .i64 y.st, .pointer (some ⟨p, 0, none⟩)] w fun r w' => (∃ v, r = .returned v) ∧ ∃ E' ne' ce', SvAt w' p base ok (s.says y) E' ne' ce' ∧ Frm w w' (fun k => k = p ∨ (Value.slice E ne ce).ownBlock = some k) := by
  have e1 : s.says y = ({ s with co := y.st } : SV) := by unfold SV.says; rw [if_neg (by omega), if_neg (by omega), if_neg (by omega), if_neg (by omega), if_neg (by omega)]
  rw [e1] at hsm ⊢
  refine (says_commit w p s E ne ce h.blk y.st).mono ?_
  rintro r w' ⟨hr, h1, h3⟩
  exact ⟨hr, E, ne, ce, h.keep h1 rfl hsm h3, h3.mono (fun k hk _ => .inl hk)⟩
/-- Four parts in line, the last one ahead of what leads to it. -/
theorem wpIn_tail {F : Fence} {n : Nat} {P : Program} {Q : Exit → Act → World → Prop} {a : Act} {w : World} {x y z t : Code} (Mid : Act → World → Prop) (ht : ∀ a w, Mid a w → t.wpIn F n P Q a w)
    (h : ∀ K : Act → World → Prop, (∀ a w, Mid a w → K a w) → x.wpIn F n P (Exit.then (fun a w => y.wpIn F n P (Exit.then (fun a w => z.wpIn F n P (Exit.then K Q) a w) Q) a w) Q) a w) :
    (Code.seq x (Code.seq y (Code.seq z t))).wpIn F n P Q a w := by
  refine wpIn_seq ?_
  refine wpIn_mono (h (fun a w => t.wpIn F n P Q a w) ht) ?_
  intro e a w h1
  cases e with
  | normal =>
    refine wpIn_seq (wpIn_mono h1 ?_)
    intro e a w h2
    cases e with
    | normal => exact wpIn_seq h2
    | _ => exact h2
  | _ => exact h1

set_option maxHeartbeats 16000000 in
set_option maxRecDepth 100000 in
theorem read_torn (w : World) (A : Option Addr) (n c : Nat) (l : List Int) (sq : Int) (m : Nat)
    (hn : l.length = n) (hc : n ≤ c) (hmx : n ≤ 1000000000000) (hok : bytesOk l = true) (hC : C8 w A n l)
    (h20 : 20 ≤ n) (h0 : rd l 0 = 74) (h1 : rd l 1 = 82) (h3 : rd l 3 = 0)
    (h4 : journal_four.f (l.drop 4) = some sq) (h8 : journal_four.f (l.drop 8) = some (m : Int)) (h12 : journal_four.f (l.drop 12) = some (sumW (l.take 12))) (hlong : n < m + 20) (hm9 : m ≤ 1000000000000) :
    Calls Try.prog 71 #[.slice A n c, .int .i64 sq] w fun e w' => e = .returned (.tuple #[zeroRec, .int .i64 0, .bool false]) ∧ Below w.heap.size w w' := by
  have hu28 := Try.underlying28
  have hu26 := Try.underlying26
  have hu24 := Try.underlying24
  have hu147 := Try.underlying147
  have hmf : ∀ (fn : Fn) (first cap : Array Value) (w : World), (Instr.makeFunc fn first cap).run Try.prog w = .ok (.func fn first cap) w := fun _ _ _ _ => rfl
  obtain ⟨ad, rfl, hb0⟩ := Kd.at_int hC 0 (by decide) (by omega)
  obtain ⟨ad1, e1, hb1⟩ := Kd.at_int hC 1 (by decide) (by omega)
  cases e1
  obtain ⟨ad1, e1, hb3⟩ := Kd.at_int hC 3 (by decide) (by omega)
  cases e1
  rw [h0] at hb0
  rw [h1] at hb1
  rw [h3] at hb3
  obtain ⟨A4, hc4, hC4⟩ := cutf8 (A := some ad) (n := n) (c := c) (xs := l) 4 (by omega) hc
  obtain ⟨A8, hc8, hC8⟩ := cutf8 (A := some ad) (n := n) (c := c) (xs := l) 8 (by omega) hc
  obtain ⟨A12, hc12, hC12⟩ := cutf8 (A := some ad) (n := n) (c := c) (xs := l) 12 (by omega) hc
  obtain ⟨ht12, hCt12⟩ := cutt8 (A := some ad) (n := n) (c := c) (xs := l) 12 (by omega) hc
  replace hc4 : ∀ (W : World), (Instr.slice 29 (.slice (some ad) n c) (some (.int .i64 4)) none none).run Try.prog W = .ok (.slice A4 (n - 4) (c - 4)) W := hc4
  replace hc8 : ∀ (W : World), (Instr.slice 29 (.slice (some ad) n c) (some (.int .i64 8)) none none).run Try.prog W = .ok (.slice A8 (n - 8) (c - 8)) W := hc8
  replace hc12 : ∀ (W : World), (Instr.slice 29 (.slice (some ad) n c) (some (.int .i64 12)) none none).run Try.prog W = .ok (.slice A12 (n - 12) (c - 12)) W := hc12
  replace ht12 : ∀ (W : World), (Instr.slice 29 (.slice (some ad) n c) none (some (.int .i64 12)) none).run Try.prog W = .ok (.slice (some ad) 12 c) W := ht12
  replace hb0 : w.cell? ad = some (.int .u8 74) := by rw [show ad.add (Int.toNat 0) = ad from by simp [Addr.add]] at hb0; exact hb0
  replace hb1 : w.cell? ⟨ad.block, ad.off + 1, none⟩ = some (.int .u8 82) := by rw [show ad.add (Int.toNat 1) = ⟨ad.block, ad.off + 1, none⟩ from by simp [Addr.add]] at hb1; exact hb1
  replace hb3 : w.cell? ⟨ad.block, ad.off + 3, none⟩ = some (.int .u8 0) := by rw [show ad.add (Int.toNat 3) = ⟨ad.block, ad.off + 3, none⟩ from by simp [Addr.add]] at hb3; exact hb3
  have HN := Aside0.mk hn
  have HCC := Aside0.mk hc
  have HC := Aside0.mk hC
  have HOK := Aside0.mk hok
  have HM := Aside0.mk hmx
  have H20 := Aside0.mk h20
  have HC4 := Aside0.mk (hC4 w hC)
  have HC8 := Aside0.mk (hC8 w hC)
  have HC12 := Aside0.mk (hC12 w hC)
  have HCT := Aside0.mk (hCt12 w hC)
  have H4 := Aside0.mk h4
  have HLG := Aside0.mk hlong
  have HM9 := Aside0.mk hm9
  have H8 := Aside0.mk h8
  have H12 := Aside0.mk h12
  clear hn hc hmx hok hC h20 hC4 hC8 hC12 hCt12 h4 h8 h12 h0 h1 h3 hlong hm9
  have hd20 : decide ((n : Int) < 20) = false := decide_eq_false (by have := H20.out; omega)
  have hd21 : decide (n < 20) = false := decide_eq_false (by have := H20.out; omega)
  have i0 : (0 < n) = True := eq_true (by have := H20.out; omega)
  have i1 : (1 < n) = True := eq_true (by have := H20.out; omega)
  have i2 : (2 < n) = True := eq_true (by have := H20.out; omega)
  have i3 : (3 < n) = True := eq_true (by have := H20.out; omega)
  have j0 : ((0 : Int) < (n : Int)) = True := eq_true (by have := H20.out; omega)
  have j1 : ((1 : Int) < (n : Int)) = True := eq_true (by have := H20.out; omega)
  have j2 : ((2 : Int) < (n : Int)) = True := eq_true (by have := H20.out; omega)
  have j3 : ((3 : Int) < (n : Int)) = True := eq_true (by have := H20.out; omega)
  go_enter_defers Try.func71, Try.ntmps71
  go_wp2_with fail
  obtain ⟨p4, hp4⟩ : ∃ p4, p4 = w.heap.size := ⟨_, rfl⟩
  obtain ⟨p5, hp5⟩ : ∃ p5, p5 = w.heap.size + 1 := ⟨_, rfl⟩
  obtain ⟨p6, hp6⟩ : ∃ p6, p6 = w.heap.size + 1 + 1 := ⟨_, rfl⟩
  obtain ⟨wa, hwa⟩ : ∃ wa, wa = w.alloc (.cells #[.int .i64 0, .int .i64 0, .int .i64 0, .int .i64 0, .int .i64 0, .int .i64 0, .slice none 0 0, .int .i64 0, .int .i64 0, .int .i64 0, .int .i64 0, .int .i64 0, .string ⟨#[]⟩] 28) := ⟨_, rfl⟩
  obtain ⟨wb, hwb⟩ : ∃ wb, wb = wa.alloc (.cells #[.int .i64 0] 3) := ⟨_, rfl⟩
  obtain ⟨wc, hwc⟩ : ∃ wc, wc = wb.alloc (.cells #[.bool false] 4) := ⟨_, rfl⟩
  rw [← hwa, ← hwb, ← hwc, ← hp6, ← hp5, ← hp4]
  have hza : wa.heap.size = w.heap.size + 1 := by rw [hwa]; simp
  have hzb : wb.heap.size = w.heap.size + 1 + 1 := by rw [hwb, ← hza]; simp
  have hba : Below wa.heap.size wa wb := by rw [hwb]; exact below_alloc (Below.refl _ _) _
  have hbb : Below wb.heap.size wb wc := by rw [hwc]; exact below_alloc (Below.refl _ _) _
  have HB := Aside0.mk (show Below w.heap.size w wc from below_step (below_step (by rw [hwa]; exact below_alloc (Below.refl _ _) _) hba) hbb)
  have HP4 := Aside0.mk (show wc.heap[p4]? = some (.cells #[.int .i64 0, .int .i64 0, .int .i64 0, .int .i64 0, .int .i64 0, .int .i64 0, .slice none 0 0, .int .i64 0, .int .i64 0, .int .i64 0, .int .i64 0, .int .i64 0, .string ⟨#[]⟩] 28 (0, 0)) by
    refine (hbb.block p4 (by omega)).trans ((hba.block p4 (by omega)).trans ?_)
    rw [hwa, hp4]; exact heap_alloc_new w _)
  have HP5 := Aside0.mk (show wc.heap[p5]? = some (.cells #[.int .i64 0] 3 (0, 0)) by
    refine (hbb.block p5 (by omega)).trans ?_
    rw [hwb, hp5, ← hza]; exact heap_alloc_new wa _)
  have HP6 := Aside0.mk (show wc.heap[p6]? = some (.cells #[.bool false] 4 (0, 0)) by rw [hwc, hp6, ← hzb]; exact heap_alloc_new wb _)
  have HPW := Aside0.mk (show w.heap.size ≤ p4 ∧ p4 < p5 ∧ p5 < p6 by omega)
  clear hp4 hp5 hp6 hwa hwb hwc hza hzb hba hbb
  have HB0 := Aside0.mk (pw_cell_below (below_drew1 HB.out) hb0)
  have HB1 := Aside0.mk (pw_cell_below (below_drew1 HB.out) hb1)
  have HB3 := Aside0.mk (pw_cell_below (below_drew1 HB.out) hb3)
  clear hb0 hb1 hb3
  have c0 := HB0.out
  have c1 := HB1.out
  have c3 := HB3.out
  have HD := Aside0.mk (below_drew1 HB.out)
  refine start_ (n := 37) (S := fun w' => w'.cell? ad = some (.int .u8 74) ∧ w'.cell? ⟨ad.block, ad.off + 1, none⟩ = some (.int .u8 82) ∧ w'.cell? ⟨ad.block, ad.off + 3, none⟩ = some (.int .u8 0)) (ds := []) bq83 (by kernel_rfl) rfl rfl ⟨c0, c1, c3⟩ (fun hHeld => ?_)
  refine pure_ (i := 0) (N := some 11) (v := ?_) (a' := ?_) bq84 rfl rfl (by kernel_rfl) (hq71 (by decide)) (Or.inl ⟨by rfl, ?_⟩) ?_ ?_
  rotate_left
  · intro w'; go_simp; with_reducible rfl
  rotate_left
  · simp only [sxx]; rfl
  refine pure_ (i := 1) (N := some 12) (v := ?_) (a' := ?_) bq85 rfl rfl (by kernel_rfl) (hq71 (by decide)) (Or.inl ⟨by rfl, ?_⟩) ?_ ?_
  rotate_left
  · intro w'; go_simp; with_reducible rfl
  rotate_left
  · simp only [sxx]; rfl
  refine pure_ (i := 2) (N := some 13) (v := ?_) (a' := ?_) bq86 rfl rfl (by kernel_rfl) (hq71 (by decide)) (Or.inl ⟨by rfl, ?_⟩) ?_ ?_
  rotate_left
  · intro w'; go_simp; with_reducible rfl
  rotate_left
  · simp only [sxx]; rfl
  refine pure_ (i := 3) (N := some 14) (v := ?_) (a' := ?_) bq87 rfl rfl (by kernel_rfl) (hq71 (by decide)) (Or.inl ⟨by rfl, ?_⟩) ?_ ?_
  rotate_left
  · intro w'; go_simp; with_reducible rfl
  rotate_left
  · simp only [sxx]; rfl
  refine pure_ (i := 4) (N := some 15) (v := ?_) (a' := ?_) bq88 rfl rfl (by kernel_rfl) (hq71 (by decide)) (Or.inl ⟨by rfl, ?_⟩) ?_ ?_
  rotate_left
  · intro w'; go_simp; with_reducible rfl
  rotate_left
  · simp only [sxx]; rfl
  refine pure_ (i := 5) (N := some 16) (v := ?_) (a' := ?_) bq89 rfl rfl (by kernel_rfl) (hq71 (by decide)) (Or.inl ⟨by rfl, ?_⟩) ?_ ?_
  rotate_left
  · intro w'; go_simp; with_reducible rfl
  rotate_left
  · simp only [sxx]; rfl
  refine take_ (i := 6) (N := some 17) (v := ?_) (a' := ?_) bq90 rfl rfl (by kernel_rfl) (hq71 (by decide)) (Or.inl ⟨by rfl, ?_⟩) hHeld ?_ ?_
  rotate_left
  · rintro w' ⟨s0, s1, s2⟩
    go_simp; with_reducible rfl
  rotate_left
  · simp only [sxx]; rfl
  refine pure_ (i := 7) (N := some 18) (v := ?_) (a' := ?_) bq91 rfl rfl (by kernel_rfl) (hq71 (by decide)) (Or.inl ⟨by rfl, ?_⟩) ?_ ?_
  rotate_left
  · intro w'; go_simp; with_reducible rfl
  rotate_left
  · simp only [sxx]; rfl
  refine pure_ (i := 8) (N := some 19) (v := ?_) (a' := ?_) bq92 rfl rfl (by kernel_rfl) (hq71 (by decide)) (Or.inl ⟨by rfl, ?_⟩) ?_ ?_
  rotate_left
  · intro w'; go_simp; with_reducible rfl
  rotate_left
  · simp only [sxx]; rfl
  refine pure_ (i := 9) (N := some 20) (v := ?_) (a' := ?_) bq93 rfl rfl (by kernel_rfl) (hq71 (by decide)) (Or.inl ⟨by rfl, ?_⟩) ?_ ?_
  rotate_left
  · intro w'; go_simp; with_reducible rfl
  rotate_left
  · simp only [sxx]; rfl
  refine pure_ (i := 10) (N := some 21) (v := ?_) (a' := ?_) bq94 rfl rfl (by kernel_rfl) (hq71 (by decide)) (Or.inl ⟨by rfl, ?_⟩) ?_ ?_
  rotate_left
  · intro w'; go_simp; with_reducible rfl
  rotate_left
  · simp only [sxx]; rfl
  refine pure_ (i := 11) (N := some 22) (v := ?_) (a' := ?_) bq95 rfl rfl (by kernel_rfl) (hq71 (by decide)) (Or.inl ⟨by rfl, ?_⟩) ?_ ?_
  rotate_left
  · intro w'; go_simp; with_reducible rfl
  rotate_left
  · simp only [sxx]; rfl
  refine take_ (i := 12) (N := some 23) (v := ?_) (a' := ?_) bq96 rfl rfl (by kernel_rfl) (hq71 (by decide)) (Or.inl ⟨by rfl, ?_⟩) hHeld ?_ ?_
  rotate_left
  · rintro w' ⟨s0, s1, s2⟩
    go_simp; with_reducible rfl
  rotate_left
  · simp only [sxx]; rfl
  refine pure_ (i := 13) (N := some 24) (v := ?_) (a' := ?_) bq97 rfl rfl (by kernel_rfl) (hq71 (by decide)) (Or.inl ⟨by rfl, ?_⟩) ?_ ?_
  rotate_left
  · intro w'; go_simp; with_reducible rfl
  rotate_left
  · simp only [sxx]; rfl
  refine pure_ (i := 14) (N := some 25) (v := ?_) (a' := ?_) bq98 rfl rfl (by kernel_rfl) (hq71 (by decide)) (Or.inl ⟨by rfl, ?_⟩) ?_ ?_
  rotate_left
  · intro w'; go_simp; with_reducible rfl
  rotate_left
  · simp only [sxx]; rfl
  refine pure_ (i := 15) (N := some 26) (v := ?_) (a' := ?_) bq99 rfl rfl (by kernel_rfl) (hq71 (by decide)) (Or.inl ⟨by rfl, ?_⟩) ?_ ?_
  rotate_left
  · intro w'; go_simp; with_reducible rfl
  rotate_left
  · simp only [sxx]; rfl
  refine pure_ (i := 16) (N := some 27) (v := ?_) (a' := ?_) bq100 rfl rfl (by kernel_rfl) (hq71 (by decide)) (Or.inl ⟨by rfl, ?_⟩) ?_ ?_
  rotate_left
  · intro w'; go_simp; with_reducible rfl
  rotate_left
  · simp only [sxx]; rfl
  refine pure_ (i := 17) (N := some 28) (v := ?_) (a' := ?_) bq101 rfl rfl (by kernel_rfl) (hq71 (by decide)) (Or.inl ⟨by rfl, ?_⟩) ?_ ?_
  rotate_left
  · intro w'; go_simp; with_reducible rfl
  rotate_left
  · simp only [sxx]; rfl
  refine take_ (i := 18) (N := some 29) (v := ?_) (a' := ?_) bq102 rfl rfl (by kernel_rfl) (hq71 (by decide)) (Or.inl ⟨by rfl, ?_⟩) hHeld ?_ ?_
  rotate_left
  · rintro w' ⟨s0, s1, s2⟩
    go_simp; with_reducible rfl
  rotate_left
  · simp only [sxx]; rfl
  refine pure_ (i := 19) (N := some 30) (v := ?_) (a' := ?_) bq103 rfl rfl (by kernel_rfl) (hq71 (by decide)) (Or.inl ⟨by rfl, ?_⟩) ?_ ?_
  rotate_left
  · intro w'; go_simp; with_reducible rfl
  rotate_left
  · simp only [sxx]; rfl
  refine pure_ (i := 20) (N := some 31) (v := ?_) (a' := ?_) bq104 rfl rfl (by kernel_rfl) (hq71 (by decide)) (Or.inl ⟨by rfl, ?_⟩) ?_ ?_
  rotate_left
  · intro w'; go_simp; with_reducible rfl
  rotate_left
  · simp only [sxx]; rfl
  refine pure_ (i := 21) (N := some 32) (v := ?_) (a' := ?_) bq105 rfl rfl (by kernel_rfl) (hq71 (by decide)) (Or.inl ⟨by rfl, ?_⟩) ?_ ?_
  rotate_left
  · intro w'; go_simp; with_reducible rfl
  rotate_left
  · simp only [sxx]; rfl
  refine pure_ (i := 22) (N := some 33) (v := ?_) (a' := ?_) bq106 rfl rfl (by kernel_rfl) (hq71 (by decide)) (Or.inl ⟨by rfl, ?_⟩) ?_ ?_
  rotate_left
  · intro w'; go_simp; with_reducible rfl
  rotate_left
  · simp only [sxx]; rfl
  refine pure_ (i := 23) (N := some 34) (v := ?_) (a' := ?_) bq107 rfl rfl (by kernel_rfl) (hq71 (by decide)) (Or.inl ⟨by rfl, ?_⟩) ?_ ?_
  rotate_left
  · intro w'; go_simp; with_reducible rfl
  rotate_left
  · simp only [sxx]; rfl
  refine pure_ (i := 25) (N := some 36) (v := ?_) (a' := ?_) bq108 rfl rfl (by kernel_rfl) (hq71 (by decide)) (Or.inl ⟨by rfl, ?_⟩) ?_ ?_
  rotate_left
  · intro w'; go_simp; with_reducible rfl
  rotate_left
  · simp only [sxx]; rfl
  refine one_ (i := 24) (N := some 35) bq109 rfl rfl (by kernel_rfl) (by decide) (fun K hK => ?_)
  refine goes_ Try.func83 (by kernel_rfl) rfl #[.slice A4 (n - 4) (c - 4)] (by rfl) rfl rfl (by simp only [mxx]; rfl) ?_
  with_reducible refine (four_N A4 (n - 4) (c - 4) (l.drop 4) sq _ (by rw [List.length_drop, HN.out]) (Nat.sub_le_sub_right HCC.out 4) (Kd.C_below HC4.out HD.out) H4.out).mono ?_
  rintro e u1 ⟨rfl, hb⟩
  refine ⟨_, rfl, ?_⟩
  have HU1 := Aside0.mk hb
  have HV1 := Aside0.mk (below_step HD.out hb)
  clear hb
  refine hK.out _ _ ⟨pw_cell_below HU1.out HB0.out, pw_cell_below HU1.out HB1.out, pw_cell_below HU1.out HB3.out⟩ (fun hHeld => ?_)
  clear hK K
  refine norm_ (a' := ?_) ?_ ?_
  rotate_left
  · show Act.put _ (some 35) _ = _
    simp only [sxx]; rfl
  refine pure_ (i := 26) (N := some 37) (v := ?_) (a' := ?_) bq110 rfl rfl (by kernel_rfl) (hq71 (by decide)) (Or.inl ⟨by rfl, ?_⟩) ?_ ?_
  rotate_left
  · intro w'; go_simp; with_reducible rfl
  rotate_left
  · simp only [sxx]; rfl
  refine pure_ (i := 27) (N := some 38) (v := ?_) (a' := ?_) bq111 rfl rfl (by kernel_rfl) (hq71 (by decide)) (Or.inl ⟨by rfl, ?_⟩) ?_ ?_
  rotate_left
  · intro w'; go_simp; with_reducible rfl
  rotate_left
  · simp only [sxx]; rfl
  refine pure_ (i := 28) (N := some 39) (v := ?_) (a' := ?_) bq112 rfl rfl (by kernel_rfl) (hq71 (by decide)) (Or.inl ⟨by rfl, ?_⟩) ?_ ?_
  rotate_left
  · intro w'; go_simp; with_reducible rfl
  rotate_left
  · simp only [sxx]; rfl
  refine pure_ (i := 29) (N := some 40) (v := ?_) (a' := ?_) bq113 rfl rfl (by kernel_rfl) (hq71 (by decide)) (Or.inl ⟨by rfl, ?_⟩) ?_ ?_
  rotate_left
  · intro w'; go_simp; with_reducible rfl
  rotate_left
  · simp only [sxx]; rfl
  refine pure_ (i := 30) (N := some 41) (v := ?_) (a' := ?_) bq114 rfl rfl (by kernel_rfl) (hq71 (by decide)) (Or.inl ⟨by rfl, ?_⟩) ?_ ?_
  rotate_left
  · intro w'; go_simp; with_reducible rfl
  rotate_left
  · simp only [sxx]; rfl
  refine pure_ (i := 32) (N := some 43) (v := ?_) (a' := ?_) bq115 rfl rfl (by kernel_rfl) (hq71 (by decide)) (Or.inl ⟨by rfl, ?_⟩) ?_ ?_
  rotate_left
  · intro w'; go_simp; with_reducible rfl
  rotate_left
  · simp only [sxx]; rfl
  refine pure_ (i := 33) (N := some 44) (v := ?_) (a' := ?_) bq116 rfl rfl (by kernel_rfl) (hq71 (by decide)) (Or.inl ⟨by rfl, ?_⟩) ?_ ?_
  rotate_left
  · intro w'; go_simp; with_reducible rfl
  rotate_left
  · simp only [sxx]; rfl
  refine one_ (i := 31) (N := some 42) bq117 rfl rfl (by kernel_rfl) (by decide) (fun K hK => ?_)
  refine goes_ Try.func83 (by kernel_rfl) rfl #[.slice A12 (n - 12) (c - 12)] (by rfl) rfl rfl (by simp only [mxx]; rfl) ?_
  with_reducible refine (four_N A12 (n - 12) (c - 12) (l.drop 12) _ _ (by rw [List.length_drop, HN.out]) (Nat.sub_le_sub_right HCC.out 12) (Kd.C_below HC12.out HV1.out) H12.out).mono ?_
  rintro e u2 ⟨rfl, hb⟩
  refine ⟨_, rfl, ?_⟩
  have HU2 := Aside0.mk (below_step HU1.out hb)
  have HV2 := Aside0.mk (below_step HV1.out hb)
  clear hb
  refine hK.out _ _ ⟨pw_cell_below HU2.out HB0.out, pw_cell_below HU2.out HB1.out, pw_cell_below HU2.out HB3.out⟩ (fun hHeld => ?_)
  clear hK K
  refine norm_ (a' := ?_) ?_ ?_
  rotate_left
  · show Act.put _ (some 42) _ = _
    simp only [sxx]; rfl
  refine one_ (i := 34) (N := some 45) bq118 rfl rfl (by kernel_rfl) (by decide) (fun K hK => ?_)
  refine goes_ Try.func33 (by kernel_rfl) rfl #[.slice (some ad) 12 c] (by rfl) rfl rfl (by simp only [mxx]; rfl) ?_
  with_reducible refine (sum_N (some ad) 12 c (l.take 12) _ (by rw [List.length_take, HN.out]; have := H20.out; omega) (by have := H20.out; have := HCC.out; omega) (Kd.C_below HCT.out HV2.out) (bytesOk_take HOK.out 12)).mono ?_
  rintro e u3 ⟨rfl, hb⟩
  refine ⟨_, rfl, ?_⟩
  have HU3 := Aside0.mk (below_step HU2.out hb)
  have HV3 := Aside0.mk (below_step HV2.out hb)
  clear hb
  refine hK.out _ _ ⟨pw_cell_below HU3.out HB0.out, pw_cell_below HU3.out HB1.out, pw_cell_below HU3.out HB3.out⟩ (fun hHeld => ?_)
  clear hK K
  refine norm_ (a' := ?_) ?_ ?_
  rotate_left
  · show Act.put _ (some 45) _ = _
    simp only [sxx]; rfl
  refine pure_ (i := 35) (N := some 46) (v := ?_) (a' := ?_) bq119 rfl rfl (by kernel_rfl) (hq71 (by decide)) (Or.inl ⟨by rfl, ?_⟩) ?_ ?_
  rotate_left
  · intro w'; go_simp; with_reducible rfl
  rotate_left
  · simp only [sxx]; rfl
  refine pure_ (i := 36) (N := some 47) (v := ?_) (a' := ?_) bq120 rfl rfl (by kernel_rfl) (hq71 (by decide)) (Or.inl ⟨by rfl, ?_⟩) ?_ ?_
  rotate_left
  · intro w'; go_simp; with_reducible rfl
  rotate_left
  · simp only [sxx]; rfl
  refine done_ (by kernel_rfl) ?_
  clear hc4 hc12 ht12 hd20 hd21 c0 c1 c3
  have HP4 := Aside0.mk ((HU3.out.block p4 (blk_lt HP4.out)).trans HP4.out)
  have HP5 := Aside0.mk ((HU3.out.block p5 (blk_lt HP5.out)).trans HP5.out)
  have HP6 := Aside0.mk ((HU3.out.block p6 (blk_lt HP6.out)).trans HP6.out)
  clear HU1 HU2 HU3 HV1 HV2 HB HB0 HB1 HB3 hHeld HD
  go_wp2_with fail
  refine (four_N A8 (n - 8) (c - 8) (l.drop 8) (m : Int) _ (by rw [List.length_drop, HN.out]) (Nat.sub_le_sub_right HCC.out 8) (Kd.C_below HC8.out HV3.out) H8.out).mono ?_
  rintro e4 u4 ⟨rfl, hb⟩
  have HV4 := Aside0.mk (below_step HV3.out hb)
  have HP4 := Aside0.mk ((hb.block p4 (blk_lt HP4.out)).trans HP4.out)
  have HP5 := Aside0.mk ((hb.block p5 (blk_lt HP5.out)).trans HP5.out)
  have HP6 := Aside0.mk ((hb.block p6 (blk_lt HP6.out)).trans HP6.out)
  clear hb HV3 hc8
  have hq5 : decide ((n : Int) - 20 < (m : Int)) = true := decide_eq_true (by have := H20.out; have := HLG.out; omega)
  have hw20 := wr_sub20 (n := n) (by have := H20.out; omega) HM.out
  go_wp2_with fail
  refine start_ (n := 18) (S := fun w' => True) (ds := []) bq121 (by kernel_rfl) rfl rfl trivial (fun hHeld => ?_)
  refine pure_ (i := 0) (N := some 52) (v := ?_) (a' := ?_) bq122 rfl rfl (by kernel_rfl) (hq71 (by decide)) (Or.inl ⟨by rfl, ?_⟩) ?_ ?_
  rotate_left
  · intro w'; go_simp; with_reducible rfl
  rotate_left
  · simp only [sxx]; rfl
  refine pure_ (i := 1) (N := some 53) (v := ?_) (a' := ?_) bq123 rfl rfl (by kernel_rfl) (hq71 (by decide)) (Or.inl ⟨by rfl, ?_⟩) ?_ ?_
  rotate_left
  · intro w'; go_simp; with_reducible rfl
  rotate_left
  · simp only [sxx]; rfl
  refine pure_ (i := 2) (N := some 54) (v := ?_) (a' := ?_) bq124 rfl rfl (by kernel_rfl) (hq71 (by decide)) (Or.inl ⟨by rfl, ?_⟩) ?_ ?_
  rotate_left
  · intro w'; go_simp; with_reducible rfl
  rotate_left
  · simp only [sxx]; rfl
  refine pure_ (i := 3) (N := some 55) (v := ?_) (a' := ?_) bq125 rfl rfl (by kernel_rfl) (hq71 (by decide)) (Or.inl ⟨by rfl, ?_⟩) ?_ ?_
  rotate_left
  · intro w'; go_simp; with_reducible rfl
  rotate_left
  · simp only [sxx]; rfl
  refine pure_ (i := 4) (N := some 56) (v := ?_) (a' := ?_) bq126 rfl rfl (by kernel_rfl) (hq71 (by decide)) (Or.inl ⟨by rfl, ?_⟩) ?_ ?_
  rotate_left
  · intro w'; go_simp; with_reducible rfl
  rotate_left
  · simp only [sxx]; rfl
  refine pure_ (i := 5) (N := some 57) (v := ?_) (a' := ?_) bq127 rfl rfl (by kernel_rfl) (hq71 (by decide)) (Or.inl ⟨by rfl, ?_⟩) ?_ ?_
  rotate_left
  · intro w'; go_simp; with_reducible rfl
  rotate_left
  · simp only [sxx]; rfl
  refine pure_ (i := 6) (N := some 58) (v := undef) (a' := ?_) bq128 rfl rfl (by kernel_rfl) (hq71 (by decide)) (Or.inr ⟨by rfl, rfl⟩) ?_ ?_
  rotate_left
  · simp only [sxx]; rfl
  refine pure_ (i := 7) (N := some 59) (v := undef) (a' := ?_) bq129 rfl rfl (by kernel_rfl) (hq71 (by decide)) (Or.inr ⟨by rfl, rfl⟩) ?_ ?_
  rotate_left
  · simp only [sxx]; rfl
  refine pure_ (i := 8) (N := some 60) (v := undef) (a' := ?_) bq130 rfl rfl (by kernel_rfl) (hq71 (by decide)) (Or.inr ⟨by rfl, rfl⟩) ?_ ?_
  rotate_left
  · simp only [sxx]; rfl
  refine pure_ (i := 9) (N := some 61) (v := undef) (a' := ?_) bq131 rfl rfl (by kernel_rfl) (hq71 (by decide)) (Or.inr ⟨by rfl, rfl⟩) ?_ ?_
  rotate_left
  · simp only [sxx]; rfl
  refine pure_ (i := 10) (N := some 62) (v := undef) (a' := ?_) bq190 rfl rfl (by kernel_rfl) (hq71 (by decide)) (Or.inr ⟨by rfl, rfl⟩) ?_ ?_
  rotate_left
  · simp only [sxx]; rfl
  refine pure_ (i := 11) (N := some 63) (v := undef) (a' := ?_) bq191 rfl rfl (by kernel_rfl) (hq71 (by decide)) (Or.inr ⟨by rfl, rfl⟩) ?_ ?_
  rotate_left
  · simp only [sxx]; rfl
  refine pure_ (i := 12) (N := some 64) (v := undef) (a' := ?_) bq192 rfl rfl (by kernel_rfl) (hq71 (by decide)) (Or.inr ⟨by rfl, rfl⟩) ?_ ?_
  rotate_left
  · simp only [sxx]; rfl
  refine pure_ (i := 13) (N := some 65) (v := undef) (a' := ?_) bq193 rfl rfl (by kernel_rfl) (hq71 (by decide)) (Or.inr ⟨by rfl, rfl⟩) ?_ ?_
  rotate_left
  · simp only [sxx]; rfl
  refine pure_ (i := 14) (N := some 66) (v := undef) (a' := ?_) bq136 rfl rfl (by kernel_rfl) (hq71 (by decide)) (Or.inr ⟨by rfl, rfl⟩) ?_ ?_
  rotate_left
  · simp only [sxx]; rfl
  refine pure_ (i := 15) (N := some 67) (v := undef) (a' := ?_) bq137 rfl rfl (by kernel_rfl) (hq71 (by decide)) (Or.inr ⟨by rfl, rfl⟩) ?_ ?_
  rotate_left
  · simp only [sxx]; rfl
  refine pure_ (i := 16) (N := some 68) (v := undef) (a' := ?_) bq138 rfl rfl (by kernel_rfl) (hq71 (by decide)) (Or.inr ⟨by rfl, rfl⟩) ?_ ?_
  rotate_left
  · simp only [sxx]; rfl
  refine pure_ (i := 17) (N := some 69) (v := ?_) (a' := ?_) bq139 rfl rfl (by kernel_rfl) (hq71 (by decide)) (Or.inl ⟨by rfl, ?_⟩) ?_ ?_
  rotate_left
  · intro w'; go_simp; with_reducible rfl
  rotate_left
  · simp only [sxx]; rfl
  refine done_ (by kernel_rfl) ?_
  have HV := Aside0.mk (below_drew1 HV4.out)
  have HP4 := Aside0.mk (show u4.drew.heap[p4]? = _ from HP4.out)
  have HP5 := Aside0.mk (show u4.drew.heap[p5]? = _ from HP5.out)
  have HP6 := Aside0.mk (show u4.drew.heap[p6]? = _ from HP6.out)
  clear HV4 hHeld hq5 hw20
  go_wp2_with (with_reducible refine stop_store rfl ?_)
  refine store_blk rfl rfl 28 _ _ rfl (q := p4) (i := 0) (cur' := zeroCells13) zeroCells13.toList rfl rfl rfl (by kernel_rfl) (by intro u hu; simp at hu; rcases hu with rfl | rfl | rfl | rfl <;> rfl) HP4.out (by simp) rfl ?_
  intro w11 hpb hgb
  have HPB := Aside0.mk hpb
  have HVB := Aside0.mk (HV.out.grown hgb HV.out.size (fun k e => by cases e; exact HPW.out.1))
  have HP5 := Aside0.mk ((hgb.block p5 (blk_lt HP5.out) (fun e => by have := HPW.out; have := Option.some.inj e; omega)).trans HP5.out)
  have HP6 := Aside0.mk ((hgb.block p6 (blk_lt HP6.out) (fun e => by have := HPW.out; have := Option.some.inj e; omega)).trans HP6.out)
  clear hpb hgb HV
  have n5 := (blk_cell HP5.out 0).trans rfl
  have f5 := blk_frozen HP5.out 0
  have n6 := (blk_cell HP6.out 0).trans rfl
  have f6 := blk_frozen HP6.out 0
  have HN56 := Aside0.mk (show p5 ≠ p6 by have := HPW.out; omega)
  have hne := HN56.out
  go_wp2_with fail
  clear hne n5 n6 f5 f6
  obtain ⟨wy, hwy⟩ : ∃ wy, wy = w11.setCell ⟨p5, 0, none⟩ (.int .i64 0) := ⟨_, rfl⟩
  obtain ⟨wz, hwz⟩ : ∃ wz, wz = wy.setCell ⟨p6, 0, none⟩ (.bool false) := ⟨_, rfl⟩
  rw [← hwy, ← hwz]
  have k4 : wz.heap[p4]? = some (.cells zeroCells13 28 (0, 0)) := by
    have := HPW.out
    rw [hwz, Below.heap_setCell wy _ _ p4 (by simp only; omega), hwy, Below.heap_setCell w11 _ _ p4 (by simp only; omega)]
    exact HPB.out
  have k6 : wy.heap[p6]? = some (.cells #[.bool false] 4 (0, 0)) := by
    have := HPW.out
    rw [hwy, Below.heap_setCell w11 _ _ p6 (by simp only; omega)]
    exact HP6.out
  have c5 : wz.cell? ⟨p5, 0, none⟩ = some (.int .i64 0) := by
    have hy : wy.cell? ⟨p5, 0, none⟩ = some (.int .i64 0) := by rw [hwy]; exact World.cell?_setCell_same' _ _ _ (by rw [blk_cell HP5.out 0]; rfl)
    have := HPW.out
    have he : wz.heap[p5]? = wy.heap[p5]? := by rw [hwz, Below.heap_setCell wy _ _ p5 (by simp only; omega)]
    simp only [World.cell?, he] at hy ⊢
    exact hy
  have c6 : wz.cell? ⟨p6, 0, none⟩ = some (.bool false) := by rw [hwz]; exact World.cell?_setCell_same' _ _ _ (by rw [blk_cell k6 0]; rfl)
  have hBZ : Below w.heap.size w wz := by
    rw [hwz, hwy]
    exact (HVB.out.setCell (p := ⟨p5, 0, none⟩) (by have := HPW.out; simp only; omega) _).setCell (p := ⟨p6, 0, none⟩) (by have := HPW.out; simp only; omega) _
  exact door71 rfl (results71_row _ _ p4 p5 p6 _ _ _ rfl rfl rfl k4 rfl c5 c6) ⟨rfl, hBZ⟩

theorem torn_body (sq kd : Int) (b : List Int) (j : Nat) (hj : j < (recBytes sq kd b).length) (hsq : 1 ≤ sq ∧ sq ≤ 2147483647) (hb : bytesOk b = true) (hbl : b.length ≤ 3000000) : RdSpec ((recBytes sq kd b).take j) sq none := by
  intro w A n c hn hc hC
  rw [recBytes_len] at hj
  have hlen : ((recBytes sq kd b).take j).length = j := by rw [List.length_take, recBytes_len]; omega
  obtain rfl : j = n := hlen.symm.trans hn
  by_cases h20 : j < 20
  · exact read_short w A j c sq h20
  obtain ⟨rest, hrest⟩ : ∃ rest, rest = b ++ four4 (sumW (withSum (recHead sq kd b.length) ++ b)) := ⟨_, rfl⟩
  have hok2 : bytesOk (withSum (recHead sq kd b.length) ++ b) = true := bytesOk_append (withSum_ok (recHead_ok ..)) hb
  have hrb : recBytes sq kd b = withSum (recHead sq kd b.length) ++ rest := by
    rw [hrest, ← List.append_assoc]
    rfl
  have hrok : bytesOk rest = true := by rw [hrest]; exact bytesOk_append hb (four4_ok _)
  obtain ⟨L, hL⟩ : ∃ L, L = (recBytes sq kd b).take j := ⟨_, rfl⟩
  rw [← hL] at hC hlen
  have hp : L = withSum (recHead sq kd b.length) ++ rest.take (j - 16) := by
    rw [hL, hrb, List.take_append, withHead_len, List.take_of_length_le (by rw [withHead_len]; omega)]
  have hLx : L = 74 :: 82 :: (kd % 256) :: 0 :: (four4 sq ++ (four4 (b.length : Int) ++ (four4 (sumW (recHead sq kd b.length)) ++ rest.take (j - 16)))) := by
    rw [hp]
    simp only [withSum, recHead, List.append_assoc, List.cons_append, List.nil_append]
  have h12 : L.take 12 = recHead sq kd b.length := by
    rw [hp]
    rw [show withSum (recHead sq kd b.length) = recHead sq kd b.length ++ four4 (sumW (recHead sq kd b.length)) from rfl, List.append_assoc]
    exact List.take_left' (recHead_len ..)
  have hs1 := sumW_range (recHead sq kd b.length) (recHead_ok ..)
  have hLok : bytesOk L = true := by rw [hp]; exact bytesOk_append (withSum_ok (recHead_ok ..)) (bytesOk_take hrok _)
  have e0 : rd L 0 = 74 := by rw [hLx]; rfl
  have e1 : rd L 1 = 82 := by rw [hLx]; rfl
  have e3 : rd L 3 = 0 := by rw [hLx]; rfl
  have d4 : journal_four.f (L.drop 4) = some sq := by rw [hLx]; exact four_val sq (by omega) (by omega) _
  have d8 : journal_four.f (L.drop 8) = some (b.length : Int) := by rw [hLx]; exact four_val (b.length : Int) (by omega) (by omega) _
  have d12 : journal_four.f (L.drop 12) = some (sumW (L.take 12)) := by rw [h12, hLx]; exact four_val _ hs1.1 hs1.2 _
  exact read_torn w A j c L sq b.length hlen hc (by omega) hLok hC (by omega) e0 e1 e3 d4 d8 d12 (by omega) (by omega)
theorem rd_torn (sq : Int) (y : JR) (r1 : List Int) (hE : y.enc sq = (r1, 0)) (j : Nat) (hj : j < r1.length) : RdSpec (r1.take j) sq none := by
  obtain ⟨h1, h2, hsq, hx⟩ := recEnc_parts hE
  subst h1
  exact torn_body sq y.kd _ j hj hsq (recBody_ok ..) (recBody_len ..)
/-- How many records stand whole in so many bytes. -/
def wholeN : Nat → List JR → Nat → Nat
  | _, [], _ => 0
  | k, y :: ys, room => if (y.enc ((k : Int) + 1)).1.length ≤ room then wholeN (k + 1) ys (room - (y.enc ((k : Int) + 1)).1.length) + 1 else 0
theorem Enc_torn : ∀ (ys : List JR) (k : Nat) (pre d : List Int) (cut : Nat), Enc k ys d → (pre ++ d).length ≤ 1000000000 → Walks (pre ++ d.take cut) pre.length k (ys.take (wholeN k ys cut))
  | [], k, pre, d, cut, h, hm => by
    obtain rfl : d = [] := h
    show RdSpec ((pre ++ [].take cut).drop pre.length) _ none
    rw [List.drop_left, List.take_nil]
    intro w A n c hn hc hC
    obtain rfl : 0 = n := hn
    exact read_short w A 0 c _ (by omega)
  | z :: ys, k, pre, d, cut, h, hm => by
    obtain ⟨r2, d', h1, rfl, h3⟩ := h
    obtain ⟨h4, h5⟩ := Enc_ok ys (k + 1) d' h3
    obtain ⟨h6, h7⟩ := enc_ok h1
    have hlen2 : (pre ++ (r2 ++ d')).length = pre.length + r2.length + d'.length := by simp only [List.length_append]; omega
    rw [hlen2] at hm
    unfold wholeN
    rw [h1]
    by_cases hc : r2.length ≤ cut
    · rw [if_pos hc, List.take_succ_cons]
      have ht : (r2 ++ d').take cut = r2 ++ d'.take (cut - r2.length) := by rw [List.take_append, List.take_of_length_le hc]
      rw [ht]
      have hl : (d'.take (cut - r2.length)).length ≤ d'.length := by rw [List.length_take]; omega
      refine ⟨r2.length, ?_, h7, by simp only [List.length_append]; omega, ?_⟩
      · rw [List.drop_left]
        exact rd_valid _ z r2 h1 _ (bytesOk_take h4 _) (by rw [List.length_append]; omega)
      · have := Enc_torn ys (k + 1) (pre ++ r2) d' (cut - r2.length) h3 (by simp only [List.length_append]; omega)
        rw [List.length_append, List.append_assoc] at this
        exact this
    · rw [if_neg hc, List.take_zero]
      show RdSpec ((pre ++ (r2 ++ d').take cut).drop pre.length) _ none
      rw [List.drop_left, List.take_append_of_le_length (by omega)]
      exact rd_torn _ z r2 h1 cut (by omega)

/-- How many bytes records take. -/
def bytesN : Nat → List JR → Nat
  | _, [] => 0
  | k, y :: ys => (y.enc ((k : Int) + 1)).1.length + bytesN (k + 1) ys
/-- How many records Recover counts. -/
def rcN : List JR → Nat → SV → Nat
  | [], _, _ => 0
  | y :: L, k, s => if s.fits y (decide (k = 0)) = true then rcN L (k + 1) (s.says y) + 1 else 0
theorem rcN_le : ∀ (L : List JR) (k : Nat) (s : SV), rcN L k s ≤ L.length
  | [], _, _ => Nat.le_refl _
  | y :: L, k, s => by
    unfold rcN
    split
    · have := rcN_le L (k + 1) (s.says y)
      rw [List.length_cons]
      omega
    · exact Nat.zero_le _
theorem rcGo_eq : ∀ (L : List JR) (k : Nat) (s : SV) (z : Nat), (rcGo L k s z).2.1 = k + rcN L k s ∧ (rcGo L k s z).2.2 = z + bytesN k (L.take (rcN L k s))
  | [], k, s, z => ⟨rfl, rfl⟩
  | y :: L, k, s, z => by
    unfold rcGo rcN
    by_cases h : s.fits y (decide (k = 0)) = true
    · rw [if_pos h, if_pos h]
      obtain ⟨h1, h2⟩ := rcGo_eq L (k + 1) (s.says y) (z + (y.enc ((k : Int) + 1)).1.length)
      rw [h1, h2, List.take_succ_cons]
      refine ⟨by omega, ?_⟩
      show _ = z + ((y.enc ((k : Int) + 1)).1.length + bytesN (k + 1) _)
      omega
    · rw [if_neg h, if_neg h]
      exact ⟨rfl, rfl⟩
theorem rcN_take : ∀ (L : List JR) (k : Nat) (s : SV) (j : Nat), rcN (L.take j) k s = min j (rcN L k s)
  | [], k, s, j => by rw [List.take_nil]; show 0 = min j 0; omega
  | y :: L, k, s, 0 => by rw [List.take_zero]; show 0 = min 0 _; omega
  | y :: L, k, s, j + 1 => by
    rw [List.take_succ_cons]
    unfold rcN
    by_cases h : s.fits y (decide (k = 0)) = true
    · rw [if_pos h, if_pos h, rcN_take L (k + 1) (s.says y) j]
      omega
    · rw [if_neg h, if_neg h]
      omega
theorem rcGo_take : ∀ (L : List JR) (k : Nat) (s : SV) (z j : Nat), rcGo (L.take j) k s z = rcGo (L.take (min j (rcN L k s))) k s z
  | [], k, s, z, j => by rw [List.take_nil, List.take_nil]
  | y :: L, k, s, z, 0 => by rw [Nat.zero_min]
  | y :: L, k, s, z, j + 1 => by
    by_cases h : s.fits y (decide (k = 0)) = true
    · have e : rcN (y :: L) k s = rcN L (k + 1) (s.says y) + 1 := by
        show (if s.fits y (decide (k = 0)) = true then rcN L (k + 1) (s.says y) + 1 else 0) = _
        rw [if_pos h]
      rw [e, show min (j + 1) (rcN L (k + 1) (s.says y) + 1) = min j (rcN L (k + 1) (s.says y)) + 1 by omega, List.take_succ_cons, List.take_succ_cons]
      show (if s.fits y (decide (k = 0)) = true then rcGo (L.take j) (k + 1) (s.says y) _ else (s, k, z)) = (if s.fits y (decide (k = 0)) = true then rcGo (L.take _) (k + 1) (s.says y) _ else (s, k, z))
      rw [if_pos h, if_pos h]
      exact rcGo_take L (k + 1) (s.says y) _ j
    · have e : rcN (y :: L) k s = 0 := by
        show (if s.fits y (decide (k = 0)) = true then rcN L (k + 1) (s.says y) + 1 else 0) = _
        rw [if_neg h]
      rw [e, Nat.min_zero, List.take_zero, List.take_succ_cons]
      show (if s.fits y (decide (k = 0)) = true then rcGo (L.take j) (k + 1) (s.says y) _ else (s, k, z)) = (s, k, z)
      rw [if_neg h]
/-- The i + 1 first records stand whole, if their bytes are no more than the room. -/
theorem wholeN_lt : ∀ (ys : List JR) (k room i : Nat), i < ys.length → (i < wholeN k ys room ↔ bytesN k (ys.take (i + 1)) ≤ room)
  | [], _, _, i, h => absurd h (Nat.not_lt_zero _)
  | y :: ys, k, room, i, h => by
    unfold wholeN
    rw [List.take_succ_cons]
    show _ ↔ (y.enc ((k : Int) + 1)).1.length + bytesN (k + 1) (ys.take i) ≤ room
    by_cases hc : (y.enc ((k : Int) + 1)).1.length ≤ room
    · rw [if_pos hc]
      cases i with
      | zero =>
        rw [List.take_zero]
        show _ ↔ (y.enc ((k : Int) + 1)).1.length + 0 ≤ room
        omega
      | succ i =>
        have := wholeN_lt ys (k + 1) (room - (y.enc ((k : Int) + 1)).1.length) i (by rw [List.length_cons] at h; omega)
        omega
    · rw [if_neg hc]
      omega
theorem wholeN_at : ∀ (ys : List JR) (k i : Nat), i ≤ ys.length → (∀ (j : Nat) (y : JR), ys[j]? = some y → 1 ≤ (y.enc (((k + j : Nat) : Int) + 1)).1.length) → wholeN k ys (bytesN k (ys.take i)) = i
  | [], _, i, h, _ => by
    rw [List.length_nil] at h
    show 0 = i
    omega
  | y :: ys, k, 0, h, hp => by
    have h1 := hp 0 y rfl
    rw [Nat.add_zero] at h1
    rw [List.take_zero]
    show wholeN k (y :: ys) 0 = 0
    unfold wholeN
    rw [if_neg (by omega)]
  | y :: ys, k, i + 1, h, hp => by
    rw [List.take_succ_cons]
    show wholeN k (y :: ys) ((y.enc ((k : Int) + 1)).1.length + bytesN (k + 1) (ys.take i)) = i + 1
    unfold wholeN
    rw [if_pos (by omega), Nat.add_sub_cancel_left, wholeN_at ys (k + 1) i (by rw [List.length_cons] at h; omega) (fun j z hz => by
      have := hp (j + 1) z hz
      rw [show k + (j + 1) = k + 1 + j by omega] at this
      exact this)]
theorem bytesN_snoc : ∀ (ys : List JR) (k : Nat) (y : JR), bytesN k (ys ++ [y]) = bytesN k ys + (y.enc (((k + ys.length : Nat) : Int) + 1)).1.length
  | [], k, y => by
    show (y.enc ((k : Int) + 1)).1.length + 0 = 0 + _
    rw [List.length_nil, Nat.add_zero, Nat.add_zero, Nat.zero_add]
  | z :: ys, k, y => by
    show (z.enc ((k : Int) + 1)).1.length + bytesN (k + 1) (ys ++ [y]) = (z.enc ((k : Int) + 1)).1.length + bytesN (k + 1) ys + _
    rw [bytesN_snoc ys (k + 1) y, show k + 1 + ys.length = k + (z :: ys).length by rw [List.length_cons]; omega]
    omega
/-- The places behind the records. -/
def EndsOf (ys : List JR) (es : List Int) : Prop := es.length = ys.length ∧ ∀ i, i < ys.length → es[i]? = some ((bytesN 0 (ys.take (i + 1)) : Nat) : Int)
theorem EndsOf_snoc {ys : List JR} {es : List Int} {y : JR} (h : EndsOf ys es) : EndsOf (ys ++ [y]) (es ++ [((bytesN 0 ys + (y.enc ((ys.length : Int) + 1)).1.length : Nat) : Int)]) := by
  refine ⟨by rw [List.length_append, List.length_append, h.1]; rfl, fun i hi => ?_⟩
  rw [List.length_append, List.length_cons, List.length_nil] at hi
  by_cases hc : i < ys.length
  · rw [List.getElem?_append_left (by rw [h.1]; exact hc), List.take_append_of_le_length (by omega)]
    exact h.2 i hc
  · obtain rfl : i = ys.length := by omega
    rw [List.take_of_length_le (by rw [List.length_append, List.length_cons, List.length_nil]; omega), bytesN_snoc, Nat.zero_add, ← h.1]
    rw [List.getElem?_append_right (Nat.le_refl _), Nat.sub_self]
    rfl
theorem wrGo_ends : ∀ (l : List JR) (d es : List Int) (ys : List JR), EndsOf ys es → d.length = bytesN 0 ys → EndsOf (wrGo l (d, es, ys)).2.2 (wrGo l (d, es, ys)).2.1 ∧ (wrGo l (d, es, ys)).1.length = bytesN 0 (wrGo l (d, es, ys)).2.2
  | [], d, es, ys, h1, h2 => ⟨h1, h2⟩
  | y :: l, d, es, ys, h1, h2 => by
    unfold wrGo
    by_cases hc : d.length < 60000
    · rw [if_pos hc]
      by_cases he : (y.enc ((es.length : Int) + 1)).2 = 0
      · rw [if_pos he]
        refine wrGo_ends l _ _ _ ?_ ?_
        · rw [h2, h1.1]
          exact EndsOf_snoc h1
        · rw [List.length_append, h2, bytesN_snoc, Nat.zero_add, h1.1]
      · rw [if_neg he]
        exact wrGo_ends l d es ys h1 h2
    · rw [if_neg hc]
      exact ⟨h1, h2⟩

theorem says_all (P : S24 → Prop) {s : SV} {y : JR} (hs : ∀ e ∈ s.es, P e) (hy : P y.ent) : ∀ e ∈ (s.says y).es, P e := by
  unfold SV.says
  split
  · intro e he
    rcases List.mem_append.1 he with h | h
    · exact hs e h
    · rw [List.mem_singleton.1 h]; exact hy
  split
  · exact hs
  split
  · exact hs
  split
  · intro e he; cases he
  split
  · exact fun e he => hs e (List.mem_of_mem_drop he)
  · exact hs
theorem rcGo_all (P : S24 → Prop) : ∀ (L : List JR) (k : Nat) (s : SV) (z : Nat), (∀ e ∈ s.es, P e) → (∀ y ∈ L, P y.ent) → ∀ e ∈ (rcGo L k s z).1.es, P e
  | [], k, s, z, hs, _ => hs
  | y :: L, k, s, z, hs, hL => by
    unfold rcGo
    split
    · exact rcGo_all P L _ _ _ (says_all P hs (hL y List.mem_cons_self)) (fun x hx => hL x (List.mem_cons_of_mem _ hx))
    · exact hs
theorem rcGo_len : ∀ (L : List JR) (k : Nat) (s : SV) (z : Nat), (rcGo L k s z).1.es.length ≤ s.es.length + L.length
  | [], k, s, z => Nat.le_refl _
  | y :: L, k, s, z => by
    unfold rcGo
    split
    · have h1 := rcGo_len L (k + 1) (s.says y) (z + (y.enc ((k : Int) + 1)).1.length)
      have h2 := says_len s y
      rw [List.length_cons]
      omega
    · rw [List.length_cons]
      show s.es.length ≤ _
      omega
theorem Pick_mem : ∀ (xs : List JR) (k : Nat) (ys : List JR), Pick k xs ys → ∀ y ∈ ys, y ∈ xs
  | _, _, [], _, y, hy => by cases hy
  | [], _, z :: ys, h, y, hy => h.elim
  | x :: xs, k, z :: ys, h, y, hy => by
    have h' : (if (x.enc ((k : Int) + 1)).2 = 0 then x = z ∧ Pick (k + 1) xs ys else Pick k xs (z :: ys)) := h
    by_cases hc : (x.enc ((k : Int) + 1)).2 = 0
    · rw [if_pos hc] at h'
      rcases List.mem_cons.1 hy with e | e
      · rw [e, h'.1]; exact List.mem_cons_self
      · exact List.mem_cons_of_mem _ (Pick_mem xs (k + 1) ys h'.2 y e)
    · rw [if_neg hc] at h'
      exact List.mem_cons_of_mem _ (Pick_mem xs k (z :: ys) h' y hy)
theorem Enc_get : ∀ (ys : List JR) (k : Nat) (d : List Int), Enc k ys d → ∀ (j : Nat) (y : JR), ys[j]? = some y → ∃ r1, y.enc (((k + j : Nat) : Int) + 1) = (r1, 0)
  | [], _, _, _, j, y, h => by simp at h
  | z :: ys, k, d, h, 0, y, hj => by
    obtain ⟨r1, d', h1, _⟩ := h
    have : z = y := by simpa using hj
    subst this
    exact ⟨r1, h1⟩
  | z :: ys, k, d, h, j + 1, y, hj => by
    obtain ⟨r1, d', h1, _, h3⟩ := h
    have := Enc_get ys (k + 1) d' h3 j y (by simpa using hj)
    rw [show k + 1 + j = k + (j + 1) by omega] at this
    exact this
theorem bytesN_take_le : ∀ (ys : List JR) (k i : Nat), bytesN k (ys.take i) ≤ bytesN k ys
  | [], _, _ => by rw [List.take_nil]; exact Nat.le_refl _
  | y :: ys, k, 0 => by rw [List.take_zero]; exact Nat.zero_le _
  | y :: ys, k, i + 1 => by
    rw [List.take_succ_cons]
    show (y.enc ((k : Int) + 1)).1.length + bytesN (k + 1) (ys.take i) ≤ (y.enc ((k : Int) + 1)).1.length + bytesN (k + 1) ys
    have := bytesN_take_le ys (k + 1) i
    omega
/-- What Recover says of the first K records. -/
abbrev rcK (ys : List JR) (K : Nat) : SV × Nat × Nat := rcGo (ys.take K) 0 SV.zero 0
/-- How many records are counted of so many bytes. -/
def cutK (ys : List JR) (cut : Nat) : Nat := min (wholeN 0 ys cut) (rcN ys 0 SV.zero)
theorem cutK_le (ys : List JR) (cut : Nat) : cutK ys cut ≤ ys.length := by
  unfold cutK
  have := rcN_le ys 0 SV.zero
  omega
theorem rcK_cut (ys : List JR) (cut : Nat) : rcGo (ys.take (wholeN 0 ys cut)) 0 SV.zero 0 = rcK ys (cutK ys cut) := rcGo_take ys 0 SV.zero 0 _
theorem rcK_num (ys : List JR) (cut : Nat) : (rcK ys (cutK ys cut)).2.1 = cutK ys cut ∧ (rcK ys (cutK ys cut)).2.2 = bytesN 0 (ys.take (cutK ys cut)) := by
  obtain ⟨h1, h2⟩ := rcGo_eq (ys.take (cutK ys cut)) 0 SV.zero 0
  have h3 : rcN (ys.take (cutK ys cut)) 0 SV.zero = cutK ys cut := by
    rw [rcN_take]
    unfold cutK
    omega
  rw [h3] at h1 h2
  rw [List.take_take, Nat.min_self] at h2
  exact ⟨h1.trans (Nat.zero_add _), h2.trans (Nat.zero_add _)⟩
theorem rcK_all (ys : List JR) : (rcGo ys 0 SV.zero 0).2.1 = rcN ys 0 SV.zero ∧ (rcGo ys 0 SV.zero 0).2.2 ≤ bytesN 0 ys := by
  obtain ⟨h1, h2⟩ := rcGo_eq ys 0 SV.zero 0
  have := bytesN_take_le ys 0 (rcN ys 0 SV.zero)
  exact ⟨by omega, by omega⟩
theorem whole_end {ys : List JR} {d : List Int} (h : Enc 0 ys d) (K : Nat) (hK : K ≤ ys.length) : wholeN 0 ys (bytesN 0 (ys.take K)) = K :=
  wholeN_at ys 0 K hK (fun j y hj => by
    obtain ⟨r1, hr⟩ := Enc_get ys 0 d h j y hj
    have := (enc_ok hr).2
    rw [hr]
    show 1 ≤ r1.length
    omega)
/-- The law's loop goes on just while fewer than cutK records are behind it. -/
theorem cutK_go {ys : List JR} {es : List Int} (he : EndsOf ys es) (cut k : Nat) (hk : k < ys.length) : (k < cutK ys cut ↔ bytesN 0 (ys.take (k + 1)) ≤ cut ∧ k < rcN ys 0 SV.zero) := by
  have := wholeN_lt ys 0 cut k hk
  unfold cutK
  omega

theorem rd_spoilt (sq : Int) (y : JR) (r1 t : List Int) (hE : y.enc sq = (r1, 0)) (i : Nat) (v : Int) (hi : i < r1.length) (hv : 0 ≤ v ∧ v < 256) (hne : v ≠ rd (r1 ++ t) i) (ht : bytesOk t = true) (hmx : (r1 ++ t).length ≤ 1000000000) : RdSpec ((r1 ++ t).set i v) sq none := by
  have hk := (enc_okay hE).1
  obtain ⟨h1, h2, hsq, hx⟩ := recEnc_parts hE
  subst h1
  exact spoilt_body sq y.kd _ t i v hi hv hne hsq (recBody_ok ..) (recBody_len ..) (by omega) ht hmx
theorem rd_app {l : List Int} {m : List Int} {i : Nat} (h : l.length ≤ i) : rd (l ++ m) (i : Int) = rd m ((i - l.length : Nat) : Int) := by
  show (l ++ m).getD (Int.toNat (i : Int)) 0 = m.getD (Int.toNat ((i - l.length : Nat) : Int)) 0
  rw [Int.toNat_natCast, Int.toNat_natCast, List.getD_eq_getElem?_getD, List.getD_eq_getElem?_getD, List.getElem?_append_right h]
theorem Enc_spoilt : ∀ (ys : List JR) (k : Nat) (pre d : List Int) (i : Nat) (v : Int), Enc k ys d → (pre ++ d).length ≤ 1000000000 → i < d.length → 0 ≤ v ∧ v < 256 → v ≠ rd d i → Walks (pre ++ d.set i v) pre.length k (ys.take (wholeN k ys i))
  | [], k, pre, d, i, v, h, hm, hi, hv, hne => by
    obtain rfl : d = [] := h
    simp at hi
  | z :: ys, k, pre, d, i, v, h, hm, hi, hv, hne => by
    obtain ⟨r2, d', h1, rfl, h3⟩ := h
    obtain ⟨h4, h5⟩ := Enc_ok ys (k + 1) d' h3
    obtain ⟨h6, h7⟩ := enc_ok h1
    have hlen2 : (pre ++ (r2 ++ d')).length = pre.length + r2.length + d'.length := by simp only [List.length_append]; omega
    rw [hlen2] at hm
    rw [List.length_append] at hi
    unfold wholeN
    rw [h1]
    by_cases hc : r2.length ≤ i
    · rw [if_pos hc, List.take_succ_cons]
      have ht : (r2 ++ d').set i v = r2 ++ d'.set (i - r2.length) v := by rw [List.set_append_right _ _ hc]
      rw [ht]
      rw [rd_app hc] at hne
      have hok : bytesOk (d'.set (i - r2.length) v) = true := bytesOk_set' _ _ _ h4 hv.1 hv.2
      refine ⟨r2.length, ?_, h7, by simp only [List.length_append, List.length_set]; omega, ?_⟩
      · rw [List.drop_left]
        exact rd_valid _ z r2 h1 _ hok (by rw [List.length_append, List.length_set]; omega)
      · have := Enc_spoilt ys (k + 1) (pre ++ r2) d' (i - r2.length) v h3 (by simp only [List.length_append]; omega) (by omega) hv hne
        rw [List.length_append, List.append_assoc] at this
        exact this
    · rw [if_neg hc, List.take_zero]
      show RdSpec ((pre ++ (r2 ++ d').set i v).drop pre.length) _ none
      rw [List.drop_left]
      exact rd_spoilt _ z r2 d' h1 i v (by omega) hv hne h4 (by rw [List.length_append]; omega)

set_option maxHeartbeats 16000000 in
set_option maxRecDepth 100000 in
theorem saved_N (s : SV) (E E2 : Option Addr) (n ce ce2 : Nat) (w : World) (hn : s.es.length = n) (hm : n ≤ 1000000) (hA : Kd.C k24 w E n s.es) (hB : Kd.C k24 w E2 n s.es) (hops : ∀ e ∈ s.es, e.f5.length ≤ 2513169434843) :
    Calls Try.prog 21 #[.agg (s.cells E n ce), .agg (s.cells E2 n ce2)] w fun e w' => e = .returned (.bool true) ∧ Below w.heap.size w w' := by
  have hu53 := Try.underlying53
  have hu26 := Try.underlying26
  have hu24 := Try.underlying24
  have HN := Aside0.mk hn
  have HM := Aside0.mk hm
  have HA := Aside0.mk hA
  have HB := Aside0.mk hB
  have HOP := Aside0.mk hops
  clear hn hm hA hB hops
  go_enter Try.func21, Try.ntmps21
  go_upto_region 1 with (fail)
  obtain ⟨g, hg⟩ : ∃ g, g = w.heap.size := ⟨_, rfl⟩
  obtain ⟨w1, hw1⟩ : ∃ w1, w1 = w.alloc (.cells (s.cells E n ce) 53) := ⟨_, rfl⟩
  have hz1 : w1.heap.size = g + 1 := by rw [hw1, hg]; simp
  obtain ⟨w2, hw2⟩ : ∃ w2, w2 = w1.alloc (.cells (s.cells E2 n ce2) 53) := ⟨_, rfl⟩
  obtain ⟨g2, hg2⟩ : ∃ g2, g2 = g + 1 := ⟨_, rfl⟩
  rw [← hw1]
  have hsz : w.heap.size + 1 = g2 := by rw [hg2, hg]
  rw [hsz]
  rw [← hw2, ← hg]
  have hbA : Below w.heap.size w w1 := by rw [hw1]; exact below_alloc (Below.refl _ _) _
  have hbB : Below w1.heap.size w1 w2 := by rw [hw2]; exact below_alloc (Below.refl _ _) _
  have HB2 := Aside0.mk (show Below w.heap.size w w2 from below_step hbA hbB)
  clear hbA hbB
  have HG := Aside0.mk (show w2.heap[g]? = some (.cells (s.cells E n ce) 53 (0, 0)) by
    rw [hw2]
    exact ((below_alloc (Below.refl _ _) _ : Below w1.heap.size w1 _).block g (by omega)).trans (by rw [hw1, hg]; exact heap_alloc_new w _))
  have HG2 := Aside0.mk (show w2.heap[g2]? = some (.cells (s.cells E2 n ce2) 53 (0, 0)) by rw [hw2, hg2, ← hz1]; exact heap_alloc_new w1 _)
  have HA2 := Aside0.mk (Kd.C_below HA.out HB2.out)
  have HB3 := Aside0.mk (Kd.C_below HB.out HB2.out)
  clear hg hw1 hz1 hw2 hg2 hsz
  have a0 := (blk_cell HG.out 0).trans rfl
  have b0 := (blk_cell HG2.out 0).trans rfl
  have a1 := (blk_cell HG.out 1).trans rfl
  have b1 := (blk_cell HG2.out 1).trans rfl
  have a2 := (blk_cell HG.out 2).trans rfl
  have b2 := (blk_cell HG2.out 2).trans rfl
  have a3 := (blk_cell HG.out 3).trans rfl
  have b3 := (blk_cell HG2.out 3).trans rfl
  have a4 := (blk_cell HG.out 4).trans rfl
  have b4 := (blk_cell HG2.out 4).trans rfl
  have a5 := (blk_cell HG.out 5).trans rfl
  have b5 := (blk_cell HG2.out 5).trans rfl
  have a6 := (blk_cell HG.out 6).trans rfl
  have b6 := (blk_cell HG2.out 6).trans rfl
  have a7 := (blk_cell HG.out 7).trans rfl
  have b7 := (blk_cell HG2.out 7).trans rfl
  have a8 := (blk_cell HG.out 8).trans rfl
  have b8 := (blk_cell HG2.out 8).trans rfl
  go_wp2
  clear a0 b0 a1 b1 a2 b2 a3 b3 a4 b4 a5 b5 a6 b6 a7 b7 a8 b8
  go_loopw [5] (fun v5 wr => ∃ i : Nat, i ≤ n ∧ v5 = .int .i64 (i : Int) ∧ Aside0 (Below w2.heap.size w2 wr)) (fun v5 _ => n - (intOf v5).toNat)
  case atStart => exact ⟨0, Nat.zero_le _, rfl, ⟨Below.refl _ _⟩⟩
  case round =>
    obtain ⟨i, hi, rfl, HW⟩ := hrel
    have HGr := Aside0.mk ((HW.out.block g (blk_lt HG.out)).trans HG.out)
    have HG2r := Aside0.mk ((HW.out.block g2 (blk_lt HG2.out)).trans HG2.out)
    have x7 : wr.cell? ⟨g, 7, none⟩ = some (.slice E n ce) := (blk_cell HGr.out 7).trans rfl
    by_cases hlt : i < n
    · have hd1 : decide ((i : Int) < (n : Int)) = true := decide_eq_true (by omega)
      have hd2 : decide (i < n) = true := decide_eq_true hlt
      have HLT := Aside0.mk hlt
      have i1 : (i < n) = True := eq_true hlt
      have i2 : ((i : Int) < (n : Int)) = True := eq_true (by omega)
      obtain ⟨ad, A5, c5, rfl, p0, p1, p2, p3, p4, p5, l5, C5⟩ := at_T24 HA2.out (i : Int) (by omega) (by omega)
      obtain ⟨bd, A6, c6, rfl, q0, q1, q2, q3, q4, q5, l6, C6⟩ := at_T24 HB3.out (i : Int) (by omega) (by omega)
      have HEL := Aside0.mk (show (rd_T24 s.es (i : Int)).f5.length ≤ 2513169434843 from HOP.out _ (by
        unfold rd_T24
        rw [Int.toNat_natCast, List.getD_eq_getElem?_getD, List.getElem?_eq_getElem (by rw [HN.out]; exact hlt)]
        exact List.getElem_mem _))
      obtain ⟨x, hx⟩ : ∃ x, rd_T24 s.es (i : Int) = x := ⟨_, rfl⟩
      rw [hx] at HEL
      rw [hx, Int.toNat_natCast] at p0 p1 p2 p3 p4 q0 q1 q2 q3 q4
      rw [hx, Int.toNat_natCast] at p5 q5
      rw [hx] at l5 l6 C5 C6
      obtain ⟨m5, hm5⟩ : ∃ m5, x.f5.length = m5 := ⟨_, rfl⟩
      rw [hm5] at p5 q5 l5 l6 C5 C6 HEL
      have HM5 := Aside0.mk hm5
      have HL5 := Aside0.mk (And.intro l5 l6)
      have HC5 := Aside0.mk (Kd.C_below C5 HW.out)
      have HC6 := Aside0.mk (Kd.C_below C6 HW.out)
      clear hx hm5 l5 l6 C5 C6
      replace p0 := pw_cell_below HW.out p0
      replace p1 := pw_cell_below HW.out p1
      replace p2 := pw_cell_below HW.out p2
      replace p3 := pw_cell_below HW.out p3
      replace p4 := pw_cell_below HW.out p4
      replace p5 := pw_cell_below HW.out p5
      replace q0 := pw_cell_below HW.out q0
      replace q1 := pw_cell_below HW.out q1
      replace q2 := pw_cell_below HW.out q2
      replace q3 := pw_cell_below HW.out q3
      replace q4 := pw_cell_below HW.out q4
      replace q5 := pw_cell_below HW.out q5
      go_wp2_with fail
      clear x7
      have x7 : wr.drew.cell? ⟨g, 7, none⟩ = some (.slice (some ad) n ce) := (blk_cell (w := wr.drew) HGr.out 7).trans rfl
      have y7 : wr.drew.cell? ⟨g2, 7, none⟩ = some (.slice (some bd) n ce2) := (blk_cell (w := wr.drew) HG2r.out 7).trans rfl
      replace p0 := pw_cell_below (below_drew1 (Below.refl _ _)) p0
      replace p1 := pw_cell_below (below_drew1 (Below.refl _ _)) p1
      replace p2 := pw_cell_below (below_drew1 (Below.refl _ _)) p2
      replace p3 := pw_cell_below (below_drew1 (Below.refl _ _)) p3
      replace p4 := pw_cell_below (below_drew1 (Below.refl _ _)) p4
      replace p5 := pw_cell_below (below_drew1 (Below.refl _ _)) p5
      replace q0 := pw_cell_below (below_drew1 (Below.refl _ _)) q0
      replace q1 := pw_cell_below (below_drew1 (Below.refl _ _)) q1
      replace q2 := pw_cell_below (below_drew1 (Below.refl _ _)) q2
      replace q3 := pw_cell_below (below_drew1 (Below.refl _ _)) q3
      replace q4 := pw_cell_below (below_drew1 (Below.refl _ _)) q4
      replace q5 := pw_cell_below (below_drew1 (Below.refl _ _)) q5
      refine start_ (n := 12) (S := fun w' => w'.cell? ⟨g, 7, none⟩ = some (.slice (some ad) n ce) ∧ w'.cell? ⟨g2, 7, none⟩ = some (.slice (some bd) n ce2) ∧ w'.cell? (ad.add (i * 6)) = some (.int .i64 x.f0) ∧ w'.cell? ⟨(ad.add (i * 6)).block, (ad.add (i * 6)).off + 1, none⟩ = some (.int .i64 x.f1) ∧ w'.cell? ⟨(ad.add (i * 6)).block, (ad.add (i * 6)).off + 2, none⟩ = some (.int .i64 x.f2) ∧ w'.cell? ⟨(ad.add (i * 6)).block, (ad.add (i * 6)).off + 3, none⟩ = some (.int .i64 x.f3) ∧ w'.cell? ⟨(ad.add (i * 6)).block, (ad.add (i * 6)).off + 4, none⟩ = some (.int .i64 x.f4) ∧ w'.cell? ⟨(ad.add (i * 6)).block, (ad.add (i * 6)).off + 5, none⟩ = some (.slice A5 m5 c5) ∧ w'.cell? (bd.add (i * 6)) = some (.int .i64 x.f0) ∧ w'.cell? ⟨(bd.add (i * 6)).block, (bd.add (i * 6)).off + 1, none⟩ = some (.int .i64 x.f1) ∧ w'.cell? ⟨(bd.add (i * 6)).block, (bd.add (i * 6)).off + 2, none⟩ = some (.int .i64 x.f2) ∧ w'.cell? ⟨(bd.add (i * 6)).block, (bd.add (i * 6)).off + 3, none⟩ = some (.int .i64 x.f3) ∧ w'.cell? ⟨(bd.add (i * 6)).block, (bd.add (i * 6)).off + 4, none⟩ = some (.int .i64 x.f4) ∧ w'.cell? ⟨(bd.add (i * 6)).block, (bd.add (i * 6)).off + 5, none⟩ = some (.slice A6 m5 c6)) (ds := []) bq70 (by kernel_rfl) rfl rfl ⟨x7, y7, p0, p1, p2, p3, p4, p5, q0, q1, q2, q3, q4, q5⟩ (fun hHeld => ?_)
      refine pure_ (i := 0) (N := some 63) (v := ?_) (a' := ?_) bq71 rfl rfl (by kernel_rfl) (fun _ _ _ h => h) (Or.inl ⟨by rfl, ?_⟩) ?_ ?_
      rotate_left
      · intro w'; go_simp; with_reducible rfl
      rotate_left
      · simp only [sxx]; rfl
      refine pure_ (i := 2) (N := some 65) (v := ?_) (a' := ?_) bq195 rfl rfl (by kernel_rfl) (fun _ _ _ h => h) (Or.inl ⟨by rfl, ?_⟩) ?_ ?_
      rotate_left
      · intro w'; go_simp; with_reducible rfl
      rotate_left
      · simp only [sxx]; rfl
      refine pure_ (i := 5) (N := some 68) (v := ?_) (a' := ?_) bq196 rfl rfl (by kernel_rfl) (fun _ _ _ h => h) (Or.inl ⟨by rfl, ?_⟩) ?_ ?_
      rotate_left
      · intro w'; go_simp; with_reducible rfl
      rotate_left
      · simp only [sxx]; rfl
      refine pure_ (i := 7) (N := some 70) (v := ?_) (a' := ?_) bq197 rfl rfl (by kernel_rfl) (fun _ _ _ h => h) (Or.inl ⟨by rfl, ?_⟩) ?_ ?_
      rotate_left
      · intro w'; go_simp; with_reducible rfl
      rotate_left
      · simp only [sxx]; rfl
      refine take_ (i := 1) (N := some 64) (v := ?_) (a' := ?_) bq198 rfl rfl (by kernel_rfl) (fun _ _ _ h => h) (Or.inl ⟨by rfl, ?_⟩) hHeld ?_ ?_
      rotate_left
      · rintro w' ⟨s0, s1, s2, s3, s4, s5, s6, s7, s8, s9, s10, s11, s12, s13⟩
        go_simp; with_reducible rfl
      rotate_left
      · simp only [sxx]; rfl
      refine pure_ (i := 3) (N := some 66) (v := ?_) (a' := ?_) bq199 rfl rfl (by kernel_rfl) (fun _ _ _ h => h) (Or.inl ⟨by rfl, ?_⟩) ?_ ?_
      rotate_left
      · intro w'; go_simp; with_reducible rfl
      rotate_left
      · simp only [sxx]; rfl
      refine take_ (i := 4) (N := some 67) (v := ?_) (a' := ?_) bq200 rfl rfl (by kernel_rfl) (fun _ _ _ h => h) (Or.inl ⟨by rfl, ?_⟩) hHeld ?_ ?_
      rotate_left
      · rintro w' ⟨s0, s1, s2, s3, s4, s5, s6, s7, s8, s9, s10, s11, s12, s13⟩
        go_simp; with_reducible rfl
      rotate_left
      · simp only [sxx]; rfl
      refine take_ (i := 6) (N := some 69) (v := ?_) (a' := ?_) bq78 rfl rfl (by kernel_rfl) (fun _ _ _ h => h) (Or.inl ⟨by rfl, ?_⟩) hHeld ?_ ?_
      rotate_left
      · rintro w' ⟨s0, s1, s2, s3, s4, s5, s6, s7, s8, s9, s10, s11, s12, s13⟩
        go_simp; with_reducible rfl
      rotate_left
      · simp only [sxx]; rfl
      refine pure_ (i := 8) (N := some 71) (v := ?_) (a' := ?_) bq79 rfl rfl (by kernel_rfl) (fun _ _ _ h => h) (Or.inl ⟨by rfl, ?_⟩) ?_ ?_
      rotate_left
      · intro w'; go_simp; with_reducible rfl
      rotate_left
      · simp only [sxx]; rfl
      refine take_ (i := 9) (N := some 72) (v := ?_) (a' := ?_) bq80 rfl rfl (by kernel_rfl) (fun _ _ _ h => h) (Or.inl ⟨by rfl, ?_⟩) hHeld ?_ ?_
      rotate_left
      · rintro w' ⟨s0, s1, s2, s3, s4, s5, s6, s7, s8, s9, s10, s11, s12, s13⟩
        go_simp; with_reducible rfl
      rotate_left
      · simp only [sxx]; rfl
      refine one_ (i := 10) (N := some 73) bq81 rfl rfl (by kernel_rfl) (by decide) (fun K hK => ?_)
      refine goes_ Try.func34 (by kernel_rfl) rfl #[.agg #[.int .i64 x.f0, .int .i64 x.f1, .int .i64 x.f2, .int .i64 x.f3, .int .i64 x.f4, .slice A5 m5 c5], .agg #[.int .i64 x.f0, .int .i64 x.f1, .int .i64 x.f2, .int .i64 x.f3, .int .i64 x.f4, .slice A6 m5 c6]] (by rfl) rfl rfl (by simp only [mxx]; rfl) ?_
      with_reducible refine (entry_N x.f0 x.f1 x.f2 x.f3 x.f4 x.f5 A5 A6 c5 c6 m5 _ HM5.out (by have := HEL.out; omega) (Kd.C_below HC5.out (below_drew1 (Below.refl _ _))) HL5.out.1 (Kd.C_below HC6.out (below_drew1 (Below.refl _ _))) HL5.out.2).mono ?_
      rintro e u3 ⟨rfl, hb⟩
      refine ⟨_, rfl, ?_⟩
      have HU := Aside0.mk hb
      clear hb
      refine hK.out _ _ ⟨pw_cell_below HU.out x7, pw_cell_below HU.out y7, pw_cell_below HU.out p0, pw_cell_below HU.out p1, pw_cell_below HU.out p2, pw_cell_below HU.out p3, pw_cell_below HU.out p4, pw_cell_below HU.out p5, pw_cell_below HU.out q0, pw_cell_below HU.out q1, pw_cell_below HU.out q2, pw_cell_below HU.out q3, pw_cell_below HU.out q4, pw_cell_below HU.out q5⟩ (fun hHeld => ?_)
      clear hK K
      refine norm_ (a' := ?_) ?_ ?_
      rotate_left
      · show Act.put _ (some 73) _ = _
        simp only [sxx]; rfl
      refine pure_ (i := 11) (N := some 6) (v := ?_) (a' := ?_) bq82 rfl rfl (by kernel_rfl) (fun _ _ _ h => h) (Or.inl ⟨by rfl, ?_⟩) ?_ ?_
      rotate_left
      · intro w'; go_simp; with_reducible rfl
      rotate_left
      · simp only [sxx]; rfl
      refine done_ (by kernel_rfl) ?_
      go_wp2
      go_roundw
      case rel => exact ⟨i + 1, HLT.out, by rw [wr_succ (m := i) (by have := HLT.out; have := HM.out; omega)]; rfl, ⟨below_step HW.out (below_then (below_drew1 (Below.refl _ _)) (Nat.le_refl _) HU.out)⟩⟩
      case measure =>
        have h9 := HLT.out
        have h8 := wr_succ (m := i) (by have := HLT.out; have := HM.out; omega)
        show n - (intOf (.int .i64 (wrap64 ((i : Int) + 1)))).toNat < n - (intOf (.int .i64 (i : Int))).toNat
        rw [h8]
        show n - ((i : Int) + 1).toNat < n - (i : Int).toNat
        omega
    · have hd1 : decide ((i : Int) < (n : Int)) = false := decide_eq_false (by omega)
      have hd2 : decide (i < n) = false := decide_eq_false hlt
      go_wp2; go_ret
      exact ⟨rfl, below_step HB2.out HW.out⟩

abbrev b23 : List Int := [74, 82, 2, 0, 0, 0, 0, 1, 0, 0, 0, 3, 33, 207, 85, 44, 1, 1, 2, 223, 77, 86, 173]
set_option maxRecDepth 100000 in
theorem b23_enc : recEnc 1 2 0 0 0 0 0 [] 1 1 2 0 0 ⟨#[]⟩ = (b23, 0) := by
  decide +kernel
abbrev y23 : JR := ⟨2, 0, 0, 0, 0, 0, [], 1, 1, 2, 0, 0, ⟨#[]⟩⟩
theorem b23_rd1 : RdSpec b23 1 (some (y23, 23)) := by
  intro w A n c hn hc hC
  have h0 : (23 : Nat) = n := hn
  subst h0
  refine (read_ok w A 23 c b23 1 3 2 0 0 0 0 0 [] 1 1 2 0 0 ⟨#[]⟩ b23 rfl hc (by omega) (by decide +kernel) hC (by omega) (by decide) (by decide) (by decide) (by decide) (by decide +kernel) (by decide +kernel) (by decide +kernel) (by decide +kernel) b23_enc ?_).mono ?_
  · intro w1 rb A' c' hb hrb hc' hg hC'
    refine (rd_view w w1 rb 3 c' A' [1, 1, 2] 1 1 1 2 2 rfl hc' (by decide) (by omega) hC' hb hrb hg (by decide +kernel) (by decide +kernel) (by decide +kernel)).mono ?_
    rintro e w' ⟨rfl, hf⟩
    exact ⟨none, 0, 0, rfl, rfl, Kd.R_nil _ _ _ _ _, hf⟩
  · rintro e w' ⟨B, nb, cb, rfl, hl, hr, hb⟩
    obtain rfl : 0 = nb := hl
    exact ⟨B, cb, rfl, hr, hb⟩
theorem b23_rd2 : RdSpec [] 2 none := by
  intro w A n c hn hc hC
  obtain rfl : 0 = n := hn
  exact read_short w A 0 c 2 (by omega)
theorem b23_walks : Walks b23 0 0 [y23] := ⟨23, b23_rd1, by omega, by decide, b23_rd2⟩
attribute [local go_sem] Oper.semAt_some

/-- A block of cells. -/
def Celly (W : World) (j : Nat) : Prop := ∃ cs q, W.heap[j]? = some (.cells cs q (0, 0))
theorem Celly.lt {W : World} {j : Nat} (h : Celly W j) : j < W.heap.size := by obtain ⟨cs, q, h⟩ := h; exact blk_lt h
theorem R_celly {α : Type} {d : Kd α} {e base : Nat} {ok : Nat → Prop} {w : World} {v : Value} {xs : List α} (h : d.R e w base ok v xs) : d.R e w base (fun k => ok k ∧ base ≤ k ∧ Celly w k) v xs :=
  Kd.R_mono (Kd.R_bound h) (fun k hk => ⟨hk.1, hk.2.1, by obtain ⟨q, _, cs, hc⟩ := hk.2.2.2; exact ⟨cs, q, hc⟩⟩)
/-- What a turn of a block that is no cells, or new blocks, leave alone. -/
theorem celly_grown {W W' : World} {row : Option Nat} {j B : Nat} (hc : Celly W j) (hg : W.grownBy W' row) (hr : ∀ r, row = some r → B ≤ r ∧ ∃ o : Obj, W.heap[r]? = some o ∧ o.isCells = false) : W'.heap[j]? = W.heap[j]? := by
  obtain ⟨cs, q, h⟩ := hc
  refine hg.block j (blk_lt h) (fun e => ?_)
  obtain ⟨_, o, ho, hc⟩ := hr j e.symm
  rw [h] at ho
  cases ho
  cases hc
theorem Celly.grown {W W' : World} {row : Option Nat} {j B : Nat} (hc : Celly W j) (hg : W.grownBy W' row) (hr : ∀ r, row = some r → B ≤ r ∧ ∃ o : Obj, W.heap[r]? = some o ∧ o.isCells = false) : Celly W' j := by
  have := celly_grown hc hg hr
  obtain ⟨cs, q, h⟩ := hc
  exact ⟨cs, q, this.trans h⟩
theorem blk_celly {W W' : World} {row : Option Nat} {j B : Nat} {cs : Array Value} {q : TypeId} (h : W.heap[j]? = some (.cells cs q (0, 0))) (hg : W.grownBy W' row) (hr : ∀ r, row = some r → B ≤ r ∧ ∃ o : Obj, W.heap[r]? = some o ∧ o.isCells = false) : W'.heap[j]? = some (.cells cs q (0, 0)) := (celly_grown ⟨cs, q, h⟩ hg hr).trans h
theorem szA (W : World) (o : Obj) : (W.alloc o).heap.size = W.heap.size + 1 := by show (W.heap.push o).size = _; rw [Array.size_push]
/-- Walk: a closure over the bytes. -/
theorem Walk_C (A : Option Addr) (n c : Nat) (w : World) : Calls Try.prog 35 #[.slice A n c] w fun e w' => e = .returned (.func (.func 59) #[] #[.pointer (some ⟨w.heap.size, 0, none⟩)]) ∧ w' = w.alloc (.cells #[.slice A n c] 29) := by
  have hmf : ∀ (fn : Fn) (first cap : Array Value) (w : World), (Instr.makeFunc fn first cap).run Try.prog w = .ok (.func fn first cap) w := fun _ _ _ _ => rfl
  go_enter Try.func35, Try.ntmps35
  go_wp2; go_ret
  exact ⟨rfl, rfl⟩
theorem blk5 (w : World) (o0 o1 o2 o3 o4 : Obj) {W : World} (hW : W = ((((w.alloc o0).alloc o1).alloc o2).alloc o3).alloc o4) : W.heap[w.heap.size]? = some o0 ∧ W.heap[w.heap.size + 1]? = some o1 ∧ W.heap[w.heap.size + 2]? = some o2 ∧ W.heap[w.heap.size + 3]? = some o3 ∧ W.heap[w.heap.size + 4]? = some o4 ∧ W.heap.size = w.heap.size + 5 ∧ Below w.heap.size w W := by
  subst hW
  have s1 := szA w o0
  have s2 := szA (w.alloc o0) o1
  have s3 := szA ((w.alloc o0).alloc o1) o2
  have s4 := szA (((w.alloc o0).alloc o1).alloc o2) o3
  have s5 := szA ((((w.alloc o0).alloc o1).alloc o2).alloc o3) o4
  have n0 := heap_alloc_new w o0
  have n1 := heap_alloc_new (w.alloc o0) o1
  have n2 := heap_alloc_new ((w.alloc o0).alloc o1) o2
  have n3 := heap_alloc_new (((w.alloc o0).alloc o1).alloc o2) o3
  have n4 := heap_alloc_new ((((w.alloc o0).alloc o1).alloc o2).alloc o3) o4
  have b2 : Below (w.alloc o0).heap.size (w.alloc o0) ((w.alloc o0).alloc o1) := below_alloc (Below.refl _ _) _
  have b3 : Below ((w.alloc o0).alloc o1).heap.size ((w.alloc o0).alloc o1) (((w.alloc o0).alloc o1).alloc o2) := below_alloc (Below.refl _ _) _
  have b4 : Below (((w.alloc o0).alloc o1).alloc o2).heap.size (((w.alloc o0).alloc o1).alloc o2) ((((w.alloc o0).alloc o1).alloc o2).alloc o3) := below_alloc (Below.refl _ _) _
  have b5 : Below ((((w.alloc o0).alloc o1).alloc o2).alloc o3).heap.size ((((w.alloc o0).alloc o1).alloc o2).alloc o3) (((((w.alloc o0).alloc o1).alloc o2).alloc o3).alloc o4) := below_alloc (Below.refl _ _) _
  rw [s1] at n1
  rw [s2, s1] at n2
  rw [s3, s2, s1] at n3
  rw [s4, s3, s2, s1] at n4
  refine ⟨?_, ?_, ?_, ?_, ?_, by omega, below_alloc (below_alloc (below_alloc (below_alloc (below_alloc (Below.refl _ _) _) _) _) _) _⟩
  · exact (b5.block _ (by omega)).trans ((b4.block _ (by omega)).trans ((b3.block _ (by omega)).trans ((b2.block _ (by omega)).trans n0)))
  · exact (b5.block _ (by omega)).trans ((b4.block _ (by omega)).trans ((b3.block _ (by omega)).trans n1))
  · exact (b5.block _ (by omega)).trans ((b4.block _ (by omega)).trans n2)
  · exact (b5.block _ (by omega)).trans n3
  · exact n4
abbrev S23 (k : Nat) : Array Value := if k = 0 then savedCells 0 0 0 0 0 0 ⟨#[]⟩ none 0 0 0 else savedCells 1 1 2 0 0 0 ⟨#[]⟩ none 0 0 0
/-- A code that ends as it goes on: no panic is to be thought of. -/
theorem wp_normal {P : Program} {c : Code} {Q : Exit → Act → World → Prop} {a : Act} {w : World} (h : c.wp P (fun e a w => e = .normal ∧ Q .normal a w) a w) : c.wp P Q a w :=
  wp_mono h (fun e a w he => by obtain ⟨rfl, hq⟩ := he; exact hq)
/-- Between two rounds. -/
def RI (w0 : World) (A : Option Addr) (c : Nat) (T : Nat → Prop) (k : Nat) (W : World) : Prop :=
  W.heap[w0.heap.size]? = some (.cells (savedCells 0 0 0 0 0 0 ⟨#[]⟩ none 0 0 0) 53 (0, 0)) ∧ W.heap[w0.heap.size + 1]? = some (.cells (S23 k) 53 (0, 0)) ∧ W.heap[w0.heap.size + 2]? = some (.cells #[.int .i64 (k : Int)] 3 (0, 0)) ∧ W.heap[w0.heap.size + 3]? = some (.cells #[.int .i64 (23 * (k : Int))] 3 (0, 0)) ∧
    W.heap[w0.heap.size + 4]? = some (.cells #[.slice A 23 c] 29 (0, 0)) ∧ Below w0.heap.size w0 W ∧ ∀ j, T j → w0.heap.size + 5 ≤ j
theorem RI_own (w0 : World) (A : Option Addr) (c : Nat) : TOwn (w0.heap.size + 5) (RI w0 A c) := by
  rintro T k W W' row T' ⟨h1, h2, h3, h4, h5, h6, h7⟩ hg hr hT
  refine ⟨blk_celly h1 hg hr, blk_celly h2 hg hr, blk_celly h3 hg hr, blk_celly h4 hg hr, blk_celly h5 hg hr, h6.grown hg h6.size (fun r e => by have := (hr r e).1; omega), fun j hj => ?_⟩
  rcases hT j hj with h | h
  · exact h7 j h
  · have := blk_lt h5
    omega
theorem wr23 : wrap64 23 = 23 := by unfold wrap64; omega
theorem results20_row (tmps : Array Value) (w : World) (p : Nat) (cs : Array Value) (v3 v4 : Value) (h2 : tmps[2]? = some (.pointer (some ⟨p, 0, none⟩))) (h3 : tmps[3]? = some v3) (h4 : tmps[4]? = some v4) (hg : w.heap[p]? = some (.cells cs 53 (0, 0))) (hs : cs.size = 9) :
    (results Try.f20 tmps).run Try.prog w = .ok (.tuple #[.agg cs, v3, v4]) w := by
  have hl := run_loadVar_row (P := Try.prog) w p 53 53 cs (0, 0) _ hg Try.underlying53 rfl (by rw [hs]; kernel_rfl)
  simp [results, Try.results20, h2, h3, h4, asAddr, hl, Sem.run_bind, Sem.run_pure, Result.andThen_ok]
set_option maxHeartbeats 16000000 in
set_option maxRecDepth 100000 in
theorem recover_23 (w : World) (A : Option Addr) (c : Nat) (hC : C8 w A 23 b23) (hc : 23 ≤ c) :
    Calls Try.prog 20 #[.slice A 23 c] w fun e w' => e = .returned (.tuple #[.agg (savedCells 1 1 2 0 0 0 ⟨#[]⟩ none 0 0 0), .int .i64 1, .int .i64 23]) ∧ Below w.heap.size w w' := by
  have HC := Aside0.mk hC
  have HCC := Aside0.mk hc
  have hu53 := Try.underlying53
  have hu28 := Try.underlying28
  have hu26 := Try.underlying26
  have hu24 := Try.underlying24
  clear hC hc
  refine (callsIn_wide (n := 0)).1 (callsIn_of_wp_marks Try.func20 rfl trivial ?_)
  refine (wpIn_wide (n := 0)).2 ?_
  simp only [Try.ntmps20, List.size_toArray, List.length_cons, List.length_nil, Nat.reduceAdd, Nat.reduceSub, Array.replicate_succ, Array.replicate_zero, List.push_toArray, List.append_toArray, List.nil_append, List.cons_append]
  go_wp2_with fail
  refine (Walk_C A 23 c _).mono ?_
  rintro e w1 ⟨rfl, rfl⟩
  obtain ⟨w1, hw1⟩ : ∃ w1, w1 = ((((w.alloc (.cells (savedCells 0 0 0 0 0 0 ⟨#[]⟩ none 0 0 0) 53)).alloc (.cells (savedCells 0 0 0 0 0 0 ⟨#[]⟩ none 0 0 0) 53)).alloc (.cells #[.int .i64 0] 3)).alloc (.cells #[.int .i64 0] 3)).alloc (.cells #[.slice A 23 c] 29) := ⟨_, rfl⟩
  have hsz : ((((w.alloc (.cells (savedCells 0 0 0 0 0 0 ⟨#[]⟩ none 0 0 0) 53)).alloc (.cells (savedCells 0 0 0 0 0 0 ⟨#[]⟩ none 0 0 0) 53)).alloc (.cells #[.int .i64 0] 3)).alloc (.cells #[.int .i64 0] 3)).heap.size = w.heap.size + 4 := by rw [szA, szA, szA, szA]
  obtain ⟨b0, b1, b2, b3, b4, b5, b6⟩ := blk5 w _ _ _ _ _ hw1
  rw [← hw1, hsz]
  have HB := Aside0.mk (And.intro b0 (And.intro b1 (And.intro b2 (And.intro b3 (And.intro b4 (And.intro b5 b6))))))
  clear hw1 hsz b0 b1 b2 b3 b4 b5 b6
  have hI0 : RI w A c (fun _ => False) 0 w1 := ⟨HB.out.1, HB.out.2.1, HB.out.2.2.1, HB.out.2.2.2.1, HB.out.2.2.2.2.1, HB.out.2.2.2.2.2.2, fun j hj => hj.elim⟩
  obtain ⟨b, hb⟩ : ∃ b, b = w.heap.size := ⟨_, rfl⟩
  rw [← hb]
  have HBW := Aside0.mk hb
  clear hb
  go_wp2
  refine rangeWalk (gf := 59) (Bn := b + 4) (fun k y A' c' B => { tmps := #[.slice A 23 c, undef, .pointer (some ⟨b, 0, none⟩), .int .i64 0, .int .i64 0, .pointer (some ⟨b + 1, 0, none⟩), .pointer (some ⟨b + 2, 0, none⟩), .pointer (some ⟨b + 3, 0, none⟩), .int .i64 ((k : Int) + 1), .pointer (some ⟨B, 0, none⟩), undef, undef, undef, .slice A 23 c, .func (.func 59) #[] #[.pointer (some ⟨b + 4, 0, none⟩)], .int .i64 ((k : Int) + 1), .agg (y.cells A' c'), undef, undef, undef, undef, undef, undef, undef, undef, undef, undef, undef, undef, undef, undef, undef, undef, undef, undef, undef, undef, undef, undef, undef], defers := [] }) (fun W => C8 W A 23 b23) [y23] rfl (enters_ Try.func59 (by kernel_rfl) rfl) rfl (RI w A c) (fun _ _ => False) (fun _ => False) ?hI ?hIx ?h0 ?hT0 ?hD ?hit ?assign ?body ?done ?stop
  case hI => exact TOwn.weak (RI_own w A c) (by have := HB.out.2.2.2.2.2.1; omega)
  case hIx => exact fun c s A B row hs hg hr => hs
  case h0 => exact hI0
  case hT0 => exact fun j hj => hj.elim
  case hD => exact fun T k W h => Kd.C_below HC.out h.2.2.2.2.2.1
  case hit =>
    rintro T W ⟨h1, h2, h3, h4, h5, h6, h7⟩
    exact it59 _ A 23 c b23 [y23] W rfl HCC.out (by omega) b23_walks (by rw [HBW.out]; exact blk_cell h5 0)
  case assign =>
    intro l k y A' c' W K hK
    simp only [List.zip_toArray, List.zip_cons_cons, List.zip_nil_left, List.zip_nil_right, List.foldl_toArray, List.foldl_toArray', List.foldl_cons, List.foldl_nil, sx1, sx2, sx3] at hK ⊢
    refine wpIn_seq ?_
    refine region_round l (by rintro ⟨a, w, h⟩; exact h) (by simp) ?_
    go_wp2
    refine region_round l (by rintro ⟨a, w, h⟩; exact h) (by simp) ?_
    go_wp2
    exact hK
  case body =>
    rintro T l k y A' c' okx B W hT hTlt hTl hle hloop hy hI ⟨hR, hokx⟩ hBle hbx
    obtain ⟨rfl, rfl⟩ : k = 0 ∧ y = y23 := by
      cases k with
      | zero => exact ⟨rfl, (Option.some.inj hy).symm⟩
      | succ k => simp at hy
    have hs5 : w1.heap.size = b + 5 := by rw [HBW.out]; exact HB.out.2.2.2.2.2.1
    rw [hs5] at hle hR hokx hBle
    obtain ⟨h1, h2, h3, h4, h5, h6, h7⟩ := hI
    rw [← HBW.out] at h1 h2 h3 h4 h5 h7
    simp only [List.zip_toArray, List.zip_cons_cons, List.zip_nil_left, List.zip_nil_right, List.foldl_toArray, List.foldl_toArray', List.foldl_cons, List.foldl_nil, sx1, sx2, sx3]
    have e01 : (((0 : Nat) : Int) + 1) = 1 := rfl
    rw [e01]
    have F1 := Aside0.mk h1
    have F2 := Aside0.mk (show W.heap[b + 1]? = some (.cells (savedCells 0 0 0 0 0 0 ⟨#[]⟩ none 0 0 0) 53 (0, 0)) from h2)
    have F3 := Aside0.mk (show W.heap[b + 2]? = some (.cells #[.int .i64 0] 3 (0, 0)) from h3)
    have F4 := Aside0.mk (show W.heap[b + 3]? = some (.cells #[.int .i64 0] 3 (0, 0)) from h4)
    have F5 := Aside0.mk h5
    have F6 := Aside0.mk h6
    have F7 := Aside0.mk h7
    have FR := Aside0.mk (show Kd.R k40 40 W (b + 5) okx (.slice A' 0 c') [] from hR)
    have FB := Aside0.mk (show W.heap[B]? = some (.cells (recCells 2 0 0 0 0 0 A' 0 c' 1 1 2 0 0 ⟨#[]⟩) 28 (0, 0)) from hbx)
    have FBL := Aside0.mk hBle
    have FT := Aside0.mk hTlt
    have u0 : W.cell? ⟨B, 0, none⟩ = _ := (blk_cell FB.out 0).trans rfl
    have u1 := (blk_cell FB.out 1).trans rfl
    have u2 := (blk_cell FB.out 2).trans rfl
    have u3 := (blk_cell FB.out 3).trans rfl
    have u4 := (blk_cell FB.out 4).trans rfl
    have u5 := (blk_cell FB.out 5).trans rfl
    have u6 := (blk_cell FB.out 6).trans rfl
    have u7 := (blk_cell FB.out 7).trans rfl
    have u8 := (blk_cell FB.out 8).trans rfl
    have u9 := (blk_cell FB.out 9).trans rfl
    have u10 := (blk_cell FB.out 10).trans rfl
    have u11 := (blk_cell FB.out 11).trans rfl
    have u12 := (blk_cell FB.out 12).trans rfl
    clear h1 h2 h3 h4 h5 h6 h7 hR hokx hTlt hbx hy hI0
    refine wpIn_block ?_
    refine wpIn_seq ?_
    refine region_round l (by rintro ⟨a, w, h⟩; exact h) (by simp) ?_
    go_wp2_with fail
    refine (known_view 0 0 0 0 0 A' 0 c' 1 1 2 0 0 ⟨#[]⟩ W).mono ?_
    rintro e W2 ⟨rfl, hb2⟩
    have G1 := Aside0.mk hb2
    have F2' := Aside0.mk ((hb2.block (b + 1) (blk_lt F2.out)).trans F2.out)
    clear hb2
    go_wp2
    refine wpIn_seq ?_
    refine wpIn_seq ?_
    refine region_round l (by rintro ⟨a, w, h⟩; exact h) (by simp) ?_
    go_wp2_with fail
    refine (fits_view 1 1 2 (b + 1) _ 0 true W2 F2'.out rfl).mono ?_
    rintro e W3 ⟨rfl, hb3⟩
    have G2 := Aside0.mk (below_step G1.out hb3)
    have F2'' := Aside0.mk ((hb3.block (b + 1) (blk_lt F2'.out)).trans F2'.out)
    have d1 : decide ((0 : Int) < 1) = true := rfl
    clear hb3
    clear u0 u1 u2 u3 u4 u5 u6 u7 u8 u9 u10 u11 u12
    go_wp2
    refine wpIn_cond_false (by rfl) ?_
    refine wpIn_skip ?_
    simp only [Exit.then]
    refine wpIn_seq ?_
    refine region_round l (by rintro ⟨a, w, h⟩; exact h) (by simp) ?_
    go_wp2_with fail
    refine (says_view 1 1 2 (b + 1) 0 0 0 0 0 0 ⟨#[]⟩ none 0 0 0 W3 F2''.out).mono ?_
    rintro e W4 ⟨⟨v4, rfl⟩, hp4, hf4⟩
    have G4 := Aside0.mk ((Frm.of_below G2.out (fun k => k = b + 1)).then_ hf4 (fun k h _ => h))
    have P4 := Aside0.mk hp4
    have FB4 := Aside0.mk (G4.out.blk FB.out (by have := FBL.out; omega))
    clear hf4 hp4
    have u0 := (blk_cell FB4.out 0).trans rfl
    have u1 := (blk_cell FB4.out 1).trans rfl
    have u2 := (blk_cell FB4.out 2).trans rfl
    have u3 := (blk_cell FB4.out 3).trans rfl
    have u4 := (blk_cell FB4.out 4).trans rfl
    have u5 := (blk_cell FB4.out 5).trans rfl
    have u6 := (blk_cell FB4.out 6).trans rfl
    have u7 := (blk_cell FB4.out 7).trans rfl
    have u8 := (blk_cell FB4.out 8).trans rfl
    have u9 := (blk_cell FB4.out 9).trans rfl
    have u10 := (blk_cell FB4.out 10).trans rfl
    have u11 := (blk_cell FB4.out 11).trans rfl
    have u12 := (blk_cell FB4.out 12).trans rfl
    go_wp2
    refine wpIn_seq ?_
    refine region_round l (by rintro ⟨a, w, h⟩; exact h) (by simp) ?_
    go_wp2_with fail
    refine (encode_C 1 2 0 0 0 0 0 A' c' 0 [] 1 1 2 0 0 ⟨#[]⟩ W4 rfl (R40_C (R40_any (Kd.R_step (ok := fun k => b + 5 ≤ k) (Kd.R_mono (Kd.R_bound FR.out) (fun k hk => hk.2.1)) (fun k hk hlt => G4.out.block k hlt (fun e => by omega))) (fun _ _ => trivial))) (Nat.zero_le _) b23 0 b23_enc).mono ?_
    rintro e W5 ⟨V, rfl, ho, hb5⟩
    obtain ⟨A3, c3, rfl⟩ : ∃ A3 c3, V = .slice A3 23 c3 := by obtain ⟨A3, c3, h⟩ := Kd.R_slice ho; exact ⟨A3, c3, h⟩
    have G5 := Aside0.mk (G4.out.step hb5)
    have P5 := Aside0.mk ((hb5.block (b + 1) (blk_lt P4.out)).trans P4.out)
    clear hb5 ho u0 u1 u2 u3 u4 u5 u6 u7 u8 u9 u10 u11 u12
    go_wp2
    have F3' := Aside0.mk (G5.out.blk F3.out (by omega))
    have F4' := Aside0.mk (G5.out.blk F4.out (by omega))
    have k2 : W5.cell? ⟨b + 2, 0, none⟩ = some (.int .i64 0) := (blk_cell F3'.out 0).trans rfl
    have f2 := blk_frozen F3'.out 0
    have k3 : W5.cell? ⟨b + 3, 0, none⟩ = some (.int .i64 0) := (blk_cell F4'.out 0).trans rfl
    have f3 := blk_frozen F4'.out 0
    have k3d : W5.drew.cell? ⟨b + 3, 0, none⟩ = some (.int .i64 0) := k3
    refine startIn_ l (by rintro ⟨a, w, h⟩; exact h) (by simp) (n := 7) (S := fun w' => w'.cell? ⟨b + 3, 0, none⟩ = some (.int .i64 0)) (ds := [6]) bq201 (by kernel_rfl) rfl rfl (k3d) (fun hHeld => ?_)
    refine pure_ (i := 0) (N := some 32) (v := ?_) (a' := ?_) bq202 rfl rfl (by kernel_rfl) (fun _ _ _ h => h) (Or.inl ⟨by rfl, ?_⟩) ?_ ?_
    rotate_left
    · intro w'; go_simp; with_reducible rfl
    rotate_left
    · simp only [sxx]; rfl
    refine pure_ (i := 2) (N := some 34) (v := ?_) (a' := ?_) bq203 rfl rfl (by kernel_rfl) (fun _ _ _ h => h) (Or.inl ⟨by rfl, ?_⟩) ?_ ?_
    rotate_left
    · intro w'; go_simp; with_reducible rfl
    rotate_left
    · simp only [sxx]; rfl
    refine pure_ (i := 3) (N := some 35) (v := ?_) (a' := ?_) bq204 rfl rfl (by kernel_rfl) (fun _ _ _ h => h) (Or.inl ⟨by rfl, ?_⟩) ?_ ?_
    rotate_left
    · intro w'; go_simp; with_reducible rfl
    rotate_left
    · simp only [sxx]; rfl
    refine take_ (i := 1) (N := some 33) (v := ?_) (a' := ?_) bq205 rfl rfl (by kernel_rfl) (fun _ _ _ h => h) (Or.inl ⟨by rfl, ?_⟩) hHeld ?_ ?_
    rotate_left
    · intro w' s0; go_simp; with_reducible rfl
    rotate_left
    · simp only [sxx]; rfl
    refine pure_ (i := 4) (N := some 36) (v := ?_) (a' := ?_) bq206 rfl rfl (by kernel_rfl) (fun _ _ _ h => h) (Or.inl ⟨by rfl, ?_⟩) ?_ ?_
    rotate_left
    · intro w'; go_simp; with_reducible rfl
    rotate_left
    · simp only [sxx]; rfl
    refine one_ (i := 5) (N := none) bq207 rfl rfl (by kernel_rfl) (by decide) (fun K hK => ?_)
    refine skip_ (w1 := ?_) (by rfl) rfl ?_ ?_
    rotate_left
    · go_simp; rfl
    refine hK.out _ _ ((by first | exact set_other (by omega) k3d | exact set_other (by omega) k3 | exact drew_cell (set_other (by omega) k3))) (fun hHeld => ?_)
    clear hK K
    refine last_ (i := 6) (N := none) bq208 rfl rfl (by kernel_rfl) (by decide) (fun K hK => ?_)
    refine skip_ (w1 := ?_) (by rfl) rfl ?_ ?_
    rotate_left
    · go_simp; rfl
    refine hK.out _ _ ?_
    clear hK K
    refine done_ (by kernel_rfl) ?_
    obtain ⟨W6, hW6⟩ : ∃ W6, W6 = ((W5.setCell ⟨b + 2, 0, none⟩ (.int .i64 1)).setCell ⟨b + 3, 0, none⟩ (.int .i64 (wrap64 23))).drew := ⟨_, rfl⟩
    rw [← hW6]
    have hF6 : Frm W W6 (fun k => b + 1 ≤ k ∧ k ≤ b + 3) := by
      rw [hW6]
      exact (((G5.out.mono (S1 := fun k => b + 1 ≤ k ∧ k ≤ b + 3) (fun k h _ => by omega)).set_ (p := ⟨b + 2, 0, none⟩) (.inl (by simp only; omega)) _).set_ (p := ⟨b + 3, 0, none⟩) (.inl (by simp only; omega)) _).drew
    have q2 : W6.heap[b + 1]? = some (.cells (savedCells 1 1 2 0 0 0 ⟨#[]⟩ none 0 0 0) 53 (0, 0)) := by
      rw [hW6]
      exact blk_far (blk_far P5.out (by simp only; omega) _) (by simp only; omega) _
    have q3 : W6.heap[b + 2]? = some (.cells #[.int .i64 1] 3 (0, 0)) := by
      rw [hW6]
      exact blk_far (blk_set F3'.out 0 _) (by simp only; omega) _
    have q4 : W6.heap[b + 3]? = some (.cells #[.int .i64 23] 3 (0, 0)) := by
      rw [hW6]
      have := blk_set (w := W5.setCell ⟨b + 2, 0, none⟩ (.int .i64 1)) (blk_far F4'.out (by simp only; omega) _) 0 (.int .i64 (wrap64 23))
      exact this.trans (by rw [wr23]; rfl)
    show (∀ k, T k ∧ w1.heap.size ≤ k → W6.heap[k]? = W.heap[k]?) ∧ RI w A c T 1 W6
    refine ⟨fun k hk => hF6.block k (FT.out k hk.1) (fun h => by have := hk.2; omega), ?_⟩
    have hbw := HBW.out
    refine ⟨?_, ?_, ?_, ?_, ?_, ?_, ?_⟩
    · rw [← hbw]; exact hF6.blk F1.out (by omega)
    · rw [← hbw]; exact q2
    · rw [← hbw]; exact q3
    · rw [← hbw]; exact q4
    · rw [← hbw]; exact hF6.blk F5.out (by omega)
    · exact below_frm F6.out hF6 (N := w.heap.size) (fun k hk => by omega) (Nat.le_refl _)
    · rw [← hbw]; exact fun j hj => F7.out j (.inl hj)
  case done =>
    rintro D W hD hI hK
    obtain ⟨h1, h2, h3, h4, h5, h6, h7⟩ := hI
    rw [← HBW.out] at h1 h2 h3 h4
    have hb5 : b + 5 ≤ D := by have := HB.out.2.2.2.2.2.1; have := HBW.out; omega
    have F1 := Aside0.mk h1
    have F2 := Aside0.mk (show W.heap[b + 1]? = some (.cells (savedCells 1 1 2 0 0 0 ⟨#[]⟩ none 0 0 0) 53 (0, 0)) from h2)
    have F3 := Aside0.mk (show W.heap[b + 2]? = some (.cells #[.int .i64 1] 3 (0, 0)) from h3)
    have F4 := Aside0.mk (show W.heap[b + 3]? = some (.cells #[.int .i64 23] 3 (0, 0)) from h4)
    have F6 := Aside0.mk h6
    have FD := Aside0.mk hK
    have FB := Aside0.mk hb5
    clear h1 h2 h3 h4 h5 h6 h7 hK hb5 hI0 hD
    go_wp2_with fail
    refine wp_normal ?_
    have s0 : W.drew.cell? ⟨b + 1, 0, none⟩ = _ := (blk_cell (w := W.drew) F2.out 0).trans rfl
    have s1 : W.drew.cell? ⟨b + 1, 1, none⟩ = _ := (blk_cell (w := W.drew) F2.out 1).trans rfl
    have s2 : W.drew.cell? ⟨b + 1, 2, none⟩ = _ := (blk_cell (w := W.drew) F2.out 2).trans rfl
    have s3 : W.drew.cell? ⟨b + 1, 3, none⟩ = _ := (blk_cell (w := W.drew) F2.out 3).trans rfl
    have s4 : W.drew.cell? ⟨b + 1, 4, none⟩ = _ := (blk_cell (w := W.drew) F2.out 4).trans rfl
    have s5 : W.drew.cell? ⟨b + 1, 5, none⟩ = _ := (blk_cell (w := W.drew) F2.out 5).trans rfl
    have s6 : W.drew.cell? ⟨b + 1, 6, none⟩ = _ := (blk_cell (w := W.drew) F2.out 6).trans rfl
    have s7 : W.drew.cell? ⟨b + 1, 7, none⟩ = _ := (blk_cell (w := W.drew) F2.out 7).trans rfl
    have s8 : W.drew.cell? ⟨b + 1, 8, none⟩ = _ := (blk_cell (w := W.drew) F2.out 8).trans rfl
    have c2 : W.drew.cell? ⟨b + 2, 0, none⟩ = some (.int .i64 1) := (blk_cell (w := W.drew) F3.out 0).trans rfl
    have c3 : W.drew.cell? ⟨b + 3, 0, none⟩ = some (.int .i64 23) := (blk_cell (w := W.drew) F4.out 0).trans rfl
    refine start_ (n := 6) (S := fun w' => w'.cell? ⟨b + 1, 0, none⟩ = some (.int .i64 1) ∧ w'.cell? ⟨b + 1, 1, none⟩ = some (.int .i64 1) ∧ w'.cell? ⟨b + 1, 2, none⟩ = some (.int .i64 2) ∧ w'.cell? ⟨b + 1, 3, none⟩ = some (.int .i64 0) ∧ w'.cell? ⟨b + 1, 4, none⟩ = some (.int .i64 0) ∧ w'.cell? ⟨b + 1, 5, none⟩ = some (.int .i64 0) ∧ w'.cell? ⟨b + 1, 6, none⟩ = some (.string ⟨#[]⟩) ∧ w'.cell? ⟨b + 1, 7, none⟩ = some (.slice none 0 0) ∧ w'.cell? ⟨b + 1, 8, none⟩ = some (.int .i64 0) ∧ w'.cell? ⟨b + 2, 0, none⟩ = some (.int .i64 1) ∧ w'.cell? ⟨b + 3, 0, none⟩ = some (.int .i64 23)) (ds := []) bq209 (by kernel_rfl) rfl rfl ⟨s0, s1, s2, s3, s4, s5, s6, s7, s8, c2, c3⟩ (fun hHeld => ?_)
    refine take_ (i := 0) (N := some 37) (v := ?_) (a' := ?_) bq210 rfl rfl (by kernel_rfl) (fun _ _ _ h => nomatch h.1) (Or.inl ⟨by rfl, ?_⟩) hHeld ?_ ?_
    rotate_left
    · rintro w' ⟨s0, s1, s2, s3, s4, s5, s6, s7, s8, s9, s10⟩
      go_simp; with_reducible rfl
    rotate_left
    · simp only [sxx]; rfl
    refine take_ (i := 1) (N := some 38) (v := ?_) (a' := ?_) bq211 rfl rfl (by kernel_rfl) (fun _ _ _ h => nomatch h.1) (Or.inl ⟨by rfl, ?_⟩) hHeld ?_ ?_
    rotate_left
    · rintro w' ⟨s0, s1, s2, s3, s4, s5, s6, s7, s8, s9, s10⟩
      go_simp; with_reducible rfl
    rotate_left
    · simp only [sxx]; rfl
    refine take_ (i := 2) (N := some 39) (v := ?_) (a' := ?_) bq212 rfl rfl (by kernel_rfl) (fun _ _ _ h => nomatch h.1) (Or.inl ⟨by rfl, ?_⟩) hHeld ?_ ?_
    rotate_left
    · rintro w' ⟨s0, s1, s2, s3, s4, s5, s6, s7, s8, s9, s10⟩
      go_simp; with_reducible rfl
    rotate_left
    · simp only [sxx]; rfl
    refine one_ (i := 3) (N := none) bq213 rfl rfl (by kernel_rfl) (by decide) (fun K hK => ?_)
    refine store_arm 53 _ _ rfl (by rfl) rfl (q := b) (i := 0) (cur' := savedCells 1 1 2 0 0 0 ⟨#[]⟩ none 0 0 0) (savedCells 1 1 2 0 0 0 ⟨#[]⟩ none 0 0 0).toList rfl rfl rfl (by kernel_rfl) (by intro u hu; simp at hu; rcases hu with rfl | rfl | rfl | rfl | rfl | rfl <;> rfl) (show W.drew.heap[b]? = _ from F1.out) (by simp) rfl ?_
    intro w9 hp9 hg9
    have F1' := Aside0.mk hp9
    have F2' := Aside0.mk ((hg9.block (b + 1) (show b + 1 < W.drew.heap.size from blk_lt F2.out) (fun e => by have := Option.some.inj e; omega)).trans (show W.drew.heap[b + 1]? = _ from F2.out))
    have F3' := Aside0.mk ((hg9.block (b + 2) (show b + 2 < W.drew.heap.size from blk_lt F3.out) (fun e => by have := Option.some.inj e; omega)).trans (show W.drew.heap[b + 2]? = _ from F3.out))
    have F4' := Aside0.mk ((hg9.block (b + 3) (show b + 3 < W.drew.heap.size from blk_lt F4.out) (fun e => by have := Option.some.inj e; omega)).trans (show W.drew.heap[b + 3]? = _ from F4.out))
    have FD' := Aside0.mk ((hg9.block D (show D < W.drew.heap.size from blk_lt FD.out) (fun e => by have := Option.some.inj e; have := FB.out; omega)).trans (show W.drew.heap[D]? = _ from FD.out))
    have F6' := Aside0.mk ((below_drew1 F6.out).grown hg9 (below_drew1 F6.out).size (fun k e => by cases e; rw [HBW.out]; exact Nat.le_refl _))
    refine hK.out _ _ ⟨(blk_cell F2'.out 0).trans rfl, (blk_cell F2'.out 1).trans rfl, (blk_cell F2'.out 2).trans rfl, (blk_cell F2'.out 3).trans rfl, (blk_cell F2'.out 4).trans rfl, (blk_cell F2'.out 5).trans rfl, (blk_cell F2'.out 6).trans rfl, (blk_cell F2'.out 7).trans rfl, (blk_cell F2'.out 8).trans rfl, (blk_cell F3'.out 0).trans rfl, (blk_cell F4'.out 0).trans rfl⟩ (fun hHeld => ?_)
    clear hK K
    refine pure_ (i := 4) (N := some 3) (v := ?_) (a' := ?_) bq214 rfl rfl (by kernel_rfl) (fun _ _ _ h => nomatch h.1) (Or.inl ⟨by rfl, ?_⟩) ?_ ?_
    rotate_left
    · intro w'; go_simp; with_reducible rfl
    rotate_left
    · simp only [sxx]; rfl
    refine pure_ (i := 5) (N := some 4) (v := ?_) (a' := ?_) bq215 rfl rfl (by kernel_rfl) (fun _ _ _ h => nomatch h.1) (Or.inl ⟨by rfl, ?_⟩) ?_ ?_
    rotate_left
    · intro w'; go_simp; with_reducible rfl
    rotate_left
    · simp only [sxx]; rfl
    refine done_ (by kernel_rfl) ?_
    refine ⟨rfl, ?_⟩
    go_wp2
    refine ⟨by simp, .inl ⟨_, _, rfl, run_takeDeferred FD'.out, ?_⟩⟩
    have b1 : (w9.putObj D (.deferred none)).heap[b]? = some (.cells (savedCells 1 1 2 0 0 0 ⟨#[]⟩ none 0 0 0) 53 (0, 0)) := (World.putObj_heap_other (by have := FB.out; omega)).trans F1'.out
    refine ⟨_, results20_row _ _ b _ _ _ rfl rfl rfl b1 rfl, rfl, ?_⟩
    exact F6'.out.grown (grownBy_putObj' _ D _) F6'.out.size (fun r e => by cases e; have := FB.out; have := HBW.out; omega)
  case stop => exact fun D c W _ h _ => h.elim
attribute [local go_sem] Oper.semAt_some

abbrev sz0 : Array Value := savedCells 0 0 0 0 0 0 ⟨#[]⟩ none 0 0 0
/-- While records are gone through: k of them have been said. -/
def RV (w0 : World) (A : Option Addr) (n c : Nat) (L : List JR) (F : SV × Nat × Nat) (T : Nat → Prop) (k : Nat) (W : World) : Prop :=
  ∃ (s : SV) (z : Nat) (E : Option Addr) (ne ce : Nat) (okr : Nat → Prop), SvAt W (w0.heap.size + 1) w0.heap.size okr s E ne ce ∧ W.heap[w0.heap.size]? = some (.cells sz0 53 (0, 0)) ∧ W.heap[w0.heap.size + 2]? = some (.cells #[.int .i64 (k : Int)] 3 (0, 0)) ∧ W.heap[w0.heap.size + 3]? = some (.cells #[.int .i64 (z : Int)] 3 (0, 0)) ∧
    W.heap[w0.heap.size + 4]? = some (.cells #[.slice A n c] 29 (0, 0)) ∧ (∀ j, okr j → w0.heap.size + 5 ≤ j ∧ ¬ T j ∧ Celly W j) ∧ Below w0.heap.size w0 W ∧ F = rcGo (L.drop k) k s z ∧ s.es.length ≤ k ∧ z ≤ 4000000 * k ∧ (k = 0 → s = SV.zero)
theorem SvAt.celly {W W' : World} {row : Option Nat} {p base : Nat} {ok : Nat → Prop} {s : SV} {E : Option Addr} {ne ce : Nat} (h : SvAt W p base ok s E ne ce) (hc : ∀ j, ok j → Celly W j) (hg : W.grownBy W' row) (hr : ∀ r, row = some r → ∃ o : Obj, W.heap[r]? = some o ∧ o.isCells = false) : SvAt W' p base ok s E ne ce := by
  have hcel : ∀ j, Celly W j → W'.heap[j]? = W.heap[j]? := fun j ⟨cs, q, hj⟩ => hg.block j (blk_lt hj) (fun e => by
    obtain ⟨o, h1, h2⟩ := hr j e.symm
    rw [hj] at h1
    cases h1
    cases h2)
  exact ⟨(hcel p ⟨_, _, h.blk⟩).trans h.blk, Kd.R_step h.row (fun j hj _ => hcel j (hc j hj)), h.len, h.small⟩
theorem RV_own (w0 : World) (A : Option Addr) (n c : Nat) (L : List JR) (F : SV × Nat × Nat) : TOwn (w0.heap.size + 5) (RV w0 A n c L F) := by
  rintro T k W W' row T' ⟨s, z, E, ne, ce, okr, h1, h2, h3, h4, h5, h6, h7, h8⟩ hg hr hT
  refine ⟨s, z, E, ne, ce, okr, h1.celly (fun j hj => (h6 j hj).2.2) hg (fun r e => (hr r e).2), blk_celly h2 hg hr, blk_celly h3 hg hr, blk_celly h4 hg hr, blk_celly h5 hg hr, fun j hj => ⟨(h6 j hj).1, fun hx => ?_, (h6 j hj).2.2.grown hg hr⟩, h7.grown hg h7.size (fun r e => by have := (hr r e).1; omega), h8⟩
  rcases hT j hx with h | h
  · exact (h6 j hj).2.1 h
  · have := (h6 j hj).2.2.lt
    omega
/-- Behind the loop. -/
def RX (w0 : World) (F : SV × Nat × Nat) (W : World) : Prop :=
  ∃ (E : Option Addr) (ne ce : Nat) (okr : Nat → Prop), SvAt W (w0.heap.size + 1) w0.heap.size okr F.1 E ne ce ∧ W.heap[w0.heap.size]? = some (.cells sz0 53 (0, 0)) ∧ W.heap[w0.heap.size + 2]? = some (.cells #[.int .i64 (F.2.1 : Int)] 3 (0, 0)) ∧ W.heap[w0.heap.size + 3]? = some (.cells #[.int .i64 (F.2.2 : Int)] 3 (0, 0)) ∧
    (∀ j, okr j → w0.heap.size + 5 ≤ j ∧ Celly W j) ∧ Below w0.heap.size w0 W
theorem RX_own (w0 : World) (F : SV × Nat × Nat) : ∀ (W W' : World) (row : Option Nat), RX w0 F W → W.grownBy W' row → (∀ r, row = some r → w0.heap.size + 5 ≤ r ∧ ∃ o : Obj, W.heap[r]? = some o ∧ o.isCells = false) → RX w0 F W' := by
  rintro W W' row ⟨E, ne, ce, okr, h1, h2, h3, h4, h6, h7⟩ hg hr
  exact ⟨E, ne, ce, okr, h1.celly (fun j hj => (h6 j hj).2) hg (fun r e => (hr r e).2), blk_celly h2 hg hr, blk_celly h3 hg hr, blk_celly h4 hg hr, fun j hj => ⟨(h6 j hj).1, (h6 j hj).2.grown hg hr⟩, h7.grown hg h7.size (fun r e => by have := (hr r e).1; omega)⟩
theorem RV_done {w0 : World} {A : Option Addr} {n c : Nat} {L : List JR} {F : SV × Nat × Nat} {T : Nat → Prop} {W : World} (h : RV w0 A n c L F T L.length W) : RX w0 F W := by
  obtain ⟨s, z, E, ne, ce, okr, h1, h2, h3, h4, h5, h6, h7, h8, _⟩ := h
  have e : F = (s, L.length, z) := by rw [h8, List.drop_length]; rfl
  subst e
  exact ⟨E, ne, ce, okr, h1, h2, h3, h4, fun j hj => ⟨(h6 j hj).1, (h6 j hj).2.2⟩, h7⟩
theorem rc_step {L : List JR} {k z : Nat} {s : SV} {y : JR} {F : SV × Nat × Nat} (hF : F = rcGo (L.drop k) k s z) (hy : L[k]? = some y) : F = if s.fits y (decide (k = 0)) = true then rcGo (L.drop (k + 1)) (k + 1) (s.says y) (z + (y.enc ((k : Int) + 1)).1.length) else (s, k, z) := by
  have hk := (List.getElem?_eq_some_iff.1 hy).1
  have h2 := (List.getElem?_eq_some_iff.1 hy).2
  rw [List.drop_eq_getElem_cons hk, h2] at hF
  exact hF
theorem wr_sum {z rl k : Nat} (h1 : z ≤ 4000000 * k) (h2 : rl ≤ 4000000) (h3 : k ≤ 1000000) : wrap64 ((z : Int) + (rl : Int)) = ((z + rl : Nat) : Int) := by unfold wrap64; omega
set_option maxHeartbeats 32000000 in
set_option maxRecDepth 100000 in
theorem recover_R (w : World) (A : Option Addr) (n c : Nat) (lb : List Int) (L : List JR) (hn : lb.length = n) (hc : n ≤ c) (hmx : n ≤ 1000000000) (hC : C8 w A n lb) (hWk : Walks lb 0 0 L) (hLn : L.length ≤ 999999) (hEn : ∀ (k : Nat) (y : JR), L[k]? = some y → ∃ r1, y.enc ((k : Int) + 1) = (r1, 0)) (F : SV × Nat × Nat) (hF : F = rcGo L 0 SV.zero 0) :
    Calls Try.prog 20 #[.slice A n c] w fun e w' => ∃ E ne ce, e = .returned (.tuple #[.agg (F.1.cells E ne ce), .int .i64 (F.2.1 : Int), .int .i64 (F.2.2 : Int)]) ∧ F.1.es.length = ne ∧ Kd.R k24 24 w' w.heap.size (fun _ => True) (.slice E ne ce) F.1.es ∧ Below w.heap.size w w' := by
  have HN := Aside0.mk hn
  have HC := Aside0.mk hC
  have HCC := Aside0.mk hc
  have HM := Aside0.mk hmx
  have HW := Aside0.mk hWk
  have HLN := Aside0.mk hLn
  have HEN := Aside0.mk hEn
  have HFF := Aside0.mk hF
  have hu53 := Try.underlying53
  have hu28 := Try.underlying28
  have hu26 := Try.underlying26
  have hu24 := Try.underlying24
  clear hC hc hn hmx hWk hLn hEn hF
  refine (callsIn_wide (n := 0)).1 (callsIn_of_wp_marks Try.func20 rfl trivial ?_)
  refine (wpIn_wide (n := 0)).2 ?_
  simp only [Try.ntmps20, List.size_toArray, List.length_cons, List.length_nil, Nat.reduceAdd, Nat.reduceSub, Array.replicate_succ, Array.replicate_zero, List.push_toArray, List.append_toArray, List.nil_append, List.cons_append]
  go_wp2_with fail
  refine (Walk_C A n c _).mono ?_
  rintro e w1 ⟨rfl, rfl⟩
  obtain ⟨w1, hw1⟩ : ∃ w1, w1 = ((((w.alloc (.cells sz0 53)).alloc (.cells sz0 53)).alloc (.cells #[.int .i64 0] 3)).alloc (.cells #[.int .i64 0] 3)).alloc (.cells #[.slice A n c] 29) := ⟨_, rfl⟩
  have hsz : ((((w.alloc (.cells sz0 53)).alloc (.cells sz0 53)).alloc (.cells #[.int .i64 0] 3)).alloc (.cells #[.int .i64 0] 3)).heap.size = w.heap.size + 4 := by rw [szA, szA, szA, szA]
  obtain ⟨b0, b1, b2, b3, b4, b5, b6⟩ := blk5 w _ _ _ _ _ hw1
  rw [← hw1, hsz]
  have HB := Aside0.mk (And.intro b0 (And.intro b1 (And.intro b2 (And.intro b3 (And.intro b4 (And.intro b5 b6))))))
  clear hw1 hsz b0 b1 b2 b3 b4 b5 b6
  have hI0 : RV w A n c L F (fun _ => False) 0 w1 := ⟨SV.zero, 0, none, 0, 0, fun _ => False, ⟨HB.out.2.1, Kd.R_nil _ _ _ _ _, rfl, zero_small⟩, HB.out.1, HB.out.2.2.1, HB.out.2.2.2.1, HB.out.2.2.2.2.1, fun j hj => hj.elim, HB.out.2.2.2.2.2.2, HFF.out, Nat.le_refl _, Nat.zero_le _, fun _ => rfl⟩
  obtain ⟨b, hb⟩ : ∃ b, b = w.heap.size := ⟨_, rfl⟩
  rw [← hb]
  have HBW := Aside0.mk hb
  clear hb
  go_wp2
  refine rangeWalk (gf := 59) (Bn := b + 4) (fun k y A' c' B => { tmps := #[.slice A n c, undef, .pointer (some ⟨b, 0, none⟩), .int .i64 0, .int .i64 0, .pointer (some ⟨b + 1, 0, none⟩), .pointer (some ⟨b + 2, 0, none⟩), .pointer (some ⟨b + 3, 0, none⟩), .int .i64 ((k : Int) + 1), .pointer (some ⟨B, 0, none⟩), undef, undef, undef, .slice A n c, .func (.func 59) #[] #[.pointer (some ⟨b + 4, 0, none⟩)], .int .i64 ((k : Int) + 1), .agg (y.cells A' c'), undef, undef, undef, undef, undef, undef, undef, undef, undef, undef, undef, undef, undef, undef, undef, undef, undef, undef, undef, undef, undef, undef, undef], defers := [] }) (fun W => C8 W A n lb) L rfl (enters_ Try.func59 (by kernel_rfl) rfl) rfl (RV w A n c L F) (fun cd W => cd = .exit 0 ∧ RX w F W) (fun _ => False) ?hI ?hIx ?h0 ?hT0 ?hD ?hit ?assign ?body ?done ?stop
  case hI => exact TOwn.weak (RV_own w A n c L F) (by have := HB.out.2.2.2.2.2.1; omega)
  case hIx => exact fun cd s X Y row hs hg hr => ⟨hs.1, RX_own w F X Y row hs.2 hg (fun r e => ⟨by have := (hr r e).1; have := HB.out.2.2.2.2.2.1; omega, (hr r e).2⟩)⟩
  case h0 => exact hI0
  case hT0 => exact fun j hj => hj.elim
  case hD => exact fun T k W h => by obtain ⟨s, z, E, ne, ce, okr, _, _, _, _, _, _, h7, _⟩ := h; exact Kd.C_below HC.out h7
  case hit =>
    rintro T W ⟨s, z, E, ne, ce, okr, h1, h2, h3, h4, h5, h6⟩
    exact it59 _ A n c lb L W HN.out HCC.out HM.out HW.out (by rw [HBW.out]; exact blk_cell h5 0)
  case assign =>
    intro l k y A' c' W Kc hKc
    simp only [List.zip_toArray, List.zip_cons_cons, List.zip_nil_left, List.zip_nil_right, List.foldl_toArray, List.foldl_toArray', List.foldl_cons, List.foldl_nil, sx1, sx2, sx3] at hKc ⊢
    refine wpIn_seq ?_
    refine region_round l (by rintro ⟨a, w, h⟩; exact h) (by simp) ?_
    go_wp2
    refine region_round l (by rintro ⟨a, w, h⟩; exact h) (by simp) ?_
    go_wp2
    exact hKc
  case body =>
    rintro T l k y A' c' okx B W hT hTlt hTl hle hloop hy ⟨s, z, E, ne, ce, okr, h1, h2, h3, h4, h5, h6, h7, h8, h9, h10, h11⟩ ⟨hR, hokx⟩ hBle hbx
    have hs5 : w1.heap.size = b + 5 := by rw [HBW.out]; exact HB.out.2.2.2.2.2.1
    rw [hs5] at hle hR hokx hBle
    rw [← HBW.out] at h1 h2 h3 h4 h5 h6
    simp only [List.zip_toArray, List.zip_cons_cons, List.zip_nil_left, List.zip_nil_right, List.foldl_toArray, List.foldl_toArray', List.foldl_cons, List.foldl_nil, sx1, sx2, sx3]
    have hkl : k < L.length := (List.getElem?_eq_some_iff.1 hy).1
    obtain ⟨r1, hr1⟩ := HEN.out k y hy
    have FRC := Aside0.mk (rc_step h8 hy)
    have FOK := Aside0.mk (enc_okay hr1)
    have FEN := Aside0.mk hr1
    have FRL := Aside0.mk (show r1.length ≤ 4000000 by have := enc_len y ((k : Int) + 1); rw [hr1] at this; exact this)
    have FK := Aside0.mk hkl
    have FS := Aside0.mk h1
    have F0 := Aside0.mk h2
    have F3 := Aside0.mk h3
    have F4 := Aside0.mk h4
    have F5 := Aside0.mk h5
    have F6 := Aside0.mk h6
    have F7 := Aside0.mk h7
    have F9 := Aside0.mk h9
    have F10 := Aside0.mk h10
    have F11 := Aside0.mk h11
    have FR := Aside0.mk hR
    have FX := Aside0.mk hokx
    have FT := Aside0.mk hTlt
    have FBL := Aside0.mk hBle
    have FW5 := Aside0.mk (show b + 5 ≤ W.heap.size by have := blk_lt h5; omega)
    have FWW := Aside0.mk (show w.heap.size ≤ W.heap.size from h7.size)
    obtain ⟨m5, hm5⟩ : ∃ m5, m5 = y.ops.length := ⟨_, rfl⟩
    have hbx2 : W.heap[B]? = some (.cells (recCells y.kd y.s y.v y.k y.se y.rq A' m5 c' y.vn y.vp y.vb y.st y.of y.x) 28 (0, 0)) := by rw [hm5]; exact hbx
    rw [← hm5] at FR
    have FM5 := Aside0.mk hm5
    have FB := Aside0.mk hbx2
    obtain ⟨fb, hfb⟩ : ∃ fb, fb = decide (k = 0) := ⟨_, rfl⟩
    have FFB := Aside0.mk hfb
    have hf1 : decide (((k : Int) + 1) = 1) = fb := by rw [hfb]; exact decide_eq_decide.2 (by omega)
    have hf2 : (((k : Int) + 1) == 1) = fb := by rw [← hf1]; rfl
    have FZ := Aside0.mk (show fb = true → s = SV.zero from fun h => F11.out (of_decide_eq_true (hfb ▸ h)))
    have FXO := Aside0.mk (show ∀ j, okx j → (okr j ∨ okx j ∨ W.heap.size ≤ j) ∧ some j ≠ (Value.slice E ne ce).ownBlock from fun j hj => ⟨.inr (.inl hj), fun e => (F6.out j (FS.out.row.1 j e.symm)).2.1 (.inr hj)⟩)
    have FS' := Aside0.mk (show SvAt W (b + 1) b (fun j => okr j ∨ okx j ∨ W.heap.size ≤ j) s E ne ce from ⟨FS.out.blk, Kd.R_mono FS.out.row (fun j hj => .inl hj), FS.out.len, FS.out.small⟩)
    have v0 := (blk_cell FB.out 0).trans rfl
    have v1 := (blk_cell FB.out 1).trans rfl
    have v2 := (blk_cell FB.out 2).trans rfl
    have v3 := (blk_cell FB.out 3).trans rfl
    have v4 := (blk_cell FB.out 4).trans rfl
    have v5 := (blk_cell FB.out 5).trans rfl
    have v6 := (blk_cell FB.out 6).trans rfl
    have v7 := (blk_cell FB.out 7).trans rfl
    have v8 := (blk_cell FB.out 8).trans rfl
    have v9 := (blk_cell FB.out 9).trans rfl
    have v10 := (blk_cell FB.out 10).trans rfl
    have v11 := (blk_cell FB.out 11).trans rfl
    have v12 := (blk_cell FB.out 12).trans rfl
    clear h1 h2 h3 h4 h5 h6 h7 h8 h9 h10 h11 hR hokx hTlt hbx hbx2 hy hs5 hI0 hkl hm5 hBle hr1 hfb
    refine wpIn_block ?_
    refine wpIn_tail (fun a W4 => (∃ u10 u16 u17 u18 u19 u20 u21 u22 u23 u24 u25 : Value, a = { tmps := #[.slice A n c, undef, .pointer (some ⟨b, 0, none⟩), .int .i64 0, .int .i64 0, .pointer (some ⟨b + 1, 0, none⟩), .pointer (some ⟨b + 2, 0, none⟩), .pointer (some ⟨b + 3, 0, none⟩), .int .i64 ((k : Int) + 1), .pointer (some ⟨B, 0, none⟩), u10, undef, undef, .slice A n c, .func (.func 59) #[] #[.pointer (some ⟨b + 4, 0, none⟩)], .int .i64 ((k : Int) + 1), u16, u17, u18, u19, u20, u21, u22, u23, u24, u25, undef, undef, undef, undef, undef, undef, undef, undef, undef, undef, undef, undef, undef, undef], defers := [] }) ∧ s.fits y fb = true ∧ (∃ E' ne' ce', SvAt W4 (b + 1) b (fun j => okr j ∨ okx j ∨ W.heap.size ≤ j) (s.says y) E' ne' ce') ∧ Frm W W4 (fun j => j = b + 1 ∨ (Value.slice E ne ce).ownBlock = some j)) ?tail ?_
    case tail =>
      rintro a0 W4 ⟨⟨x10, x16, x17, x18, x19, x20, x21, x22, x23, x24, x25, rfl⟩, hft, ⟨E', ne', ce', hS4⟩, hF4⟩
      have hne : ∀ i, i < 5 → (Value.slice E ne ce).ownBlock ≠ some (b + i) := fun i hi e => by
        have := (F6.out _ (FS.out.row.1 _ e)).1
        omega
      have hnB : ¬ (B = b + 1 ∨ (Value.slice E ne ce).ownBlock = some B) := fun h => by
        rcases h with h | h
        · have := FBL.out
          omega
        · exact Kd.R_ne FS.out.row FB.out (by decide) h.symm
      have FB4 := Aside0.mk (hF4.blk FB.out hnB)
      have P0 := Aside0.mk (hF4.blk F0.out (fun h => by rcases h with h | h; omega; exact hne 0 (by omega) h))
      have P3 := Aside0.mk (hF4.blk F3.out (fun h => by rcases h with h | h; omega; exact hne 2 (by omega) h))
      have P4 := Aside0.mk (hF4.blk F4.out (fun h => by rcases h with h | h; omega; exact hne 3 (by omega) h))
      have P5 := Aside0.mk (hF4.blk F5.out (fun h => by rcases h with h | h; omega; exact hne 4 (by omega) h))
      have FR4 := Aside0.mk (show Kd.R k40 40 W4 (b + 5) okx (.slice A' m5 c') y.ops from Kd.R_step FR.out (fun j hj hlt => hF4.block j hlt (fun h => by
        rcases h with h | h
        · have := (FX.out j hj).2.1
          omega
        · exact (FXO.out j hj).2 h.symm)))
      have HF4 := Aside0.mk hF4
      have HS4 := Aside0.mk hS4
      have HFT := Aside0.mk hft
      have HOP := Aside0.mk (show Kd.C k40 W4 A' m5 y.ops ∧ m5 ≤ c' by
        obtain ⟨A9, c9, e9, l9, C9⟩ := Kd.R_reads FR4.out
        injection e9 with e91 e92 e93
        rw [e91, e92, e93]
        exact ⟨C9, l9⟩)
      clear hne hnB hF4 hS4 hft v0 v1 v2 v3 v4 v5 v6 v7 v8 v9 v10 v11 v12
      have u0 := (blk_cell FB4.out 0).trans rfl
      have u1 := (blk_cell FB4.out 1).trans rfl
      have u2 := (blk_cell FB4.out 2).trans rfl
      have u3 := (blk_cell FB4.out 3).trans rfl
      have u4 := (blk_cell FB4.out 4).trans rfl
      have u5 := (blk_cell FB4.out 5).trans rfl
      have u6 := (blk_cell FB4.out 6).trans rfl
      have u7 := (blk_cell FB4.out 7).trans rfl
      have u8 := (blk_cell FB4.out 8).trans rfl
      have u9 := (blk_cell FB4.out 9).trans rfl
      have u10 := (blk_cell FB4.out 10).trans rfl
      have u11 := (blk_cell FB4.out 11).trans rfl
      have u12 := (blk_cell FB4.out 12).trans rfl
      refine wpIn_seq ?_
      refine region_round l (by rintro ⟨a, w, h⟩; exact h) (by simp) ?_
      go_wp2_with fail
      refine (encode_C ((k : Int) + 1) y.kd y.s y.v y.k y.se y.rq A' c' m5 y.ops y.vn y.vp y.vb y.st y.of y.x W4 FM5.out.symm HOP.out.1 HOP.out.2 r1 0 FEN.out).mono ?_
      rintro e W5 ⟨V, rfl, ho, hb5⟩
      obtain ⟨A3, c3, rfl⟩ : ∃ A3 c3, V = .slice A3 r1.length c3 := by obtain ⟨A3, c3, h⟩ := Kd.R_slice ho; exact ⟨A3, c3, h⟩
      obtain ⟨rl, hrl⟩ : ∃ rl, rl = r1.length := ⟨_, rfl⟩
      rw [← hrl]
      have HRL := Aside0.mk hrl
      have HSM := Aside0.mk (wr_sum (rl := rl) F10.out (by rw [hrl]; exact FRL.out) (by have := FK.out; have := HLN.out; omega))
      have G5 := Aside0.mk (HF4.out.step hb5)
      have HB5 := Aside0.mk hb5
      have Q3 := Aside0.mk ((hb5.block (b + 2) (blk_lt P3.out)).trans P3.out)
      have Q4 := Aside0.mk ((hb5.block (b + 3) (blk_lt P4.out)).trans P4.out)
      clear hb5 ho hrl u0 u1 u2 u3 u4 u5 u6 u7 u8 u9 u10 u11 u12
      go_wp2
      have k2 : W5.cell? ⟨b + 2, 0, none⟩ = some (.int .i64 (k : Int)) := (blk_cell Q3.out 0).trans rfl
      have f2 := blk_frozen Q3.out 0
      have k3 : W5.cell? ⟨b + 3, 0, none⟩ = some (.int .i64 (z : Int)) := (blk_cell Q4.out 0).trans rfl
      have f3 := blk_frozen Q4.out 0
      have k3d : W5.drew.cell? ⟨b + 3, 0, none⟩ = some (.int .i64 (z : Int)) := k3
      refine startIn_ l (by rintro ⟨a, w, h⟩; exact h) (by simp) (n := 7) (S := fun w' => w'.cell? ⟨b + 3, 0, none⟩ = some (.int .i64 (z : Int))) (ds := [6]) bq201 (by kernel_rfl) rfl rfl (k3d) (fun hHeld => ?_)
      refine pure_ (i := 0) (N := some 32) (v := ?_) (a' := ?_) bq202 rfl rfl (by kernel_rfl) (fun _ _ _ h => h) (Or.inl ⟨by rfl, ?_⟩) ?_ ?_
      rotate_left
      · intro w'; go_simp; with_reducible rfl
      rotate_left
      · simp only [sxx]; rfl
      refine pure_ (i := 2) (N := some 34) (v := ?_) (a' := ?_) bq203 rfl rfl (by kernel_rfl) (fun _ _ _ h => h) (Or.inl ⟨by rfl, ?_⟩) ?_ ?_
      rotate_left
      · intro w'; go_simp; with_reducible rfl
      rotate_left
      · simp only [sxx]; rfl
      refine pure_ (i := 3) (N := some 35) (v := ?_) (a' := ?_) bq204 rfl rfl (by kernel_rfl) (fun _ _ _ h => h) (Or.inl ⟨by rfl, ?_⟩) ?_ ?_
      rotate_left
      · intro w'; go_simp; with_reducible rfl
      rotate_left
      · simp only [sxx]; rfl
      refine take_ (i := 1) (N := some 33) (v := ?_) (a' := ?_) bq205 rfl rfl (by kernel_rfl) (fun _ _ _ h => h) (Or.inl ⟨by rfl, ?_⟩) hHeld ?_ ?_
      rotate_left
      · intro w' s0; go_simp; with_reducible rfl
      rotate_left
      · simp only [sxx]; rfl
      refine pure_ (i := 4) (N := some 36) (v := ?_) (a' := ?_) bq206 rfl rfl (by kernel_rfl) (fun _ _ _ h => h) (Or.inl ⟨by rfl, ?_⟩) ?_ ?_
      rotate_left
      · intro w'; go_simp; with_reducible rfl
      rotate_left
      · simp only [sxx]; rfl
      refine one_ (i := 5) (N := none) bq207 rfl rfl (by kernel_rfl) (by decide) (fun K hK => ?_)
      refine skip_ (w1 := ?_) (by rfl) rfl ?_ ?_
      rotate_left
      · go_simp; rfl
      refine hK.out _ _ ((by first | exact set_other (by omega) k3d | exact set_other (by omega) k3 | exact drew_cell (set_other (by omega) k3))) (fun hHeld => ?_)
      clear hK K
      refine last_ (i := 6) (N := none) bq208 rfl rfl (by kernel_rfl) (by decide) (fun K hK => ?_)
      refine skip_ (w1 := ?_) (by rfl) rfl ?_ ?_
      rotate_left
      · go_simp; rfl
      refine hK.out _ _ ?_
      clear hK K
      refine done_ (by kernel_rfl) ?_
      obtain ⟨W6, hW6⟩ : ∃ W6, W6 = ((W5.setCell ⟨b + 2, 0, none⟩ (.int .i64 ((k : Int) + 1))).setCell ⟨b + 3, 0, none⟩ (.int .i64 (wrap64 ((z : Int) + (rl : Int))))).drew := ⟨_, rfl⟩
      rw [← hW6]
      have hF6 : Frm W W6 (fun j => (b + 1 ≤ j ∧ j ≤ b + 3) ∨ (Value.slice E ne ce).ownBlock = some j) := by
        rw [hW6]
        exact (((G5.out.mono (S1 := fun j => (b + 1 ≤ j ∧ j ≤ b + 3) ∨ (Value.slice E ne ce).ownBlock = some j) (fun j h _ => by rcases h with h | h; exact .inl (by omega); exact .inr h)).set_ (p := ⟨b + 2, 0, none⟩) (.inl (.inl (by simp only; omega))) _).set_ (p := ⟨b + 3, 0, none⟩) (.inl (.inl (by simp only; omega))) _).drew
      have hfar : ∀ j, j ≠ b + 2 → j ≠ b + 3 → j < W4.heap.size → W6.heap[j]? = W4.heap[j]? := fun j h2 h3 hlt => by
        rw [hW6]
        show ((W5.setCell ⟨b + 2, 0, none⟩ (.int .i64 ((k : Int) + 1))).setCell ⟨b + 3, 0, none⟩ (.int .i64 (wrap64 ((z : Int) + (rl : Int))))).heap[j]? = _
        rw [Below.heap_setCell _ _ _ j h3, Below.heap_setCell _ _ _ j h2]
        exact HB5.out.block j hlt
      have q3 : W6.heap[b + 2]? = some (.cells #[.int .i64 ((k : Int) + 1)] 3 (0, 0)) := by
        rw [hW6]
        exact blk_far (blk_set Q3.out 0 _) (by simp only; omega) _
      have q4 : W6.heap[b + 3]? = some (.cells #[.int .i64 ((z + rl : Nat) : Int)] 3 (0, 0)) := by
        rw [hW6]
        have := blk_set (w := W5.setCell ⟨b + 2, 0, none⟩ (.int .i64 ((k : Int) + 1))) (blk_far Q4.out (by simp only; omega) _) 0 (.int .i64 (wrap64 ((z : Int) + (rl : Int))))
        exact this.trans (by rw [HSM.out]; rfl)
      show (∀ k, T k ∧ w1.heap.size ≤ k → W6.heap[k]? = W.heap[k]?) ∧ RV w A n c L F T (k + 1) W6
      have h15 : w1.heap.size = b + 5 := by rw [HBW.out]; exact HB.out.2.2.2.2.2.1
      refine ⟨fun j hj => hF6.block j (FT.out j hj.1) (fun h => ?_), ?_⟩
      · have := hj.2
        rcases h with h | h
        · omega
        · exact (F6.out j (FS.out.row.1 j h)).2.1 (.inl hj.1)
      have hbw := HBW.out
      have hsz := FW5.out
      have hS6 : SvAt W6 (b + 1) b (fun j => ((okr j ∨ okx j ∨ W.heap.size ≤ j) ∧ Celly W4 j) ∧ b + 5 ≤ j) (s.says y) E' ne' ce' := by
        refine ⟨?_, ?_, HS4.out.len, HS4.out.small⟩
        · exact (hfar (b + 1) (by omega) (by omega) (blk_lt HS4.out.blk)).trans HS4.out.blk
        · refine Kd.R_step (Kd.R_mono (R_celly HS4.out.row) (fun j hj => ⟨⟨hj.1, hj.2.2⟩, ?_⟩)) (fun j hj hlt => hfar j (by omega) (by omega) hlt)
          rcases hj.1 with h | h | h
          · exact (F6.out j h).1
          · exact (FX.out j h).2.1
          · omega
      refine ⟨s.says y, z + rl, E', ne', ce', fun j => ((okr j ∨ okx j ∨ W.heap.size ≤ j) ∧ Celly W4 j) ∧ b + 5 ≤ j, ?_, ?_, ?_, ?_, ?_, fun j hj => ⟨?_, fun hT => ?_, ?_⟩, ?_, ?_, ?_, ?_, fun h => by omega⟩
      · rw [← hbw]; exact hS6
      · rw [← hbw]; exact (hfar b (by omega) (by omega) (blk_lt P0.out)).trans P0.out
      · rw [← hbw]; exact q3
      · rw [← hbw]; exact q4
      · rw [← hbw]; exact (hfar (b + 4) (by omega) (by omega) (blk_lt P5.out)).trans P5.out
      · rw [← hbw]; exact hj.2
      · rcases hj.1.1 with h | h | h
        · exact (F6.out j h).2.1 (.inl hT)
        · exact (FX.out j h).1 hT
        · have := FT.out j hT
          omega
      · have hj5 := hj.2
        obtain ⟨cs, q, hc⟩ := hj.1.2
        exact ⟨cs, q, (hfar j (by omega) (by omega) (blk_lt hc)).trans hc⟩
      · refine below_frm F7.out hF6 (N := w.heap.size) (fun j hj => ?_) (Nat.le_refl _)
        rcases hj with h | h
        · omega
        · have := (F6.out j (FS.out.row.1 j h)).1
          omega
      · rw [FRC.out, ← FFB.out, if_pos HFT.out, FEN.out, HRL.out]
      · exact Nat.le_trans (says_len s y) (by have := F9.out; omega)
      · have h1 := F10.out
        have h2 := FRL.out
        have h3 := HRL.out
        omega
    intro K hK0
    have HK := Aside0.mk hK0
    clear hK0
    rcases FOK.out.1 with hk | hk | hk | hk | hk | hk
    · have HKD := Aside0.mk hk
      clear hk
      refine region_round l (by rintro ⟨a, w, h⟩; exact h) (by simp) ?_
      go_wp2_with fail
      refine (known_1 y HKD.out A' m5 c' W).mono ?_
      rintro e W2 ⟨rfl, hb2⟩
      have G2 := Aside0.mk hb2
      have FS2 := Aside0.mk (FS'.out.below hb2)
      clear hb2 v0 v1 v2 v3 v4 v5 v6 v7 v8 v9 v10 v11 v12
      go_wp2
      refine wpIn_seq ?_
      refine region_round l (by rintro ⟨a, w, h⟩; exact h) (by simp) ?_
      go_wp2_with fail
      cases hr : s.fits y fb with
      | false =>
        refine (fit_1 FS2.out y A' m5 c' HKD.out FOK.out fb false hr).mono ?_
        rintro e W3 ⟨rfl, hb3⟩
        have G3 := Aside0.mk (below_step G2.out hb3)
        have FS3 := Aside0.mk (FS.out.below G3.out)
        have FNO := Aside0.mk (show F = (s, k, z) by rw [FRC.out, ← FFB.out, if_neg (by rw [hr]; decide)])
        clear hb3 hr
        go_wp2
        refine wpIn_cond_true (by rfl) ?_
        refine wpIn_exit ?_
        show (∀ k, T k ∧ w1.heap.size ≤ k → W3.heap[k]? = W.heap[k]?) ∧ Code.exit 0 = Code.exit 0 ∧ RX w F W3
        have hbw := HBW.out
        refine ⟨fun j hj => G3.out.block j (FT.out j hj.1), rfl, ?_⟩
        rw [FNO.out]
        refine ⟨E, ne, ce, okr, ?_, ?_, ?_, ?_, fun j hj => ⟨?_, ?_⟩, ?_⟩
        · rw [← hbw]; exact FS3.out
        · rw [← hbw]; exact (G3.out.block b (blk_lt F0.out)).trans F0.out
        · rw [← hbw]; exact (G3.out.block (b + 2) (blk_lt F3.out)).trans F3.out
        · rw [← hbw]; exact (G3.out.block (b + 3) (blk_lt F4.out)).trans F4.out
        · rw [← hbw]; exact (F6.out j hj).1
        · obtain ⟨cs, q, hc⟩ := (F6.out j hj).2.2
          exact ⟨cs, q, (G3.out.block j (blk_lt hc)).trans hc⟩
        · exact below_then F7.out FWW.out G3.out
      | true =>
        refine (fit_1 FS2.out y A' m5 c' HKD.out FOK.out fb true hr).mono ?_
        rintro e W3 ⟨rfl, hb3⟩
        have G3 := Aside0.mk (below_step G2.out hb3)
        have FS3 := Aside0.mk (FS'.out.below G3.out)
        have FFT := Aside0.mk hr
        clear hb3 hr
        go_wp2
        refine wpIn_cond_false (by rfl) ?_
        refine wpIn_skip ?_
        simp only [Exit.then]
        refine region_round l (by rintro ⟨a, w, h⟩; exact h) (by simp) ?_
        go_wp2_with fail
        refine (say_1 FS3.out y A' m5 c' HKD.out FOK.out okx (Kd.R_below (Kd.R_lower FR.out (Nat.le_add_right b 5)) G3.out) FXO.out (fun j hj => .inr (.inr (Nat.le_trans G3.out.size hj))) (by have := FWW.out; have := G3.out.size; have := HBW.out; omega) fb FFT.out FZ.out (says_small FS.out.small FFT.out FOK.out FZ.out (by have := F9.out; have := FK.out; have := HLN.out; omega))).mono ?_
        rintro e W4 ⟨⟨v4, rfl⟩, E', ne', ce', hS4, hF4⟩
        have G4 := Aside0.mk ((Frm.of_below G3.out (fun j => j = b + 1 ∨ (Value.slice E ne ce).ownBlock = some j)).then_ hF4 (fun j h _ => h))
        have FS4 := Aside0.mk hS4
        clear hS4 hF4
        go_wp2
        exact HK.out _ _ ⟨⟨_, _, _, _, _, _, _, _, _, _, _, rfl⟩, FFT.out, ⟨_, _, _, FS4.out⟩, G4.out⟩
    · have HKD := Aside0.mk hk
      clear hk
      refine region_round l (by rintro ⟨a, w, h⟩; exact h) (by simp) ?_
      go_wp2_with fail
      refine (known_2 y HKD.out A' m5 c' W).mono ?_
      rintro e W2 ⟨rfl, hb2⟩
      have G2 := Aside0.mk hb2
      have FS2 := Aside0.mk (FS'.out.below hb2)
      clear hb2 v0 v1 v2 v3 v4 v5 v6 v7 v8 v9 v10 v11 v12
      go_wp2
      refine wpIn_seq ?_
      refine region_round l (by rintro ⟨a, w, h⟩; exact h) (by simp) ?_
      go_wp2_with fail
      cases hr : s.fits y fb with
      | false =>
        refine (fit_2 FS2.out y A' m5 c' HKD.out FOK.out fb false hr).mono ?_
        rintro e W3 ⟨rfl, hb3⟩
        have G3 := Aside0.mk (below_step G2.out hb3)
        have FS3 := Aside0.mk (FS.out.below G3.out)
        have FNO := Aside0.mk (show F = (s, k, z) by rw [FRC.out, ← FFB.out, if_neg (by rw [hr]; decide)])
        clear hb3 hr
        go_wp2
        refine wpIn_cond_true (by rfl) ?_
        refine wpIn_exit ?_
        show (∀ k, T k ∧ w1.heap.size ≤ k → W3.heap[k]? = W.heap[k]?) ∧ Code.exit 0 = Code.exit 0 ∧ RX w F W3
        have hbw := HBW.out
        refine ⟨fun j hj => G3.out.block j (FT.out j hj.1), rfl, ?_⟩
        rw [FNO.out]
        refine ⟨E, ne, ce, okr, ?_, ?_, ?_, ?_, fun j hj => ⟨?_, ?_⟩, ?_⟩
        · rw [← hbw]; exact FS3.out
        · rw [← hbw]; exact (G3.out.block b (blk_lt F0.out)).trans F0.out
        · rw [← hbw]; exact (G3.out.block (b + 2) (blk_lt F3.out)).trans F3.out
        · rw [← hbw]; exact (G3.out.block (b + 3) (blk_lt F4.out)).trans F4.out
        · rw [← hbw]; exact (F6.out j hj).1
        · obtain ⟨cs, q, hc⟩ := (F6.out j hj).2.2
          exact ⟨cs, q, (G3.out.block j (blk_lt hc)).trans hc⟩
        · exact below_then F7.out FWW.out G3.out
      | true =>
        refine (fit_2 FS2.out y A' m5 c' HKD.out FOK.out fb true hr).mono ?_
        rintro e W3 ⟨rfl, hb3⟩
        have G3 := Aside0.mk (below_step G2.out hb3)
        have FS3 := Aside0.mk (FS'.out.below G3.out)
        have FFT := Aside0.mk hr
        clear hb3 hr
        go_wp2
        refine wpIn_cond_false (by rfl) ?_
        refine wpIn_skip ?_
        simp only [Exit.then]
        refine region_round l (by rintro ⟨a, w, h⟩; exact h) (by simp) ?_
        go_wp2_with fail
        refine (say_2 FS3.out y A' m5 c' HKD.out FOK.out okx (Kd.R_below (Kd.R_lower FR.out (Nat.le_add_right b 5)) G3.out) FXO.out (fun j hj => .inr (.inr (Nat.le_trans G3.out.size hj))) (by have := FWW.out; have := G3.out.size; have := HBW.out; omega) fb FFT.out FZ.out (says_small FS.out.small FFT.out FOK.out FZ.out (by have := F9.out; have := FK.out; have := HLN.out; omega))).mono ?_
        rintro e W4 ⟨⟨v4, rfl⟩, E', ne', ce', hS4, hF4⟩
        have G4 := Aside0.mk ((Frm.of_below G3.out (fun j => j = b + 1 ∨ (Value.slice E ne ce).ownBlock = some j)).then_ hF4 (fun j h _ => h))
        have FS4 := Aside0.mk hS4
        clear hS4 hF4
        go_wp2
        exact HK.out _ _ ⟨⟨_, _, _, _, _, _, _, _, _, _, _, rfl⟩, FFT.out, ⟨_, _, _, FS4.out⟩, G4.out⟩
    · have HKD := Aside0.mk hk
      clear hk
      refine region_round l (by rintro ⟨a, w, h⟩; exact h) (by simp) ?_
      go_wp2_with fail
      refine (known_3 y HKD.out A' m5 c' W).mono ?_
      rintro e W2 ⟨rfl, hb2⟩
      have G2 := Aside0.mk hb2
      have FS2 := Aside0.mk (FS'.out.below hb2)
      clear hb2 v0 v1 v2 v3 v4 v5 v6 v7 v8 v9 v10 v11 v12
      go_wp2
      refine wpIn_seq ?_
      refine region_round l (by rintro ⟨a, w, h⟩; exact h) (by simp) ?_
      go_wp2_with fail
      cases hr : s.fits y fb with
      | false =>
        refine (fit_3 FS2.out y A' m5 c' HKD.out FOK.out fb false hr).mono ?_
        rintro e W3 ⟨rfl, hb3⟩
        have G3 := Aside0.mk (below_step G2.out hb3)
        have FS3 := Aside0.mk (FS.out.below G3.out)
        have FNO := Aside0.mk (show F = (s, k, z) by rw [FRC.out, ← FFB.out, if_neg (by rw [hr]; decide)])
        clear hb3 hr
        go_wp2
        refine wpIn_cond_true (by rfl) ?_
        refine wpIn_exit ?_
        show (∀ k, T k ∧ w1.heap.size ≤ k → W3.heap[k]? = W.heap[k]?) ∧ Code.exit 0 = Code.exit 0 ∧ RX w F W3
        have hbw := HBW.out
        refine ⟨fun j hj => G3.out.block j (FT.out j hj.1), rfl, ?_⟩
        rw [FNO.out]
        refine ⟨E, ne, ce, okr, ?_, ?_, ?_, ?_, fun j hj => ⟨?_, ?_⟩, ?_⟩
        · rw [← hbw]; exact FS3.out
        · rw [← hbw]; exact (G3.out.block b (blk_lt F0.out)).trans F0.out
        · rw [← hbw]; exact (G3.out.block (b + 2) (blk_lt F3.out)).trans F3.out
        · rw [← hbw]; exact (G3.out.block (b + 3) (blk_lt F4.out)).trans F4.out
        · rw [← hbw]; exact (F6.out j hj).1
        · obtain ⟨cs, q, hc⟩ := (F6.out j hj).2.2
          exact ⟨cs, q, (G3.out.block j (blk_lt hc)).trans hc⟩
        · exact below_then F7.out FWW.out G3.out
      | true =>
        refine (fit_3 FS2.out y A' m5 c' HKD.out FOK.out fb true hr).mono ?_
        rintro e W3 ⟨rfl, hb3⟩
        have G3 := Aside0.mk (below_step G2.out hb3)
        have FS3 := Aside0.mk (FS'.out.below G3.out)
        have FFT := Aside0.mk hr
        clear hb3 hr
        go_wp2
        refine wpIn_cond_false (by rfl) ?_
        refine wpIn_skip ?_
        simp only [Exit.then]
        refine region_round l (by rintro ⟨a, w, h⟩; exact h) (by simp) ?_
        go_wp2_with fail
        refine (say_3 FS3.out y A' m5 c' HKD.out FOK.out okx (Kd.R_below (Kd.R_lower FR.out (Nat.le_add_right b 5)) G3.out) FXO.out (fun j hj => .inr (.inr (Nat.le_trans G3.out.size hj))) (by have := FWW.out; have := G3.out.size; have := HBW.out; omega) fb FFT.out FZ.out (says_small FS.out.small FFT.out FOK.out FZ.out (by have := F9.out; have := FK.out; have := HLN.out; omega))).mono ?_
        rintro e W4 ⟨⟨v4, rfl⟩, E', ne', ce', hS4, hF4⟩
        have G4 := Aside0.mk ((Frm.of_below G3.out (fun j => j = b + 1 ∨ (Value.slice E ne ce).ownBlock = some j)).then_ hF4 (fun j h _ => h))
        have FS4 := Aside0.mk hS4
        clear hS4 hF4
        go_wp2
        exact HK.out _ _ ⟨⟨_, _, _, _, _, _, _, _, _, _, _, rfl⟩, FFT.out, ⟨_, _, _, FS4.out⟩, G4.out⟩
    · have HKD := Aside0.mk hk
      clear hk
      refine region_round l (by rintro ⟨a, w, h⟩; exact h) (by simp) ?_
      go_wp2_with fail
      refine (known_4 y HKD.out A' m5 c' W).mono ?_
      rintro e W2 ⟨rfl, hb2⟩
      have G2 := Aside0.mk hb2
      have FS2 := Aside0.mk (FS'.out.below hb2)
      clear hb2 v0 v1 v2 v3 v4 v5 v6 v7 v8 v9 v10 v11 v12
      go_wp2
      refine wpIn_seq ?_
      refine region_round l (by rintro ⟨a, w, h⟩; exact h) (by simp) ?_
      go_wp2_with fail
      cases hr : s.fits y fb with
      | false =>
        refine (fit_4 FS2.out y A' m5 c' HKD.out FOK.out fb false hr).mono ?_
        rintro e W3 ⟨rfl, hb3⟩
        have G3 := Aside0.mk (below_step G2.out hb3)
        have FS3 := Aside0.mk (FS.out.below G3.out)
        have FNO := Aside0.mk (show F = (s, k, z) by rw [FRC.out, ← FFB.out, if_neg (by rw [hr]; decide)])
        clear hb3 hr
        go_wp2
        refine wpIn_cond_true (by rfl) ?_
        refine wpIn_exit ?_
        show (∀ k, T k ∧ w1.heap.size ≤ k → W3.heap[k]? = W.heap[k]?) ∧ Code.exit 0 = Code.exit 0 ∧ RX w F W3
        have hbw := HBW.out
        refine ⟨fun j hj => G3.out.block j (FT.out j hj.1), rfl, ?_⟩
        rw [FNO.out]
        refine ⟨E, ne, ce, okr, ?_, ?_, ?_, ?_, fun j hj => ⟨?_, ?_⟩, ?_⟩
        · rw [← hbw]; exact FS3.out
        · rw [← hbw]; exact (G3.out.block b (blk_lt F0.out)).trans F0.out
        · rw [← hbw]; exact (G3.out.block (b + 2) (blk_lt F3.out)).trans F3.out
        · rw [← hbw]; exact (G3.out.block (b + 3) (blk_lt F4.out)).trans F4.out
        · rw [← hbw]; exact (F6.out j hj).1
        · obtain ⟨cs, q, hc⟩ := (F6.out j hj).2.2
          exact ⟨cs, q, (G3.out.block j (blk_lt hc)).trans hc⟩
        · exact below_then F7.out FWW.out G3.out
      | true =>
        refine (fit_4 FS2.out y A' m5 c' HKD.out FOK.out fb true hr).mono ?_
        rintro e W3 ⟨rfl, hb3⟩
        have G3 := Aside0.mk (below_step G2.out hb3)
        have FS3 := Aside0.mk (FS'.out.below G3.out)
        have FFT := Aside0.mk hr
        clear hb3 hr
        go_wp2
        refine wpIn_cond_false (by rfl) ?_
        refine wpIn_skip ?_
        simp only [Exit.then]
        refine region_round l (by rintro ⟨a, w, h⟩; exact h) (by simp) ?_
        go_wp2_with fail
        refine (say_4 FS3.out y A' m5 c' HKD.out FOK.out okx (Kd.R_below (Kd.R_lower FR.out (Nat.le_add_right b 5)) G3.out) FXO.out (fun j hj => .inr (.inr (Nat.le_trans G3.out.size hj))) (by have := FWW.out; have := G3.out.size; have := HBW.out; omega) fb FFT.out FZ.out (says_small FS.out.small FFT.out FOK.out FZ.out (by have := F9.out; have := FK.out; have := HLN.out; omega))).mono ?_
        rintro e W4 ⟨⟨v4, rfl⟩, E', ne', ce', hS4, hF4⟩
        have G4 := Aside0.mk ((Frm.of_below G3.out (fun j => j = b + 1 ∨ (Value.slice E ne ce).ownBlock = some j)).then_ hF4 (fun j h _ => h))
        have FS4 := Aside0.mk hS4
        clear hS4 hF4
        go_wp2
        exact HK.out _ _ ⟨⟨_, _, _, _, _, _, _, _, _, _, _, rfl⟩, FFT.out, ⟨_, _, _, FS4.out⟩, G4.out⟩
    · have HKD := Aside0.mk hk
      clear hk
      refine region_round l (by rintro ⟨a, w, h⟩; exact h) (by simp) ?_
      go_wp2_with fail
      refine (known_5 y HKD.out A' m5 c' W).mono ?_
      rintro e W2 ⟨rfl, hb2⟩
      have G2 := Aside0.mk hb2
      have FS2 := Aside0.mk (FS'.out.below hb2)
      clear hb2 v0 v1 v2 v3 v4 v5 v6 v7 v8 v9 v10 v11 v12
      go_wp2
      refine wpIn_seq ?_
      refine region_round l (by rintro ⟨a, w, h⟩; exact h) (by simp) ?_
      go_wp2_with fail
      cases hr : s.fits y fb with
      | false =>
        refine (fit_5 FS2.out y A' m5 c' HKD.out FOK.out fb false hr).mono ?_
        rintro e W3 ⟨rfl, hb3⟩
        have G3 := Aside0.mk (below_step G2.out hb3)
        have FS3 := Aside0.mk (FS.out.below G3.out)
        have FNO := Aside0.mk (show F = (s, k, z) by rw [FRC.out, ← FFB.out, if_neg (by rw [hr]; decide)])
        clear hb3 hr
        go_wp2
        refine wpIn_cond_true (by rfl) ?_
        refine wpIn_exit ?_
        show (∀ k, T k ∧ w1.heap.size ≤ k → W3.heap[k]? = W.heap[k]?) ∧ Code.exit 0 = Code.exit 0 ∧ RX w F W3
        have hbw := HBW.out
        refine ⟨fun j hj => G3.out.block j (FT.out j hj.1), rfl, ?_⟩
        rw [FNO.out]
        refine ⟨E, ne, ce, okr, ?_, ?_, ?_, ?_, fun j hj => ⟨?_, ?_⟩, ?_⟩
        · rw [← hbw]; exact FS3.out
        · rw [← hbw]; exact (G3.out.block b (blk_lt F0.out)).trans F0.out
        · rw [← hbw]; exact (G3.out.block (b + 2) (blk_lt F3.out)).trans F3.out
        · rw [← hbw]; exact (G3.out.block (b + 3) (blk_lt F4.out)).trans F4.out
        · rw [← hbw]; exact (F6.out j hj).1
        · obtain ⟨cs, q, hc⟩ := (F6.out j hj).2.2
          exact ⟨cs, q, (G3.out.block j (blk_lt hc)).trans hc⟩
        · exact below_then F7.out FWW.out G3.out
      | true =>
        refine (fit_5 FS2.out y A' m5 c' HKD.out FOK.out fb true hr).mono ?_
        rintro e W3 ⟨rfl, hb3⟩
        have G3 := Aside0.mk (below_step G2.out hb3)
        have FS3 := Aside0.mk (FS'.out.below G3.out)
        have FFT := Aside0.mk hr
        clear hb3 hr
        go_wp2
        refine wpIn_cond_false (by rfl) ?_
        refine wpIn_skip ?_
        simp only [Exit.then]
        refine region_round l (by rintro ⟨a, w, h⟩; exact h) (by simp) ?_
        go_wp2_with fail
        refine (say_5 FS3.out y A' m5 c' HKD.out FOK.out okx (Kd.R_below (Kd.R_lower FR.out (Nat.le_add_right b 5)) G3.out) FXO.out (fun j hj => .inr (.inr (Nat.le_trans G3.out.size hj))) (by have := FWW.out; have := G3.out.size; have := HBW.out; omega) fb FFT.out FZ.out (says_small FS.out.small FFT.out FOK.out FZ.out (by have := F9.out; have := FK.out; have := HLN.out; omega))).mono ?_
        rintro e W4 ⟨⟨v4, rfl⟩, E', ne', ce', hS4, hF4⟩
        have G4 := Aside0.mk ((Frm.of_below G3.out (fun j => j = b + 1 ∨ (Value.slice E ne ce).ownBlock = some j)).then_ hF4 (fun j h _ => h))
        have FS4 := Aside0.mk hS4
        clear hS4 hF4
        go_wp2
        exact HK.out _ _ ⟨⟨_, _, _, _, _, _, _, _, _, _, _, rfl⟩, FFT.out, ⟨_, _, _, FS4.out⟩, G4.out⟩
    · have HKD := Aside0.mk hk
      clear hk
      refine region_round l (by rintro ⟨a, w, h⟩; exact h) (by simp) ?_
      go_wp2_with fail
      refine (known_6 y HKD.out A' m5 c' W).mono ?_
      rintro e W2 ⟨rfl, hb2⟩
      have G2 := Aside0.mk hb2
      have FS2 := Aside0.mk (FS'.out.below hb2)
      clear hb2 v0 v1 v2 v3 v4 v5 v6 v7 v8 v9 v10 v11 v12
      go_wp2
      refine wpIn_seq ?_
      refine region_round l (by rintro ⟨a, w, h⟩; exact h) (by simp) ?_
      go_wp2_with fail
      cases hr : s.fits y fb with
      | false =>
        refine (fit_6 FS2.out y A' m5 c' HKD.out FOK.out fb false hr).mono ?_
        rintro e W3 ⟨rfl, hb3⟩
        have G3 := Aside0.mk (below_step G2.out hb3)
        have FS3 := Aside0.mk (FS.out.below G3.out)
        have FNO := Aside0.mk (show F = (s, k, z) by rw [FRC.out, ← FFB.out, if_neg (by rw [hr]; decide)])
        clear hb3 hr
        go_wp2
        refine wpIn_cond_true (by rfl) ?_
        refine wpIn_exit ?_
        show (∀ k, T k ∧ w1.heap.size ≤ k → W3.heap[k]? = W.heap[k]?) ∧ Code.exit 0 = Code.exit 0 ∧ RX w F W3
        have hbw := HBW.out
        refine ⟨fun j hj => G3.out.block j (FT.out j hj.1), rfl, ?_⟩
        rw [FNO.out]
        refine ⟨E, ne, ce, okr, ?_, ?_, ?_, ?_, fun j hj => ⟨?_, ?_⟩, ?_⟩
        · rw [← hbw]; exact FS3.out
        · rw [← hbw]; exact (G3.out.block b (blk_lt F0.out)).trans F0.out
        · rw [← hbw]; exact (G3.out.block (b + 2) (blk_lt F3.out)).trans F3.out
        · rw [← hbw]; exact (G3.out.block (b + 3) (blk_lt F4.out)).trans F4.out
        · rw [← hbw]; exact (F6.out j hj).1
        · obtain ⟨cs, q, hc⟩ := (F6.out j hj).2.2
          exact ⟨cs, q, (G3.out.block j (blk_lt hc)).trans hc⟩
        · exact below_then F7.out FWW.out G3.out
      | true =>
        refine (fit_6 FS2.out y A' m5 c' HKD.out FOK.out fb true hr).mono ?_
        rintro e W3 ⟨rfl, hb3⟩
        have G3 := Aside0.mk (below_step G2.out hb3)
        have FS3 := Aside0.mk (FS'.out.below G3.out)
        have FFT := Aside0.mk hr
        clear hb3 hr
        go_wp2
        refine wpIn_cond_false (by rfl) ?_
        refine wpIn_skip ?_
        simp only [Exit.then]
        refine region_round l (by rintro ⟨a, w, h⟩; exact h) (by simp) ?_
        go_wp2_with fail
        refine (say_6 FS3.out y A' m5 c' HKD.out FOK.out okx (Kd.R_below (Kd.R_lower FR.out (Nat.le_add_right b 5)) G3.out) FXO.out (fun j hj => .inr (.inr (Nat.le_trans G3.out.size hj))) (by have := FWW.out; have := G3.out.size; have := HBW.out; omega) fb FFT.out FZ.out (says_small FS.out.small FFT.out FOK.out FZ.out (by have := F9.out; have := FK.out; have := HLN.out; omega))).mono ?_
        rintro e W4 ⟨⟨v4, rfl⟩, E', ne', ce', hS4, hF4⟩
        have G4 := Aside0.mk ((Frm.of_below G3.out (fun j => j = b + 1 ∨ (Value.slice E ne ce).ownBlock = some j)).then_ hF4 (fun j h _ => h))
        have FS4 := Aside0.mk hS4
        clear hS4 hF4
        go_wp2
        exact HK.out _ _ ⟨⟨_, _, _, _, _, _, _, _, _, _, _, rfl⟩, FFT.out, ⟨_, _, _, FS4.out⟩, G4.out⟩
  case done =>
    rintro D W hD hI hK2
    have hX := RV_done hI
    clear hI
    obtain ⟨E, ne, ce, okr, h1, h2, h3, h4, h6, h7⟩ := hX
    rw [← HBW.out] at h1 h2 h3 h4 h6
    have hb5 : b + 5 ≤ D := by have := HB.out.2.2.2.2.2.1; have := HBW.out; omega
    obtain ⟨s, cn, zn⟩ := F
    simp only at h1 h3 h4
    have F1 := Aside0.mk h2
    have FS := Aside0.mk h1
    have F2 := Aside0.mk h1.blk
    have F3 := Aside0.mk h3
    have F4 := Aside0.mk h4
    have F6 := Aside0.mk h6
    have F7 := Aside0.mk h7
    have FD := Aside0.mk hK2
    have FB := Aside0.mk hb5
    clear h1 h2 h3 h4 h6 h7 hK2 hb5 hI0 hD
    go_wp2_with fail
    refine wp_normal ?_
    have s0 : W.drew.cell? ⟨b + 1, 0, none⟩ = _ := (blk_cell (w := W.drew) F2.out 0).trans rfl
    have s1 : W.drew.cell? ⟨b + 1, 1, none⟩ = _ := (blk_cell (w := W.drew) F2.out 1).trans rfl
    have s2 : W.drew.cell? ⟨b + 1, 2, none⟩ = _ := (blk_cell (w := W.drew) F2.out 2).trans rfl
    have s3 : W.drew.cell? ⟨b + 1, 3, none⟩ = _ := (blk_cell (w := W.drew) F2.out 3).trans rfl
    have s4 : W.drew.cell? ⟨b + 1, 4, none⟩ = _ := (blk_cell (w := W.drew) F2.out 4).trans rfl
    have s5 : W.drew.cell? ⟨b + 1, 5, none⟩ = _ := (blk_cell (w := W.drew) F2.out 5).trans rfl
    have s6 : W.drew.cell? ⟨b + 1, 6, none⟩ = _ := (blk_cell (w := W.drew) F2.out 6).trans rfl
    have s7 : W.drew.cell? ⟨b + 1, 7, none⟩ = _ := (blk_cell (w := W.drew) F2.out 7).trans rfl
    have s8 : W.drew.cell? ⟨b + 1, 8, none⟩ = _ := (blk_cell (w := W.drew) F2.out 8).trans rfl
    have c2 : W.drew.cell? ⟨b + 2, 0, none⟩ = some (.int .i64 (cn : Int)) := (blk_cell (w := W.drew) F3.out 0).trans rfl
    have c3 : W.drew.cell? ⟨b + 3, 0, none⟩ = some (.int .i64 (zn : Int)) := (blk_cell (w := W.drew) F4.out 0).trans rfl
    refine start_ (n := 6) (S := fun w' => w'.cell? ⟨b + 1, 0, none⟩ = some (.int .i64 s.vn) ∧ w'.cell? ⟨b + 1, 1, none⟩ = some (.int .i64 s.vp) ∧ w'.cell? ⟨b + 1, 2, none⟩ = some (.int .i64 s.vb) ∧ w'.cell? ⟨b + 1, 3, none⟩ = some (.int .i64 s.ma) ∧ w'.cell? ⟨b + 1, 4, none⟩ = some (.int .i64 s.st) ∧ w'.cell? ⟨b + 1, 5, none⟩ = some (.int .i64 s.of) ∧ w'.cell? ⟨b + 1, 6, none⟩ = some (.string s.x) ∧ w'.cell? ⟨b + 1, 7, none⟩ = some (.slice E ne ce) ∧ w'.cell? ⟨b + 1, 8, none⟩ = some (.int .i64 s.co) ∧ w'.cell? ⟨b + 2, 0, none⟩ = some (.int .i64 (cn : Int)) ∧ w'.cell? ⟨b + 3, 0, none⟩ = some (.int .i64 (zn : Int))) (ds := []) bq209 (by kernel_rfl) rfl rfl ⟨s0, s1, s2, s3, s4, s5, s6, s7, s8, c2, c3⟩ (fun hHeld => ?_)
    refine take_ (i := 0) (N := some 37) (v := ?_) (a' := ?_) bq210 rfl rfl (by kernel_rfl) (fun _ _ _ h => nomatch h.1) (Or.inl ⟨by rfl, ?_⟩) hHeld ?_ ?_
    rotate_left
    · rintro w' ⟨s0, s1, s2, s3, s4, s5, s6, s7, s8, s9, s10⟩
      go_simp; with_reducible rfl
    rotate_left
    · simp only [sxx]; rfl
    refine take_ (i := 1) (N := some 38) (v := ?_) (a' := ?_) bq211 rfl rfl (by kernel_rfl) (fun _ _ _ h => nomatch h.1) (Or.inl ⟨by rfl, ?_⟩) hHeld ?_ ?_
    rotate_left
    · rintro w' ⟨s0, s1, s2, s3, s4, s5, s6, s7, s8, s9, s10⟩
      go_simp; with_reducible rfl
    rotate_left
    · simp only [sxx]; rfl
    refine take_ (i := 2) (N := some 39) (v := ?_) (a' := ?_) bq212 rfl rfl (by kernel_rfl) (fun _ _ _ h => nomatch h.1) (Or.inl ⟨by rfl, ?_⟩) hHeld ?_ ?_
    rotate_left
    · rintro w' ⟨s0, s1, s2, s3, s4, s5, s6, s7, s8, s9, s10⟩
      go_simp; with_reducible rfl
    rotate_left
    · simp only [sxx]; rfl
    refine one_ (i := 3) (N := none) bq213 rfl rfl (by kernel_rfl) (by decide) (fun K hK => ?_)
    refine store_arm 53 _ _ rfl (by rfl) rfl (q := b) (i := 0) (cur' := s.cells E ne ce) (s.cells E ne ce).toList rfl rfl rfl (by kernel_rfl) (by intro u hu; simp at hu; rcases hu with rfl | rfl | rfl | rfl | rfl | rfl | rfl | rfl | rfl <;> rfl) (show W.drew.heap[b]? = _ from F1.out) (by simp) rfl ?_
    intro w9 hp9 hg9
    have F1' := Aside0.mk hp9
    have F2' := Aside0.mk ((hg9.block (b + 1) (show b + 1 < W.drew.heap.size from blk_lt F2.out) (fun e => by have := Option.some.inj e; omega)).trans (show W.drew.heap[b + 1]? = _ from F2.out))
    have F3' := Aside0.mk ((hg9.block (b + 2) (show b + 2 < W.drew.heap.size from blk_lt F3.out) (fun e => by have := Option.some.inj e; omega)).trans (show W.drew.heap[b + 2]? = _ from F3.out))
    have F4' := Aside0.mk ((hg9.block (b + 3) (show b + 3 < W.drew.heap.size from blk_lt F4.out) (fun e => by have := Option.some.inj e; omega)).trans (show W.drew.heap[b + 3]? = _ from F4.out))
    have FD' := Aside0.mk ((hg9.block D (show D < W.drew.heap.size from blk_lt FD.out) (fun e => by have := Option.some.inj e; have := FB.out; omega)).trans (show W.drew.heap[D]? = _ from FD.out))
    have F7' := Aside0.mk ((below_drew1 F7.out).grown hg9 (below_drew1 F7.out).size (fun k e => by cases e; rw [HBW.out]; exact Nat.le_refl _))
    have FR' := Aside0.mk (show Kd.R k24 24 (w9.putObj D (.deferred none)) b okr (.slice E ne ce) s.es from Kd.R_step FS.out.row (fun j hj hlt => by
      have h8 := F6.out j hj
      have hne : j ≠ D := fun e => by
        obtain ⟨cs, q, hc⟩ := h8.2
        have h9 := FD.out
        rw [← e, hc] at h9
        cases h9
      exact (World.putObj_heap_other hne).trans (hg9.block j hlt (fun e => by have := Option.some.inj e; have := h8.1; omega))))
    refine hK.out _ _ ⟨(blk_cell F2'.out 0).trans rfl, (blk_cell F2'.out 1).trans rfl, (blk_cell F2'.out 2).trans rfl, (blk_cell F2'.out 3).trans rfl, (blk_cell F2'.out 4).trans rfl, (blk_cell F2'.out 5).trans rfl, (blk_cell F2'.out 6).trans rfl, (blk_cell F2'.out 7).trans rfl, (blk_cell F2'.out 8).trans rfl, (blk_cell F3'.out 0).trans rfl, (blk_cell F4'.out 0).trans rfl⟩ (fun hHeld => ?_)
    clear hK K
    refine pure_ (i := 4) (N := some 3) (v := ?_) (a' := ?_) bq214 rfl rfl (by kernel_rfl) (fun _ _ _ h => nomatch h.1) (Or.inl ⟨by rfl, ?_⟩) ?_ ?_
    rotate_left
    · intro w'; go_simp; with_reducible rfl
    rotate_left
    · simp only [sxx]; rfl
    refine pure_ (i := 5) (N := some 4) (v := ?_) (a' := ?_) bq215 rfl rfl (by kernel_rfl) (fun _ _ _ h => nomatch h.1) (Or.inl ⟨by rfl, ?_⟩) ?_ ?_
    rotate_left
    · intro w'; go_simp; with_reducible rfl
    rotate_left
    · simp only [sxx]; rfl
    refine done_ (by kernel_rfl) ?_
    refine ⟨rfl, ?_⟩
    go_wp2
    refine ⟨by simp, .inl ⟨_, _, rfl, run_takeDeferred FD'.out, ?_⟩⟩
    have b1 : (w9.putObj D (.deferred none)).heap[b]? = some (.cells (s.cells E ne ce) 53 (0, 0)) := (World.putObj_heap_other (by have := FB.out; omega)).trans F1'.out
    refine ⟨_, results20_row _ _ b _ _ _ rfl rfl rfl b1 rfl, E, ne, ce, rfl, FS.out.len, ?_, ?_⟩
    · rw [← HBW.out]; exact Kd.R_mono FR'.out (fun _ _ => trivial)
    · exact F7'.out.grown (grownBy_putObj' _ D _) F7'.out.size (fun r e => by cases e; have := FB.out; have := HBW.out; omega)
  case stop =>
    rintro D cd W hD ⟨rfl, hX⟩ hK2
    refine wp_exit ?_
    obtain ⟨E, ne, ce, okr, h1, h2, h3, h4, h6, h7⟩ := hX
    rw [← HBW.out] at h1 h2 h3 h4 h6
    have hb5 : b + 5 ≤ D := by have := HB.out.2.2.2.2.2.1; have := HBW.out; omega
    obtain ⟨s, cn, zn⟩ := F
    simp only at h1 h3 h4
    have F1 := Aside0.mk h2
    have FS := Aside0.mk h1
    have F2 := Aside0.mk h1.blk
    have F3 := Aside0.mk h3
    have F4 := Aside0.mk h4
    have F6 := Aside0.mk h6
    have F7 := Aside0.mk h7
    have FD := Aside0.mk hK2
    have FB := Aside0.mk hb5
    clear h1 h2 h3 h4 h6 h7 hK2 hb5 hI0 hD
    go_wp2_with fail
    refine wp_normal ?_
    have s0 : W.drew.cell? ⟨b + 1, 0, none⟩ = _ := (blk_cell (w := W.drew) F2.out 0).trans rfl
    have s1 : W.drew.cell? ⟨b + 1, 1, none⟩ = _ := (blk_cell (w := W.drew) F2.out 1).trans rfl
    have s2 : W.drew.cell? ⟨b + 1, 2, none⟩ = _ := (blk_cell (w := W.drew) F2.out 2).trans rfl
    have s3 : W.drew.cell? ⟨b + 1, 3, none⟩ = _ := (blk_cell (w := W.drew) F2.out 3).trans rfl
    have s4 : W.drew.cell? ⟨b + 1, 4, none⟩ = _ := (blk_cell (w := W.drew) F2.out 4).trans rfl
    have s5 : W.drew.cell? ⟨b + 1, 5, none⟩ = _ := (blk_cell (w := W.drew) F2.out 5).trans rfl
    have s6 : W.drew.cell? ⟨b + 1, 6, none⟩ = _ := (blk_cell (w := W.drew) F2.out 6).trans rfl
    have s7 : W.drew.cell? ⟨b + 1, 7, none⟩ = _ := (blk_cell (w := W.drew) F2.out 7).trans rfl
    have s8 : W.drew.cell? ⟨b + 1, 8, none⟩ = _ := (blk_cell (w := W.drew) F2.out 8).trans rfl
    have c2 : W.drew.cell? ⟨b + 2, 0, none⟩ = some (.int .i64 (cn : Int)) := (blk_cell (w := W.drew) F3.out 0).trans rfl
    have c3 : W.drew.cell? ⟨b + 3, 0, none⟩ = some (.int .i64 (zn : Int)) := (blk_cell (w := W.drew) F4.out 0).trans rfl
    refine start_ (n := 6) (S := fun w' => w'.cell? ⟨b + 1, 0, none⟩ = some (.int .i64 s.vn) ∧ w'.cell? ⟨b + 1, 1, none⟩ = some (.int .i64 s.vp) ∧ w'.cell? ⟨b + 1, 2, none⟩ = some (.int .i64 s.vb) ∧ w'.cell? ⟨b + 1, 3, none⟩ = some (.int .i64 s.ma) ∧ w'.cell? ⟨b + 1, 4, none⟩ = some (.int .i64 s.st) ∧ w'.cell? ⟨b + 1, 5, none⟩ = some (.int .i64 s.of) ∧ w'.cell? ⟨b + 1, 6, none⟩ = some (.string s.x) ∧ w'.cell? ⟨b + 1, 7, none⟩ = some (.slice E ne ce) ∧ w'.cell? ⟨b + 1, 8, none⟩ = some (.int .i64 s.co) ∧ w'.cell? ⟨b + 2, 0, none⟩ = some (.int .i64 (cn : Int)) ∧ w'.cell? ⟨b + 3, 0, none⟩ = some (.int .i64 (zn : Int))) (ds := []) bq209 (by kernel_rfl) rfl rfl ⟨s0, s1, s2, s3, s4, s5, s6, s7, s8, c2, c3⟩ (fun hHeld => ?_)
    refine take_ (i := 0) (N := some 37) (v := ?_) (a' := ?_) bq210 rfl rfl (by kernel_rfl) (fun _ _ _ h => nomatch h.1) (Or.inl ⟨by rfl, ?_⟩) hHeld ?_ ?_
    rotate_left
    · rintro w' ⟨s0, s1, s2, s3, s4, s5, s6, s7, s8, s9, s10⟩
      go_simp; with_reducible rfl
    rotate_left
    · simp only [sxx]; rfl
    refine take_ (i := 1) (N := some 38) (v := ?_) (a' := ?_) bq211 rfl rfl (by kernel_rfl) (fun _ _ _ h => nomatch h.1) (Or.inl ⟨by rfl, ?_⟩) hHeld ?_ ?_
    rotate_left
    · rintro w' ⟨s0, s1, s2, s3, s4, s5, s6, s7, s8, s9, s10⟩
      go_simp; with_reducible rfl
    rotate_left
    · simp only [sxx]; rfl
    refine take_ (i := 2) (N := some 39) (v := ?_) (a' := ?_) bq212 rfl rfl (by kernel_rfl) (fun _ _ _ h => nomatch h.1) (Or.inl ⟨by rfl, ?_⟩) hHeld ?_ ?_
    rotate_left
    · rintro w' ⟨s0, s1, s2, s3, s4, s5, s6, s7, s8, s9, s10⟩
      go_simp; with_reducible rfl
    rotate_left
    · simp only [sxx]; rfl
    refine one_ (i := 3) (N := none) bq213 rfl rfl (by kernel_rfl) (by decide) (fun K hK => ?_)
    refine store_arm 53 _ _ rfl (by rfl) rfl (q := b) (i := 0) (cur' := s.cells E ne ce) (s.cells E ne ce).toList rfl rfl rfl (by kernel_rfl) (by intro u hu; simp at hu; rcases hu with rfl | rfl | rfl | rfl | rfl | rfl | rfl | rfl | rfl <;> rfl) (show W.drew.heap[b]? = _ from F1.out) (by simp) rfl ?_
    intro w9 hp9 hg9
    have F1' := Aside0.mk hp9
    have F2' := Aside0.mk ((hg9.block (b + 1) (show b + 1 < W.drew.heap.size from blk_lt F2.out) (fun e => by have := Option.some.inj e; omega)).trans (show W.drew.heap[b + 1]? = _ from F2.out))
    have F3' := Aside0.mk ((hg9.block (b + 2) (show b + 2 < W.drew.heap.size from blk_lt F3.out) (fun e => by have := Option.some.inj e; omega)).trans (show W.drew.heap[b + 2]? = _ from F3.out))
    have F4' := Aside0.mk ((hg9.block (b + 3) (show b + 3 < W.drew.heap.size from blk_lt F4.out) (fun e => by have := Option.some.inj e; omega)).trans (show W.drew.heap[b + 3]? = _ from F4.out))
    have FD' := Aside0.mk ((hg9.block D (show D < W.drew.heap.size from blk_lt FD.out) (fun e => by have := Option.some.inj e; have := FB.out; omega)).trans (show W.drew.heap[D]? = _ from FD.out))
    have F7' := Aside0.mk ((below_drew1 F7.out).grown hg9 (below_drew1 F7.out).size (fun k e => by cases e; rw [HBW.out]; exact Nat.le_refl _))
    have FR' := Aside0.mk (show Kd.R k24 24 (w9.putObj D (.deferred none)) b okr (.slice E ne ce) s.es from Kd.R_step FS.out.row (fun j hj hlt => by
      have h8 := F6.out j hj
      have hne : j ≠ D := fun e => by
        obtain ⟨cs, q, hc⟩ := h8.2
        have h9 := FD.out
        rw [← e, hc] at h9
        cases h9
      exact (World.putObj_heap_other hne).trans (hg9.block j hlt (fun e => by have := Option.some.inj e; have := h8.1; omega))))
    refine hK.out _ _ ⟨(blk_cell F2'.out 0).trans rfl, (blk_cell F2'.out 1).trans rfl, (blk_cell F2'.out 2).trans rfl, (blk_cell F2'.out 3).trans rfl, (blk_cell F2'.out 4).trans rfl, (blk_cell F2'.out 5).trans rfl, (blk_cell F2'.out 6).trans rfl, (blk_cell F2'.out 7).trans rfl, (blk_cell F2'.out 8).trans rfl, (blk_cell F3'.out 0).trans rfl, (blk_cell F4'.out 0).trans rfl⟩ (fun hHeld => ?_)
    clear hK K
    refine pure_ (i := 4) (N := some 3) (v := ?_) (a' := ?_) bq214 rfl rfl (by kernel_rfl) (fun _ _ _ h => nomatch h.1) (Or.inl ⟨by rfl, ?_⟩) ?_ ?_
    rotate_left
    · intro w'; go_simp; with_reducible rfl
    rotate_left
    · simp only [sxx]; rfl
    refine pure_ (i := 5) (N := some 4) (v := ?_) (a' := ?_) bq215 rfl rfl (by kernel_rfl) (fun _ _ _ h => nomatch h.1) (Or.inl ⟨by rfl, ?_⟩) ?_ ?_
    rotate_left
    · intro w'; go_simp; with_reducible rfl
    rotate_left
    · simp only [sxx]; rfl
    refine done_ (by kernel_rfl) ?_
    refine ⟨rfl, ?_⟩
    go_wp2
    refine ⟨by simp, .inl ⟨_, _, rfl, run_takeDeferred FD'.out, ?_⟩⟩
    have b1 : (w9.putObj D (.deferred none)).heap[b]? = some (.cells (s.cells E ne ce) 53 (0, 0)) := (World.putObj_heap_other (by have := FB.out; omega)).trans F1'.out
    refine ⟨_, results20_row _ _ b _ _ _ rfl rfl rfl b1 rfl, E, ne, ce, rfl, FS.out.len, ?_, ?_⟩
    · rw [← HBW.out]; exact Kd.R_mono FR'.out (fun _ _ => trivial)
    · exact F7'.out.grown (grownBy_putObj' _ D _) F7'.out.size (fun r e => by cases e; have := FB.out; have := HBW.out; omega)

set_option maxHeartbeats 4000000 in
set_option maxRecDepth 100000 in
theorem compact_long (vn vp vb ma st of : Int) (x : ByteArray) (E : Option Addr) (ne ce : Nat) (co : Int) (w : World) (hx : 200000 < x.size) :
    Calls Try.prog 22 #[.agg (savedCells vn vp vb ma st of x E ne ce co)] w fun e w' => e = .returned (.tuple #[.slice none 0 0, .int .i64 0, .int .i64 2]) ∧ Below w.heap.size w w' := by
  have hu53 := Try.underlying53
  have hu26 := Try.underlying26
  obtain ⟨nx, hnx⟩ : ∃ nx, nx = x.size := ⟨_, rfl⟩
  have d1 : decide ((200000 : Int) < (x.size : Int)) = true := decide_eq_true (by omega)
  have d2 : decide (200000 < x.size) = true := decide_eq_true hx
  go_enter Try.func22, Try.ntmps22
  go_wp2
  go_ret3
  exact ⟨rfl, below_alloc (Below.refl _ _) _⟩
set_option maxHeartbeats 4000000 in
set_option maxRecDepth 100000 in
theorem known_C (w : World) : Calls Try.prog 16 #[] w fun e w' => e = .returned (.bool true) ∧ Below w.heap.size w w' := by
  have hu53 := Try.underlying53
  have hu26 := Try.underlying26
  have hu28 := Try.underlying28
  go_enter Try.func16, Try.ntmps16
  go_wp2_with fail
  refine (encode_C 1 2 0 0 0 0 0 none 0 0 [] 1 1 2 0 0 ⟨#[]⟩ w rfl (R40_C (Kd.R_nil _ _ _ _ _ : R40 w 0 (.slice none 0 0) [])) (Nat.zero_le _) b23 0 b23_enc).mono ?_
  rintro e w1 ⟨V, rfl, ho, hb⟩
  obtain ⟨A, c, hV, hc, hC⟩ : ∃ A c, V = .slice A 23 c ∧ 23 ≤ c ∧ C8 w1 A 23 b23 := by
    obtain ⟨A, c, h1, h2, h3⟩ := Kd.R_reads ho
    exact ⟨A, c, h1, h2, h3⟩
  subst hV
  have HB1 := Aside0.mk hb
  have HC1 := Aside0.mk hC
  have HCC := Aside0.mk hc
  clear hb ho hC hc
  go_wp2_with fail
  refine (num_N 0 w1).mono ?_
  rintro e w2 ⟨rfl, hd⟩
  have HB2 := Aside0.mk (below_step HB1.out hd.below)
  have HC2 := Aside0.mk (Kd.C_below HC1.out hd.below)
  clear hd HB1 HC1
  go_wp2_with (with_reducible refine stop_make rfl ?_)
  refine mkn8 (C := 200001) w2 w2.heap.size rfl rfl _ _ rfl rfl rfl (by omega) (by omega) (Below.refl _ _) (Nat.le_refl _) ?_
  intro v3 w3 ho hb hg hat
  obtain ⟨l, hl⟩ : ∃ l, l = List.replicate (200001 : Int).toNat (0 : Int) := ⟨_, rfl⟩
  rw [← hl] at ho
  obtain ⟨A3, c3, rfl, hc3, hC3⟩ := Kd.R_reads ho
  have hll : l.length = 200001 := by rw [hl]; exact List.length_replicate
  rw [hll] at hC3 ⊢
  have HB3 := Aside0.mk (below_step HB2.out hb)
  have HC3 := Aside0.mk hC3
  have HCD := Aside0.mk (Kd.C_below HC2.out hb)
  have HL := Aside0.mk hl
  clear ho hb hg hat hc3 hC3 hl
  go_wp2_with (with_reducible refine stop_convert rfl ?_)
  refine str8 rfl _ rfl rfl HC3.out ?_
  obtain ⟨x, hx⟩ : ∃ x, x = strOfNums l := ⟨_, rfl⟩
  rw [← hx]
  have HX := Aside0.mk (show 200000 < x.size by
    have h1 := bytesOf_str l (by rw [HL.out]; unfold bytesOk; exact List.all_eq_true.2 (fun b hb => by rw [List.eq_of_mem_replicate hb]; rfl))
    have h2 := bytesOf_length (strOfNums l)
    rw [h1, hll] at h2
    rw [hx]
    omega)
  clear hx hll
  go_wp2_with fail
  refine (compact_long 0 0 0 0 (-1) 0 x none 0 0 0 w3 HX.out).mono ?_
  rintro e w4 ⟨rfl, hb⟩
  have HB4 := Aside0.mk (below_step HB3.out hb)
  have HC4 := Aside0.mk (Kd.C_below HCD.out hb)
  clear hb
  go_wp2_with fail
  refine (num_N 2 w4).mono ?_
  rintro e w5 ⟨rfl, hd⟩
  have HB5 := Aside0.mk (below_step HB4.out hd.below)
  have HC5 := Aside0.mk (Kd.C_below HC4.out hd.below)
  clear hd
  go_wp2_with fail
  refine (num_N 2 w5).mono ?_
  rintro e w6 ⟨rfl, hd⟩
  have HB6 := Aside0.mk (below_step HB5.out hd.below)
  have HC6 := Aside0.mk (Kd.C_below HC5.out hd.below)
  clear hd
  go_wp2_with fail
  refine (recover_23 w6 A c HC6.out HCC.out).mono ?_
  rintro e w7 ⟨rfl, hb⟩
  have HB7 := Aside0.mk (below_step HB6.out hb)
  clear hb
  go_wp2; go_ret
  exact ⟨rfl, below_alloc HB7.out _⟩

theorem wrGo_cnt : ∀ (l : List JR) (d es : List Int) (ys : List JR), es.length = ys.length → Enc 0 ys d → ys.length ≤ 3000 → (wrGo l (d, es, ys)).2.2.length ≤ 3000
  | [], d, es, ys, he, hE, h => h
  | y :: l, d, es, ys, he, hE, h => by
    unfold wrGo
    by_cases h6 : d.length < 60000
    · rw [if_pos h6]
      by_cases h0 : (y.enc ((es.length : Int) + 1)).2 = 0
      · rw [if_pos h0]
        have hE2 : Enc 0 (ys ++ [y]) (d ++ (y.enc ((es.length : Int) + 1)).1) := Enc_snoc ys 0 d _ y hE (by rw [Nat.zero_add, ← he]; exact Prod.ext rfl h0)
        have := (Enc_ok ys 0 d hE).2
        exact wrGo_cnt l _ _ _ (by simp [he]) hE2 (by rw [List.length_append, List.length_cons, List.length_nil]; omega)
      · rw [if_neg h0]
        exact wrGo_cnt l _ _ _ he hE h
    · rw [if_neg h6]
      exact h

/-- What written leaves, told plainly. -/
theorem wr_plain (l : List JR) (D ES : List Int) (YS : List JR) (hF : wrGo l ([], [], []) = (D, ES, YS)) :
    Enc 0 YS D ∧ EndsOf YS ES ∧ D.length = bytesN 0 YS ∧ D.length ≤ 4100000 ∧ YS.length ≤ 3000 ∧ (∀ y ∈ YS, y ∈ l) := by
  obtain ⟨zs, z1, z2, z3, z4⟩ := wrGo_pick l [] [] [] rfl rfl
  have z5 := wrGo_len l [] [] [] (by simp)
  have z6 := wrGo_cnt l [] [] [] rfl rfl (by simp)
  obtain ⟨z7, z8⟩ := wrGo_ends l [] [] [] ⟨rfl, fun i hi => absurd hi (Nat.not_lt_zero _)⟩ rfl
  rw [hF] at z1 z3 z4 z5 z6 z7 z8
  simp only [List.nil_append] at z1 z3 z4 z5 z6 z7 z8
  subst z1
  exact ⟨z3, z7, z8, z5, z6, Pick_mem _ _ _ z2⟩
/-- Recover of a journal's first bytes. -/
theorem recover_cut (w : World) (A : Option Addr) (n c cut : Nat) (l : List JR) (D ES : List Int) (YS : List JR) (hF : wrGo l ([], [], []) = (D, ES, YS)) (hn : (D.take cut).length = n) (hc : n ≤ c) (hC : C8 w A n (D.take cut)) (F : SV × Nat × Nat) (hR : F = rcGo (YS.take (wholeN 0 YS cut)) 0 SV.zero 0) :
    Calls Try.prog 20 #[.slice A n c] w fun e w' => ∃ E ne ce, e = .returned (.tuple #[.agg (F.1.cells E ne ce), .int .i64 (F.2.1 : Int), .int .i64 (F.2.2 : Int)]) ∧ F.1.es.length = ne ∧ Kd.R k24 24 w' w.heap.size (fun _ => True) (.slice E ne ce) F.1.es ∧ Below w.heap.size w w' := by
  obtain ⟨h1, h2, h3, h4, h5, h6⟩ := wr_plain l D ES YS hF
  have hw := Enc_torn YS 0 [] D cut h1 (by rw [List.nil_append]; omega)
  rw [List.nil_append] at hw
  refine recover_R w A n c (D.take cut) (YS.take (wholeN 0 YS cut)) hn hc (by rw [← hn, List.length_take]; omega) hC hw (by rw [List.length_take]; omega) (fun k y hy => ?_) F hR
  have hy2 : YS[k]? = some y := by
    rw [List.getElem?_take] at hy
    split at hy
    · exact hy
    · cases hy
  obtain ⟨r1, hr⟩ := Enc_get YS 0 D h1 k y hy2
  rw [Nat.zero_add] at hr
  exact ⟨r1, hr⟩
theorem whole_all {YS : List JR} {D : List Int} (h : Enc 0 YS D) (hl : D.length = bytesN 0 YS) : wholeN 0 YS D.length = YS.length := by
  have := whole_end h YS.length (Nat.le_refl _)
  rw [List.take_length, ← hl] at this
  exact this

/-- Recover of a journal of which one byte was turned. -/
theorem recover_bad (w : World) (A : Option Addr) (n c q : Nat) (v : Int) (l : List JR) (D ES : List Int) (YS : List JR) (hF : wrGo l ([], [], []) = (D, ES, YS)) (hn : D.length = n) (hc : n ≤ c) (hq : q < n) (hv : 0 ≤ v ∧ v < 256) (hne : v ≠ rd D q) (hC : C8 w A n (D.set q v)) (F : SV × Nat × Nat) (hR : F = rcGo (YS.take (wholeN 0 YS q)) 0 SV.zero 0) :
    Calls Try.prog 20 #[.slice A n c] w fun e w' => ∃ E ne ce, e = .returned (.tuple #[.agg (F.1.cells E ne ce), .int .i64 (F.2.1 : Int), .int .i64 (F.2.2 : Int)]) ∧ F.1.es.length = ne ∧ Kd.R k24 24 w' w.heap.size (fun _ => True) (.slice E ne ce) F.1.es ∧ Below w.heap.size w w' := by
  obtain ⟨h1, h2, h3, h4, h5, h6⟩ := wr_plain l D ES YS hF
  have hw := Enc_spoilt YS 0 [] D q v h1 (by rw [List.nil_append]; omega) (by omega) hv hne
  rw [List.nil_append] at hw
  refine recover_R w A n c (D.set q v) (YS.take (wholeN 0 YS q)) (by rw [List.length_set]; exact hn) hc (by omega) hC hw (by rw [List.length_take]; omega) (fun k y hy => ?_) F hR
  have hy2 : YS[k]? = some y := by
    rw [List.getElem?_take] at hy
    split at hy
    · exact hy
    · cases hy
  obtain ⟨r1, hr⟩ := Enc_get YS 0 D h1 k y hy2
  rw [Nat.zero_add] at hr
  exact ⟨r1, hr⟩
theorem rem_cut (at' : Int) (z : Nat) (h0 : 0 ≤ at') (hz : 0 < z) : ∃ q : Nat, q < z ∧ Int.tmod at' (z : Int) = (q : Int) := by
  obtain ⟨a, rfl⟩ := Int.eq_ofNat_of_zero_le h0
  refine ⟨a % z, Nat.mod_lt _ hz, ?_⟩
  rw [Int.tmod_eq_emod_of_nonneg (by omega)]
  rfl
theorem fill_step (D : List Int) (m k : Nat) (h : k < m) (hm : D.length = m) : (D.take k ++ List.replicate (m - k) 0).set k (rd D (k : Int)) = D.take (k + 1) ++ List.replicate (m - (k + 1)) 0 := by
  have hl : (D.take k).length = k := by rw [List.length_take]; omega
  rw [List.set_append_right _ _ (by omega), hl, Nat.sub_self, show m - k = (m - (k + 1)) + 1 by omega, List.replicate_succ, List.set_cons_zero]
  have : rd D (k : Int) = D[k]'(by omega) := by
    show D.getD (Int.toNat (k : Int)) 0 = _
    rw [Int.toNat_natCast, List.getD_eq_getElem?_getD, List.getElem?_eq_getElem (by omega)]
    rfl
  rw [this, List.take_succ_eq_append_getElem (by omega), List.append_assoc]
  rfl
set_option maxHeartbeats 32000000 in
set_option maxRecDepth 100000 in
theorem journalSpoilt_walk (w : World) (A : Option Addr) (n c : Nat) (l : List JR) (cut turn : Int) (hn : l.length = n) (hc : n ≤ c) (hm : n ≤ 2513169434843) (hC : Kd.C kJ w A n l) (hops : ∀ y ∈ l, y.ops.length ≤ 2513169434843) :
    Calls Try.prog 6 #[.slice A n c, .int .i64 cut, .int .i64 turn] w fun e w' => e = .returned (.bool true) ∧ Below w.heap.size w w' := by
  have hu53 := Try.underlying53
  have hu28 := Try.underlying28
  have hu26 := Try.underlying26
  have hu24 := Try.underlying24
  have HN := Aside0.mk hn
  have HC := Aside0.mk hC
  have HCC := Aside0.mk hc
  have HOP := Aside0.mk hops
  obtain ⟨D, ES, YS, hF⟩ : ∃ D ES YS, wrGo l ([], [], []) = (D, ES, YS) := ⟨_, _, _, rfl⟩
  have HF := Aside0.mk hF
  have HPL := Aside0.mk (wr_plain l D ES YS hF)
  obtain ⟨R, hR⟩ : ∃ R, R = rcGo YS 0 SV.zero 0 := ⟨_, rfl⟩
  have HRR := Aside0.mk hR
  have HRA := Aside0.mk (show R.2.1 = rcN YS 0 SV.zero ∧ R.2.2 ≤ bytesN 0 YS by rw [hR]; exact rcK_all YS)
  obtain ⟨SR, NR, ZR⟩ := R
  clear hn hC hc hops hF hR
  go_enter Try.func6, Try.ntmps6
  go_wp2_with fail
  refine (written_R w A n c l HN.out HCC.out hm HC.out).mono ?_
  rintro e w1 ⟨V, U, rfl, hv, hu, hb⟩
  rw [HF.out] at hv hu
  simp only at hv hu
  obtain ⟨A1, c1, rfl, h1, h2⟩ := Kd.R_reads hv
  obtain ⟨A2, c2, rfl, h3, h4⟩ := Kd.R_reads hu
  obtain ⟨m1, hm1⟩ : ∃ m1, m1 = D.length := ⟨_, rfl⟩
  obtain ⟨m2, hm2⟩ : ∃ m2, m2 = YS.length := ⟨_, rfl⟩
  rw [HPL.out.2.1.1, ← hm2] at h3 h4 ⊢
  rw [← hm1] at h1 h2 ⊢
  have HM1 := Aside0.mk hm1
  have HM2 := Aside0.mk hm2
  have H1 := Aside0.mk h1
  have H2 := Aside0.mk h2
  have H3 := Aside0.mk h3
  have H4 := Aside0.mk h4
  have HB1 := Aside0.mk hb
  clear hv hu h1 h2 h3 h4 hb hm1 hm2
  go_wp2_with fail
  refine (recover_cut w1 A1 m1 c1 m1 l D ES YS HF.out (by rw [HM1.out, List.take_length]) H1.out (by have := H2.out; rw [HM1.out, List.take_length]; rw [HM1.out] at this; exact this) (SR, NR, ZR) (by rw [HM1.out, whole_all HPL.out.1 HPL.out.2.2.1, List.take_length]; exact HRR.out)).mono ?_
  rintro e w2 ⟨E, ne, ce, rfl, hne, hrow, hb⟩
  have HB2 := Aside0.mk (below_step HB1.out hb)
  have H22 := Aside0.mk (Kd.C_below H2.out hb)
  have H42 := Aside0.mk (Kd.C_below H4.out hb)
  clear hb hrow hne
  have hm1' : m1 ≤ 4100000 := by rw [HM1.out]; exact HPL.out.2.2.2.1
  have hm2' : m2 ≤ 3000 := by rw [HM2.out]; exact HPL.out.2.2.2.2.1
  go_upto_region 3 with (fail)
  obtain ⟨w3, hw3⟩ : ∃ w3, w3 = w2.alloc (.cells (SR.cells E ne ce) 53) := ⟨_, rfl⟩
  obtain ⟨g3, hg3⟩ : ∃ g3, g3 = w2.heap.size := ⟨_, rfl⟩
  rw [← hw3, ← hg3]
  have HA3 := Aside0.mk (show Below w2.heap.size w2 w3 by rw [hw3]; exact below_alloc (Below.refl _ _) _)
  have HB3 := Aside0.mk (below_step HB2.out HA3.out)
  have HZM := Aside0.mk (show ZR ≤ m1 by
    have h2 : ZR ≤ bytesN 0 YS := HRA.out.2
    have h3 := HM1.out
    have h4 := HPL.out.2.2.1
    omega)
  have HNM := Aside0.mk (show NR ≤ m2 by
    have h1 := rcN_le YS 0 SV.zero
    have h2 : NR = rcN YS 0 SV.zero := HRA.out.1
    have h3 := HM2.out
    omega)
  clear hw3 hg3
  go_cut [58] (fun v58 wc => (∃ g : Bool, v58 = .bool g ∧ (g = false → 0 < ZR ∧ 1 ≤ turn ∧ turn ≤ 255 ∧ 0 ≤ cut)) ∧ w3 = wc)
  case first =>
    have t1 : decide ((m2 : Int) < (NR : Int)) = false := decide_eq_false (by have := HNM.out; omega)
    have t2 : decide (m2 < NR) = false := decide_eq_false (by have := HNM.out; omega)
    have t3 : decide ((m1 : Int) < (ZR : Int)) = false := decide_eq_false (by have := HZM.out; omega)
    have t4 : decide (m1 < ZR) = false := decide_eq_false (by have := HZM.out; omega)
    by_cases k0 : (ZR : Int) = 0
    · have e0 : ((ZR : Int) == 0) = true := beq_iff_eq.2 k0
      have e0' : decide ((ZR : Int) = 0) = true := decide_eq_true k0
      have e0'' : decide (ZR = 0) = true := decide_eq_true (by omega)
      clear k0
      go_wp2; go_meet
      case rel => exact ⟨⟨true, rfl, fun h => by cases h⟩, rfl⟩
    have e0 : ((ZR : Int) == 0) = false := beq_eq_false_iff_ne.2 k0
    have e0' : decide ((ZR : Int) = 0) = false := decide_eq_false k0
    have e0'' : decide (ZR = 0) = false := decide_eq_false (by omega)
    by_cases k1 : turn < 1
    · have e1 : decide (turn < 1) = true := decide_eq_true k1
      clear k0 k1
      go_wp2; go_meet
      case rel => exact ⟨⟨true, rfl, fun h => by cases h⟩, rfl⟩
    have e1 : decide (turn < 1) = false := decide_eq_false k1
    by_cases k2 : 255 < turn
    · have e2 : decide (255 < turn) = true := decide_eq_true k2
      clear k0 k1 k2
      go_wp2; go_meet
      case rel => exact ⟨⟨true, rfl, fun h => by cases h⟩, rfl⟩
    have e2 : decide (255 < turn) = false := decide_eq_false k2
    by_cases k3 : cut < 0
    · have e3 : decide (cut < 0) = true := decide_eq_true k3
      clear k0 k1 k2 k3
      go_wp2; go_meet
      case rel => exact ⟨⟨true, rfl, fun h => by cases h⟩, rfl⟩
    have e3 : decide (cut < 0) = false := decide_eq_false k3
    have HK := Aside0.mk (show 0 < ZR ∧ 1 ≤ turn ∧ turn ≤ 255 ∧ 0 ≤ cut by omega)
    clear k0 k1 k2 k3
    go_wp2; go_meet
    case rel => exact ⟨⟨false, rfl, fun _ => HK.out⟩, rfl⟩
  obtain ⟨⟨g, rfl, hg⟩, rfl⟩ := hcut
  cases g
  case true =>
    clear hg
    go_wp2_with fail
    refine (known_C w3).mono ?_
    rintro e w9 ⟨rfl, hb⟩
    have HB9 := Aside0.mk (below_step HB3.out hb)
    clear hb
    go_wp2; go_ret
    exact ⟨rfl, HB9.out⟩
  obtain ⟨hz0, ht1, ht2, hc0⟩ := hg rfl
  obtain ⟨q, hqz, hqe⟩ := rem_cut cut ZR hc0 hz0
  have HQZ := Aside0.mk hqz
  have HT := Aside0.mk (show 1 ≤ turn ∧ turn ≤ 255 from ⟨ht1, ht2⟩)
  have HQ := Aside0.mk (show q < m1 by have := HZM.out; omega)
  have z1 : ((ZR : Int) == 0) = false := beq_eq_false_iff_ne.2 (by omega)
  have z2 : ((ZR : Int) != 0) = true := bne_iff_ne.2 (by omega)
  have z3 : ((ZR : Int) = 0) = False := eq_false (by omega)
  have z4 : (ZR = 0) = False := eq_false (by omega)
  clear hg hz0 ht1 ht2 hqz hc0
  go_upto_region 6 with (fail)
  clear z1 z2 z3 z4 hqe
  obtain ⟨K, hK⟩ : ∃ K, K = cutK YS q := ⟨_, rfl⟩
  have HK := Aside0.mk hK
  have HKL := Aside0.mk (show K ≤ m2 by rw [hK, HM2.out]; exact cutK_le YS q)
  have H43 := Aside0.mk (Kd.C_below H42.out HA3.out)
  have HKN := Aside0.mk (show ∀ k, k < m2 → (k < K ↔ bytesN 0 (YS.take (k + 1)) ≤ q ∧ k < NR) from fun k hk => by
    rw [hK, cutK_go HPL.out.2.1 q k (by rw [← HM2.out]; exact hk)]
    have h8 : NR = rcN YS 0 SV.zero := HRA.out.1
    rw [h8])
  have HKR := Aside0.mk (show K ≤ NR by
    have h1 : K ≤ rcN YS 0 SV.zero := by rw [hK]; unfold cutK; omega
    have h2 : NR = rcN YS 0 SV.zero := HRA.out.1
    omega)
  clear hK
  go_wp2
  go_loopw [12] (fun v12 wr => ∃ k : Nat, k ≤ K ∧ v12 = .int .i64 (k : Int) ∧ w3 = wr) (fun v12 _ => K - (intOf v12).toNat)
  case atStart => exact ⟨0, Nat.zero_le _, rfl, rfl⟩
  case round =>
    obtain ⟨k, hk, rfl, rfl⟩ := hrel
    have HKK := Aside0.mk hk
    go_upto_region 7 with (fail)
    go_cut [73] (fun v73 wc => v73 = .bool (decide (k < K)) ∧ w3 = wc)
    case first =>
      by_cases h2 : k < NR
      · have d5 : decide ((k : Int) < (NR : Int)) = true := decide_eq_true (by omega)
        have d6 : decide (k < NR) = true := decide_eq_true h2
        have hlt : k < m2 := by have := HNM.out; omega
        obtain ⟨ad, rfl, p0⟩ := Kd.at_int H43.out (k : Int) (by omega) (by omega)
        have hes : rd ES (k : Int) = ((bytesN 0 (YS.take (k + 1)) : Nat) : Int) := by
          have h9 := HPL.out.2.1.2 k (by rw [← HM2.out]; exact hlt)
          show ES.getD (Int.toNat (k : Int)) 0 = _
          rw [Int.toNat_natCast, List.getD_eq_getElem?_getD, h9]
          rfl
        rw [hes, Int.toNat_natCast] at p0
        obtain ⟨be, hbe⟩ : ∃ be, be = bytesN 0 (YS.take (k + 1)) := ⟨_, rfl⟩
        rw [← hbe] at p0
        have hkn := HKN.out k hlt
        rw [← hbe] at hkn
        have i1 : (k < m2) = True := eq_true hlt
        have i2 : ((k : Int) < (m2 : Int)) = True := eq_true (by omega)
        have HI := Aside0.mk hkn
        have HH2 := Aside0.mk h2
        clear hes hbe hkn h2
        by_cases h1 : be ≤ q
        · have d3 : decide ((be : Int) ≤ (q : Int)) = true := decide_eq_true (by omega)
          have d4 : decide (be ≤ q) = true := decide_eq_true h1
          have HV := Aside0.mk (show decide (k < K) = true from decide_eq_true (HI.out.2 ⟨h1, HH2.out⟩))
          go_wp2; go_meet
          case rel => exact ⟨by rw [HV.out], rfl⟩
        · have d3 : decide ((be : Int) ≤ (q : Int)) = false := decide_eq_false (by omega)
          have d4 : decide (be ≤ q) = false := decide_eq_false h1
          have HV := Aside0.mk (show decide (k < K) = false from decide_eq_false (fun h => h1 (HI.out.1 h).1))
          go_wp2; go_meet
          case rel => exact ⟨by rw [HV.out], rfl⟩
      · have d5 : decide ((k : Int) < (NR : Int)) = false := decide_eq_false (by omega)
        have d6 : decide (k < NR) = false := decide_eq_false h2
        have HV := Aside0.mk (show decide (k < K) = false from decide_eq_false (by have := HKR.out; omega))
        go_wp2; go_meet
        case rel => exact ⟨by rw [HV.out], rfl⟩
    obtain ⟨rfl, rfl⟩ := hcut
    by_cases hkK : k < K
    · have e1 : decide (k < K) = true := decide_eq_true hkK
      have HLT := Aside0.mk hkK
      rw [e1]
      go_wp2
      have h8 := wr_succ (m := k) (by have := HLT.out; have := HKL.out; omega)
      go_roundw
      case rel => exact ⟨k + 1, HLT.out, by rw [h8]; rfl, by first | trivial | rfl⟩
      case measure =>
        have h9 := HLT.out
        show K - (intOf (.int .i64 (wrap64 ((k : Int) + 1)))).toNat < K - (intOf (.int .i64 (k : Int))).toNat
        rw [h8]
        show K - ((k : Int) + 1).toNat < K - (k : Int).toNat
        omega
    obtain rfl : k = K := by have := HKK.out; omega
    have e1 : decide (k < k) = false := decide_eq_false (by omega)
    rw [e1]
    clear hkK e1
    go_upto_region 10 with (fail)
    go_cut [77] (fun v77 wc => v77 = .bool (decide (0 < k)) ∧ w3 = wc)
    case first =>
      go_wp2; go_meet
      case rel => exact ⟨rfl, rfl⟩
    obtain ⟨rfl, rfl⟩ := hcut
    go_upto_if 77 with (fail)
    go_cut [13] (fun v13 wc => v13 = .int .i64 ((bytesN 0 (YS.take k) : Nat) : Int) ∧ w3 = wc)
    case first =>
      by_cases h0 : 0 < k
      · have d1 : decide ((0 : Int) < (k : Int)) = true := decide_eq_true (by omega)
        have d2 : decide (0 < k) = true := decide_eq_true h0
        obtain ⟨i, hi⟩ : ∃ i, i + 1 = k := ⟨k - 1, by omega⟩
        obtain ⟨ad, rfl, p0⟩ := Kd.at_int H43.out (i : Int) (by omega) (by have := HKL.out; omega)
        have hes : rd ES (i : Int) = ((bytesN 0 (YS.take k) : Nat) : Int) := by
          have h9 := HPL.out.2.1.2 i (by rw [← HM2.out]; have := HKL.out; omega)
          rw [hi] at h9
          show ES.getD (Int.toNat (i : Int)) 0 = _
          rw [Int.toNat_natCast, List.getD_eq_getElem?_getD, h9]
          rfl
        rw [hes, Int.toNat_natCast] at p0
        have hw1 : wrap64 ((k : Int) - 1) = (i : Int) := wr_pred hi (by have := HKL.out; omega)
        have i1 : (i < m2) = True := eq_true (by have := HKL.out; omega)
        have i2 : ((i : Int) < (m2 : Int)) = True := eq_true (by have := HKL.out; omega)
        clear hes hi
        go_wp2; go_meet
        case rel => exact ⟨rfl, rfl⟩
      · have d1 : decide ((0 : Int) < (k : Int)) = false := decide_eq_false (by omega)
        have d2 : decide (0 < k) = false := decide_eq_false h0
        have hz : k = 0 := by omega
        have HZ := Aside0.mk (show bytesN 0 (YS.take k) = 0 by rw [hz, List.take_zero]; rfl)
        clear hz
        go_wp2; go_meet
        case rel => exact ⟨by rw [HZ.out]; rfl, rfl⟩
    obtain ⟨rfl, rfl⟩ := hcut
    obtain ⟨en, hen⟩ : ∃ en, en = bytesN 0 (YS.take k) := ⟨_, rfl⟩
    rw [← hen]
    obtain ⟨SG, hSG⟩ : ∃ SG, SG = (rcK YS k).1 := ⟨_, rfl⟩
    have HEN := Aside0.mk hen
    have HG := Aside0.mk (show (SG, k, en) = rcK YS k by
      have h1 := rcK_num YS q
      rw [← HK.out] at h1
      refine Prod.ext hSG (Prod.ext h1.1.symm ?_)
      rw [hen]
      exact h1.2.symm)
    have HEL := Aside0.mk (show en ≤ m1 by
      rw [hen, HM1.out, HPL.out.2.2.1]
      exact bytesN_take_le YS 0 k)
    have HSL := Aside0.mk (show SG.es.length ≤ 3000 by
      have h1 := rcGo_len (YS.take k) 0 SV.zero 0
      rw [hSG]
      show (rcGo (YS.take k) 0 SV.zero 0).1.es.length ≤ 3000
      have h2 : SV.zero.es.length = 0 := rfl
      have h3 : (YS.take k).length ≤ YS.length := by rw [List.length_take]; omega
      have h4 := HPL.out.2.2.2.2.1
      omega)
    have HSO := Aside0.mk (show ∀ e ∈ SG.es, e.f5.length ≤ 2513169434843 by
      rw [hSG]
      exact rcGo_all (fun e => e.f5.length ≤ 2513169434843) (YS.take k) 0 SV.zero 0 (fun e he => by cases he) (fun y hy => HOP.out y (HPL.out.2.2.2.2.2 y (List.mem_of_mem_take hy))))
    clear hen hSG
    obtain ⟨hq2, hCe⟩ := cutt8 (A := A1) (n := m1) (c := c1) (xs := D) en HEL.out H1.out
    have HCE := Aside0.mk hCe
    have H23 := Aside0.mk (Kd.C_below H22.out HA3.out)
    have hmm0 : (0 : Int) ≤ (m1 : Int) := by omega
    clear hCe
    go_wp2_with (with_reducible refine stop_make rfl ?_)
    refine mkn8 (C := (m1 : Int)) w3 w3.heap.size rfl rfl _ _ rfl rfl rfl (by omega) (by omega) (Below.refl _ _) (Nat.le_refl _) ?_
    intro v4 w4 ho hb hg hat
    rw [Int.toNat_natCast] at ho
    have hown := R8_own ho
    rw [List.length_replicate] at hown
    obtain ⟨g, c3, cur, rfl, hc3, hgb, hgh, hsz⟩ := own_some hown (by have := HQ.out; omega)
    have HO4 := Aside0.mk ho
    have HB4 := Aside0.mk hb
    have HC3 := Aside0.mk hc3
    have HGB := Aside0.mk hgb
    clear ho hb hg hat hown hgb hgh hsz hc3
    obtain ⟨wz, hwz⟩ : ∃ wz, wz = w3 := ⟨_, rfl⟩
    rw [← hwz] at HO4 HB4 HGB
    have HWZ := Aside0.mk hwz
    clear hwz
    go_wp2
    go_loopw [15] (fun v15 wr => ∃ i : Nat, i ≤ m1 ∧ v15 = .int .i64 (i : Int) ∧ R8 wr wz.heap.size (.slice (some ⟨g, 0, none⟩) m1 c3) (D.take i ++ List.replicate (m1 - i) 0) ∧ Below wz.heap.size wz wr) (fun v15 _ => m1 - (intOf v15).toNat)
    case atStart => exact ⟨0, Nat.zero_le _, rfl, by rw [List.take_zero, List.nil_append, Nat.sub_zero]; exact HO4.out, HB4.out⟩
    case round =>
      obtain ⟨i, hi, rfl, hrow, hbw⟩ := hrel
      by_cases hlt : i < m1
      · have d1 : decide ((i : Int) < (m1 : Int)) = true := decide_eq_true (by omega)
        have d2 : decide (i < m1) = true := decide_eq_true hlt
        have i1 : (i < m1) = True := eq_true hlt
        have i2 : ((i : Int) < (m1 : Int)) = True := eq_true (by omega)
        obtain ⟨ad, rfl, p0⟩ := Kd.at_int (Kd.C_below (show C8 wz A1 m1 D by rw [HWZ.out]; exact H23.out) hbw) (i : Int) (by omega) (by omega)
        rw [Int.toNat_natCast] at p0
        obtain ⟨g', hA, hgb, hcell, hfrz, hst⟩ := R8_stored hrow i hlt
        injection hA with hA
        injection hA with hA _ _
        subst hA
        have HST := Aside0.mk (hst (rd D (i : Int)))
        have HBW := Aside0.mk (show Below wz.heap.size wz (wr.setCell ⟨g, i, none⟩ (.int .u8 (rd D (i : Int)))) from hbw.setCell hgb _)
        have HLT := Aside0.mk hlt
        clear hst hbw hrow hgb
        go_wp2
        have h8 := wr_succ (m := i) (by have := HLT.out; omega)
        go_roundw
        case rel =>
          refine ⟨i + 1, HLT.out, rfl, ?_, HBW.out⟩
          rw [← fill_step D m1 i HLT.out HM1.out.symm]
          exact HST.out
        case measure =>
          have h9 := HLT.out
          show m1 - ((i : Int) + 1).toNat < m1 - (i : Int).toNat
          omega
      obtain rfl : i = m1 := by omega
      have d1 : decide ((i : Int) < (i : Int)) = false := decide_eq_false (by omega)
      have d2 : decide (i < i) = false := decide_eq_false (by omega)
      rw [Nat.sub_self, List.replicate_zero, List.append_nil, HM1.out, List.take_length, ← HM1.out] at hrow
      clear hlt hi
      go_upto_region 17 with (fail)
      obtain ⟨g', hA, hgb, hcell, hfrz, hst⟩ := R8_stored hrow q HQ.out
      injection hA with hA
      injection hA with hA _ _
      subst hA
      obtain ⟨tv, htv⟩ : ∃ tv, tv = Go.bits .xor .u8 (rd D (q : Int)) (turn % 256) := ⟨_, rfl⟩
      have hDok : bytesOk D = true := (Enc_ok YS 0 D HPL.out.1).1
      have hrdq := rd_byte D hDok q
      have htb := turn_byte (rd D (q : Int)) (turn % 256) hrdq (by omega) (by have := HT.out; omega)
      rw [← htv] at htb
      have HTB := Aside0.mk htb
      have HST := Aside0.mk (hst tv)
      have HBW := Aside0.mk (show Below wz.heap.size wz (wr.setCell ⟨g, q, none⟩ (.int .u8 tv)) from hbw.setCell hgb _)
      have hqi := HQ.out
      have i1 : (q < i) = True := eq_true hqi
      have i2 : ((q : Int) < (i : Int)) = True := eq_true (by omega)
      have htv' := htv.symm
      clear hst hbw hrow hgb hDok hrdq htb htv d1 d2 hqi
      go_upto_region 18 with (fail)
      go_wp2_with fail
      have hC11 : C8 (wr.setCell ⟨g, q, none⟩ (.int .u8 tv)) (some ⟨g, 0, none⟩) i (D.set q tv) := by
        have h0 := (Kd.R_reads' HST.out).2.2
        rwa [List.length_set, ← HM1.out] at h0
      refine (recover_bad _ (some ⟨g, 0, none⟩) i c3 q tv l D ES YS HF.out HM1.out.symm HC3.out HQ.out ⟨HTB.out.1, HTB.out.2.1⟩ HTB.out.2.2 hC11 (SG, k, en) (by rw [rcK_cut, ← HK.out]; exact HG.out)).mono ?_
      rintro e w5 ⟨E4, n4, c4, rfl, hn4, hr4, hb⟩
      simp only at hn4 hr4
      have HB5 := Aside0.mk (below_step HBW.out hb)
      have HN4 := Aside0.mk hn4
      have HR4 := Aside0.mk hr4
      clear hb hn4 hr4 hC11
      go_upto_region 19 with (fail)
      obtain ⟨w6, hw6⟩ : ∃ w6, w6 = w5.alloc (.cells (SG.cells E4 n4 c4) 53) := ⟨_, rfl⟩
      obtain ⟨g5, hg5⟩ : ∃ g5, g5 = w5.heap.size := ⟨_, rfl⟩
      rw [← hw6, ← hg5]
      have HA5 := Aside0.mk (show Below w5.heap.size w5 w6 by rw [hw6]; exact below_alloc (Below.refl _ _) _)
      have HG5 := Aside0.mk (show w6.heap[g5]? = some (.cells (SG.cells E4 n4 c4) 53 (0, 0)) by rw [hw6, hg5]; exact heap_alloc_new w5 _)
      have HB6 := Aside0.mk (below_step HB5.out HA5.out)
      have HR5 := Aside0.mk (Kd.R_below HR4.out HA5.out)
      have H25 := Aside0.mk (Kd.C_below (show C8 wz A1 i D by rw [HWZ.out]; exact H23.out) HB6.out)
      have HB7 := Aside0.mk (show Below w.heap.size w w6 from below_step HB3.out (by have := HB6.out; rwa [HWZ.out] at this))
      clear hw6 hg5
      go_wp2_with fail
      refine (recover_cut w6 A1 en c1 en l D ES YS HF.out (by rw [List.length_take, ← HM1.out]; have := HEL.out; omega) (by have := HEL.out; have := H1.out; omega) (HCE.out _ H25.out) (SG, k, en) (by
        have h1 := whole_end HPL.out.1 k (by rw [← HM2.out]; exact HKL.out)
        rw [← HEN.out] at h1
        rw [h1]
        exact HG.out)).mono ?_
      rintro e w8 ⟨E6, n6, c6, rfl, hn6, hr6, hb⟩
      simp only at hn6 hr6
      have HB8 := Aside0.mk hb
      have HN6 := Aside0.mk hn6
      have HR6 := Aside0.mk hr6
      clear hb hn6 hr6
      go_upto_region 20 with (fail)
      obtain ⟨w9, hw9⟩ : ∃ w9, w9 = w8.alloc (.cells (SG.cells E6 n6 c6) 53) := ⟨_, rfl⟩
      obtain ⟨g7, hg7⟩ : ∃ g7, g7 = w8.heap.size := ⟨_, rfl⟩
      rw [← hw9, ← hg7]
      have HA7 := Aside0.mk (show Below w8.heap.size w8 w9 by rw [hw9]; exact below_alloc (Below.refl _ _) _)
      have HG7 := Aside0.mk (show w9.heap[g7]? = some (.cells (SG.cells E6 n6 c6) 53 (0, 0)) by rw [hw9, hg7]; exact heap_alloc_new w8 _)
      have HB89 := Aside0.mk (below_step HB8.out HA7.out)
      have HB9 := Aside0.mk (below_step HB7.out HB89.out)
      have HG57 := Aside0.mk ((HB89.out.block g5 (blk_lt HG5.out)).trans HG5.out)
      have HC5 := Aside0.mk (show Kd.C k24 w9 E4 n4 SG.es by
        obtain ⟨A0, c0, e0, _, h0⟩ := Kd.R_reads (Kd.R_below HR5.out HB89.out)
        injection e0 with e1 e2 e3
        rw [e1, e2]
        exact h0)
      have HC7 := Aside0.mk (show Kd.C k24 w9 E6 n6 SG.es by
        obtain ⟨A0, c0, e0, _, h0⟩ := Kd.R_reads (Kd.R_below HR6.out HA7.out)
        injection e0 with e1 e2 e3
        rw [e1, e2]
        exact h0)
      obtain rfl : n4 = n6 := HN4.out.symm.trans HN6.out
      clear hw9 hg7
      have a0 := (blk_cell HG57.out 0).trans rfl
      have b0 := (blk_cell HG7.out 0).trans rfl
      have a1 := (blk_cell HG57.out 1).trans rfl
      have b1 := (blk_cell HG7.out 1).trans rfl
      have a2 := (blk_cell HG57.out 2).trans rfl
      have b2 := (blk_cell HG7.out 2).trans rfl
      have a3 := (blk_cell HG57.out 3).trans rfl
      have b3 := (blk_cell HG7.out 3).trans rfl
      have a4 := (blk_cell HG57.out 4).trans rfl
      have b4 := (blk_cell HG7.out 4).trans rfl
      have a5 := (blk_cell HG57.out 5).trans rfl
      have b5 := (blk_cell HG7.out 5).trans rfl
      have a6 := (blk_cell HG57.out 6).trans rfl
      have b6 := (blk_cell HG7.out 6).trans rfl
      have a7 := (blk_cell HG57.out 7).trans rfl
      have b7 := (blk_cell HG7.out 7).trans rfl
      have a8 := (blk_cell HG57.out 8).trans rfl
      have b8 := (blk_cell HG7.out 8).trans rfl
      have t5 : ((k : Int) == (k : Int)) = true := by simp
      have t6 : ((en : Int) == (en : Int)) = true := by simp
      have t7 : decide ((k : Int) = (k : Int)) = true := decide_eq_true rfl
      have t8 : decide ((en : Int) = (en : Int)) = true := decide_eq_true rfl
      go_wp2_with fail
      refine (saved_N SG E4 E6 n4 c4 c6 w9 HN4.out (by rw [← HN4.out]; have := HSL.out; omega) HC5.out HC7.out HSO.out).mono ?_
      rintro e w10 ⟨rfl, hb⟩
      have HB10 := Aside0.mk (below_step HB9.out hb)
      clear hb a0 b0 a1 b1 a2 b2 a3 b3 a4 b4 a5 b5 a6 b6 a7 b7 a8 b8
      go_wp2_with fail
      refine (known_C w10).mono ?_
      rintro e w11 ⟨rfl, hb⟩
      have HB11 := Aside0.mk (below_step HB10.out hb)
      clear hb
      go_wp2; go_ret
      exact ⟨rfl, HB11.out⟩
end Go.Proofs.Ytdbniihjkiecbaa.PW
namespace Go.Proofs.Ytdbniihjkiecbaa.PW
open Go.ChangeShapes Go.WideShapes Go.ChangeAt Go.RowKit Go.Deep
open Go.Proofs.YtdbniihjkiecbaaW.PrintWords Go.Proofs.YtdbniihjkiecbaaW.PrintLast Go.Proofs.YtdbniihjkiecbaaW.PrintMore
set_option linter.unusedVariables false
set_option linter.unusedSimpArgs false

/-- No list in it is heavier than the form's own reach. -/
def Wt {H : Type} (t : TypeId) (d : DataW H) : Prop := ∀ n ∈ d.weights Try.prog t, n ≤ reachBytes
theorem mem_weightsAll {H : Type} {P : Program} {e : TypeId} {d : DataW H} {n : Nat} : ∀ {l : List (DataW H)}, d ∈ l → n ∈ d.weights P e → n ∈ DataW.weightsAll P e l
  | x :: r, hd, hn => by
    simp only [DataW.weightsAll, List.mem_append]
    rcases List.mem_cons.1 hd with rfl | hd
    · exact .inl hn
    · exact .inr (mem_weightsAll hd hn)
theorem c3 : Try.prog.cellsOf 3 = 1 := by kernel_rfl
theorem c9 : Try.prog.cellsOf 9 = 1 := by kernel_rfl
theorem c22 : Try.prog.cellsOf 22 = 1 := by kernel_rfl
theorem c40 : Try.prog.cellsOf 40 = 5 := by kernel_rfl
theorem c24 : Try.prog.cellsOf 24 = 6 := by kernel_rfl
theorem c26 : Try.prog.cellsOf 26 = 3 := by kernel_rfl
theorem c28 : Try.prog.cellsOf 28 = 13 := by kernel_rfl
theorem bytes40 : Try.prog.bytesOf 40 = 56 := by kernel_rfl
instance : Inhabited S40 := ⟨⟨0, ⟨#[]⟩, ⟨#[]⟩, 0, 0⟩⟩
section
variable {H : Type} {enc : TypeId × Value → H} {W : World}
theorem row_of {α : Type} [Inhabited α] {d : Kd α} {t e : TypeId} (ht : Try.prog.underlying t = some (.slice e)) (hc : Try.prog.cellsOf e = d.sz) (good : α → Prop)
    (hopen : ∀ (n : Nat) (cs : List Value) (x : DataW H × List MemPlace), DataW.trod enc Try.prog W 0 (fun _ => true) true n e cs = some x → Wt e x.1 → ∃ y, d.K W y cs ∧ good y)
    {n : Nat} {cs : List Value} {x : DataW H × List MemPlace} (h : DataW.trod enc Try.prog W 0 (fun _ => true) true n t cs = some x) (hw : Wt t x.1) :
    ∃ A c len, ∃ l : List α, cs = [.slice A len c] ∧ l.length = len ∧ len ≤ c ∧ Kd.C d W A len l ∧ (∀ y ∈ l, good y) ∧ len * Try.prog.bytesOf e ≤ reachBytes := by
  rcases open_slice ht h with ⟨rfl, rfl⟩ | ⟨a, len, cap, m, k, D, Pl, rfl, hb, hl, hm, hmm, rfl, hx⟩
  · exact ⟨none, 0, 0, [], rfl, rfl, Nat.le_refl _, ⟨rfl, by omega, fun h => absurd h (by omega)⟩, fun y hy => by simp at hy, by simp⟩
  · have hmm' : m = cap := by simpa using hmm
    have hel : ∀ i, i < len → Wt e (D i) := by
      intro i hi q hq
      refine hw q ?_
      simp only [DataW.weights, ht, List.mem_cons, List.mem_append]
      exact .inr (.inl (mem_weightsAll (List.mem_map.2 ⟨i, List.mem_range.2 hi, rfl⟩) hq))
    have each : ∀ i, i < len → ∃ y : α, ∃ cs', W.cells? 0 (a.add (i * d.sz)) d.sz = some cs' ∧ d.K W y cs' ∧ good y := by
      intro i hi
      obtain ⟨cs', h1, h2⟩ := hx i (by omega)
      rw [hc] at h1
      obtain ⟨y, h3, h4⟩ := hopen _ _ _ h2 (hel i hi)
      exact ⟨y, cs', h1, h3, h4⟩
    obtain ⟨g, hg⟩ := choose_lt each
    have hlen : ((List.range len).map g).length = len := by simp
    have hmax : maxLen = 9223372036854775807 := rfl
    refine ⟨some a, cap, len, (List.range len).map g, rfl, hlen, hl, ⟨hlen, by omega, fun _ => ⟨a, rfl, fun j p hj => ?_⟩⟩, fun y hy => ?_, ?_⟩
    · rw [List.getElem?_map] at hj
      obtain ⟨j', hj', rfl⟩ := Option.map_eq_some_iff.1 hj
      obtain ⟨hjl, he⟩ := List.getElem?_eq_some_iff.1 hj'
      rw [List.getElem_range] at he
      subst he
      rw [List.length_range] at hjl
      obtain ⟨cs', h1, h2, h3⟩ := hg j hjl
      obtain ⟨_, hlc, hcell⟩ := World.cells?_some h1
      refine ⟨cs', hlc, h2, fun i u hu => ?_⟩
      have hi : i < cs'.length := (List.getElem?_eq_some_iff.1 hu).1
      rw [← Go.Deep.add_add, hcell i (by omega)]
      exact hu
    · obtain ⟨r, hr, rfl⟩ := List.mem_map.1 hy
      obtain ⟨cs', h1, h2, h3⟩ := hg r (List.mem_range.1 hr)
      exact h3
    · have h0 := hw ((((List.range len).map D).length + ((List.range (m - len)).map fun j => D (len + j)).length) * Try.prog.bytesOf e) (by simp only [DataW.weights, ht, List.mem_cons]; exact .inl trivial)
      refine Nat.le_trans (Nat.mul_le_mul_right _ ?_) h0
      rw [List.length_map, List.length_range]
      omega
set_option maxRecDepth 100000 in
theorem open40 (n : Nat) (cs : List Value) (x : DataW H × List MemPlace) (h : DataW.trod enc Try.prog W 0 (fun _ => true) true n 40 cs = some x) : ∃ y : S40, k40.K W y cs := by
  obtain ⟨xs, m, _, rfl, hl, hxl, hf⟩ := DataW.trod_struct Try.underlying40 h
  rw [c40] at hl
  match cs, hl, xs, hxl with
  | [v0, v1, v2, v3, v4], _, [x0, x1, x2, x3, x4], _ =>
    have e0 : DataW.trod enc Try.prog W 0 (fun _ => true) true m 3 [v0] = some x0 := by simpa [c3] using hf 0 _ rfl
    have e1 : DataW.trod enc Try.prog W 0 (fun _ => true) true m 9 [v1] = some x1 := by simpa [c9] using hf 1 _ rfl
    have e2 : DataW.trod enc Try.prog W 0 (fun _ => true) true m 9 [v2] = some x2 := by simpa [c9] using hf 2 _ rfl
    have e3 : DataW.trod enc Try.prog W 0 (fun _ => true) true m 3 [v3] = some x3 := by simpa [c3] using hf 3 _ rfl
    have e4 : DataW.trod enc Try.prog W 0 (fun _ => true) true m 3 [v4] = some x4 := by simpa [c3] using hf 4 _ rfl
    obtain ⟨a0, h0, _⟩ := DataW.trod_int Try.underlying3 e0
    obtain ⟨a1, h1, _⟩ := DataW.trod_string Try.underlying9 e1
    obtain ⟨a2, h2, _⟩ := DataW.trod_string Try.underlying9 e2
    obtain ⟨a3, h3, _⟩ := DataW.trod_int Try.underlying3 e3
    obtain ⟨a4, h4, _⟩ := DataW.trod_int Try.underlying3 e4
    injection h0 with h0 _
    injection h1 with h1 _
    injection h2 with h2 _
    injection h3 with h3 _
    injection h4 with h4 _
    rw [h0, h1, h2, h3, h4]
    exact ⟨⟨a0, a1, a2, a3, a4⟩, k40_mk W _⟩
theorem Wt.agg {t : TypeId} {fs : Array Field} {parts : List (DataW H)} (h : Wt t (.agg parts)) (ht : Try.prog.underlying t = some (.struct fs)) {j : Nat} {f : Field} {d : DataW H} (hf : fs[j]? = some f) (hd : parts[j]? = some d) : Wt f.type d := by
  intro n hn
  refine h n ?_
  simp only [DataW.weights, ht]
  exact DataW.weights_mem_each (j := j) (by rw [List.getElem?_map, Array.getElem?_toList, hf]; rfl) hd n hn
set_option maxRecDepth 100000 in
theorem open24 (n : Nat) (cs : List Value) (x : DataW H × List MemPlace) (h : DataW.trod enc Try.prog W 0 (fun _ => true) true n 24 cs = some x) (hw : Wt 24 x.1) :
    ∃ s v k se rq A len c, ∃ l : List S40, cs = [.int .i64 s, .int .i64 v, .int .i64 k, .int .i64 se, .int .i64 rq, .slice A len c] ∧ l.length = len ∧ len ≤ c ∧ Kd.C k40 W A len l ∧ len ≤ 2513169434843 := by
  obtain ⟨xs, m, _, rfl, hl, hxl, hf⟩ := DataW.trod_struct Try.underlying24 h
  rw [c24] at hl
  match cs, hl, xs, hxl with
  | [v0, v1, v2, v3, v4, v5], _, [x0, x1, x2, x3, x4, x5], _ =>
    have e0 : DataW.trod enc Try.prog W 0 (fun _ => true) true m 3 [v0] = some x0 := by simpa [c3] using hf 0 _ rfl
    have e1 : DataW.trod enc Try.prog W 0 (fun _ => true) true m 3 [v1] = some x1 := by simpa [c3] using hf 1 _ rfl
    have e2 : DataW.trod enc Try.prog W 0 (fun _ => true) true m 3 [v2] = some x2 := by simpa [c3] using hf 2 _ rfl
    have e3 : DataW.trod enc Try.prog W 0 (fun _ => true) true m 3 [v3] = some x3 := by simpa [c3] using hf 3 _ rfl
    have e4 : DataW.trod enc Try.prog W 0 (fun _ => true) true m 3 [v4] = some x4 := by simpa [c3] using hf 4 _ rfl
    have e5 : DataW.trod enc Try.prog W 0 (fun _ => true) true m 22 [v5] = some x5 := by simpa [c22] using hf 5 _ rfl
    have hw5 : Wt 22 x5.1 := Wt.agg (j := 5) hw Try.underlying24 rfl rfl
    obtain ⟨a0, h0, _⟩ := DataW.trod_int Try.underlying3 e0
    obtain ⟨a1, h1, _⟩ := DataW.trod_int Try.underlying3 e1
    obtain ⟨a2, h2, _⟩ := DataW.trod_int Try.underlying3 e2
    obtain ⟨a3, h3, _⟩ := DataW.trod_int Try.underlying3 e3
    obtain ⟨a4, h4, _⟩ := DataW.trod_int Try.underlying3 e4
    obtain ⟨A, c, len, l, h5, hll, hlc, hC, _, hb⟩ := row_of (d := k40) Try.underlying22 c40 (fun _ => True) (fun n cs x h _ => by obtain ⟨y, hy⟩ := open40 n cs x h; exact ⟨y, hy, trivial⟩) e5 hw5
    rw [bytes40] at hb
    injection h0 with h0 _
    injection h1 with h1 _
    injection h2 with h2 _
    injection h3 with h3 _
    injection h4 with h4 _
    injection h5 with h5 _
    rw [h0, h1, h2, h3, h4, h5]
    have : reachBytes = 140737488351232 := rfl
    exact ⟨a0, a1, a2, a3, a4, A, len, c, l, rfl, hll, hlc, hC, by omega⟩
set_option maxRecDepth 100000 in
theorem open26 (n : Nat) (cs : List Value) (x : DataW H × List MemPlace) (h : DataW.trod enc Try.prog W 0 (fun _ => true) true n 26 cs = some x) : ∃ a b c, cs = [.int .i64 a, .int .i64 b, .int .i64 c] := by
  obtain ⟨xs, m, _, rfl, hl, hxl, hf⟩ := DataW.trod_struct Try.underlying26 h
  rw [c26] at hl
  match cs, hl, xs, hxl with
  | [v0, v1, v2], _, [x0, x1, x2], _ =>
    have e0 : DataW.trod enc Try.prog W 0 (fun _ => true) true m 3 [v0] = some x0 := by simpa [c3] using hf 0 _ rfl
    have e1 : DataW.trod enc Try.prog W 0 (fun _ => true) true m 3 [v1] = some x1 := by simpa [c3] using hf 1 _ rfl
    have e2 : DataW.trod enc Try.prog W 0 (fun _ => true) true m 3 [v2] = some x2 := by simpa [c3] using hf 2 _ rfl
    obtain ⟨a0, h0, _⟩ := DataW.trod_int Try.underlying3 e0
    obtain ⟨a1, h1, _⟩ := DataW.trod_int Try.underlying3 e1
    obtain ⟨a2, h2, _⟩ := DataW.trod_int Try.underlying3 e2
    injection h0 with h0 _
    injection h1 with h1 _
    injection h2 with h2 _
    rw [h0, h1, h2]
    exact ⟨a0, a1, a2, rfl⟩
set_option maxRecDepth 100000 in
/-- WHAT A RECORD READS AS. -/
theorem open28 {n : Nat} {cs : List Value} {x : DataW H × List MemPlace} (h : DataW.trod enc Try.prog W 0 (fun _ => true) true n 28 cs = some x) (hw : Wt 28 x.1) :
    ∃ kd s v k se rq A len c vn vp vb st of, ∃ (y : ByteArray) (l : List S40), cs = [.int .i64 kd, .int .i64 s, .int .i64 v, .int .i64 k, .int .i64 se, .int .i64 rq, .slice A len c, .int .i64 vn, .int .i64 vp, .int .i64 vb, .int .i64 st, .int .i64 of, .string y] ∧ l.length = len ∧ len ≤ c ∧ Kd.C k40 W A len l ∧ len ≤ 2513169434843 := by
  obtain ⟨xs, m, _, rfl, hl, hxl, hf⟩ := DataW.trod_struct Try.underlying28 h
  rw [c28] at hl
  match cs, hl, xs, hxl with
  | [v0, v1, v2, v3, v4, v5, v6, v7, v8, v9, v10, v11, v12], _, [x0, x1, x2, x3, x4, x5], _ =>
    have e0 : DataW.trod enc Try.prog W 0 (fun _ => true) true m 3 [v0] = some x0 := by simpa [c3] using hf 0 _ rfl
    have e1 : DataW.trod enc Try.prog W 0 (fun _ => true) true m 24 [v1, v2, v3, v4, v5, v6] = some x1 := by simpa [c24] using hf 1 _ rfl
    have e2 : DataW.trod enc Try.prog W 0 (fun _ => true) true m 26 [v7, v8, v9] = some x2 := by simpa [c26] using hf 2 _ rfl
    have e3 : DataW.trod enc Try.prog W 0 (fun _ => true) true m 3 [v10] = some x3 := by simpa [c3] using hf 3 _ rfl
    have e4 : DataW.trod enc Try.prog W 0 (fun _ => true) true m 3 [v11] = some x4 := by simpa [c3] using hf 4 _ rfl
    have e5 : DataW.trod enc Try.prog W 0 (fun _ => true) true m 9 [v12] = some x5 := by simpa [c9] using hf 5 _ rfl
    have hw1 : Wt 24 x1.1 := Wt.agg (j := 1) hw Try.underlying28 rfl rfl
    obtain ⟨kd, h0, _⟩ := DataW.trod_int Try.underlying3 e0
    obtain ⟨s, v, k, se, rq, A, len, c, l, h1, hll, hlc, hC, hb⟩ := open24 _ _ _ e1 hw1
    obtain ⟨vn, vp, vb, h2⟩ := open26 _ _ _ e2
    obtain ⟨st, h3, _⟩ := DataW.trod_int Try.underlying3 e3
    obtain ⟨of, h4, _⟩ := DataW.trod_int Try.underlying3 e4
    obtain ⟨y, h5, _⟩ := DataW.trod_string Try.underlying9 e5
    injection h0 with h0 _
    injection h3 with h3 _
    injection h4 with h4 _
    injection h5 with h5 _
    simp only [List.cons.injEq, and_true] at h1 h2
    obtain ⟨rfl, rfl, rfl, rfl, rfl, rfl⟩ := h1
    obtain ⟨rfl, rfl, rfl⟩ := h2
    rw [h0, h3, h4, h5]
    exact ⟨kd, s, v, k, se, rq, A, len, c, vn, vp, vb, st, of, y, l, rfl, hll, hlc, hC, hb⟩
end
end Go.Proofs.Ytdbniihjkiecbaa.PW
namespace Go.Proofs.Ytdbniihjkiecbaa.PW
open Go.ChangeShapes Go.WideShapes Go.ChangeAt Go.RowKit Go.Deep
open Go.Proofs.YtdbniihjkiecbaaW.PrintWords Go.Proofs.YtdbniihjkiecbaaW.PrintLast Go.Proofs.YtdbniihjkiecbaaW.PrintMore
set_option linter.unusedVariables false
set_option linter.unusedSimpArgs false

instance : Inhabited JR := ⟨zJ⟩
theorem bytes28 : Try.prog.bytesOf 28 = 128 := by kernel_rfl
section
variable {H : Type} {enc : TypeId × Value → H} {W : World}
/-- WHAT A LIST OF RECORDS READS AS. -/
theorem open_records {a : Option Addr} {len cap : Nat} {d : DataW H} {p : List MemPlace} (h0 : DataW.Trod enc Try.prog W 0 (fun _ => true) true 43 (.slice a len cap) d p) (hw : Wt 43 d) :
    ∃ L : List JR, L.length = len ∧ Kd.C kJ W a len L ∧ len ≤ cap ∧ (∀ y ∈ L, y.ops.length ≤ 2513169434843) ∧ len ≤ 2513169434843 := by
  obtain ⟨fuel, hf⟩ := h0
  obtain ⟨A, c, n, L, h1, h2, h3, h4, h5, h6⟩ := row_of (d := kJ) u43 c28 (fun y => y.ops.length ≤ 2513169434843) (fun n cs x h hw => by
    obtain ⟨kd, s, v, k, se, rq, A, len, c, vn, vp, vb, st, of, y, l, rfl, hl, hc, hC, hb⟩ := open28 h hw
    subst hl
    exact ⟨⟨kd, s, v, k, se, rq, l, vn, vp, vb, st, of, y⟩, kJ_mk W ⟨kd, s, v, k, se, rq, l, vn, vp, vb, st, of, y⟩ hc hC, hb⟩) hf hw
  rw [bytes28] at h6
  injection h1 with h1 _
  injection h1 with e1 e2 e3
  subst e1
  subst e2
  subst e3
  have : reachBytes = 140737488351232 := rfl
  exact ⟨L, h2, h4, h3, h5, by omega⟩
end
end Go.Proofs.Ytdbniihjkiecbaa.PW
