/- Words, contracts and walks of the law JournalGoes, in one text. -/
import Derived.Test.YtdbniihjkiecbaaX1
import Derived.Test.YtdbniihjkiecbaaPWx14
import Derived.Test.YtdbniihjkiecbaaPWx16
namespace Go.Proofs.Ytdbniihjkiecbaa.PW
open Go.RowKit Go.Proofs.YtdbniihjkiecbaaW.PrintWords Go.Proofs.YtdbniihjkiecbaaW.PrintLast Go.Proofs.YtdbniihjkiecbaaW.PrintMore
set_option linter.unusedVariables false
set_option linter.unusedSimpArgs false

theorem four_N (A : Option Addr) (n c : Nat) (l : List Int) (r : Int) (w : World) (hn : l.length = n) (hc : n ≤ c) (hC : C8 w A n l) (h : journal_four.f l = some r) :
    Calls Try.prog 83 #[.slice A n c] w fun e w' => e = .returned (.int .i64 r) ∧ Below w.heap.size w w' := by
  subst hn
  refine (journal_four.calls A c l r w hC hc h).mono ?_
  rintro e w' ⟨rfl, hd⟩
  exact ⟨rfl, hd.below⟩
theorem leaves_congr {P : Program} {fn : Func} {t t' : Array Value} {R : Ending → World → Prop} (h : results fn t = results fn t') : ∀ (ds : List Deferred) (u : FrameMode) (w : World), Leaves P fn t R ds u w = Leaves P fn t' R ds u w := by
  intro ds
  induction ds with
  | nil =>
    intro u w
    cases u <;> simp [Leaves, h]
  | cons d ds ih =>
    intro u w
    simp only [Leaves, ih]
theorem hq71 {K K1 : Act → World → Prop} {R : Ending → World → Prop} {N : Option Tmp} {v : Value} (hN : N ≠ some 4 ∧ N ≠ some 5 ∧ N ≠ some 6) (c : List PanicEntry) (a : Act) (w : World) (h : Exit.then K (Exit.then K1 (bodyPostD Try.prog Try.f71 R)) (.panic c) (a.put N v) w) :
    Exit.then K (Exit.then K1 (bodyPostD Try.prog Try.f71 R)) (.panic c) a w := by
  cases N with
  | none => exact h
  | some m =>
    have h' : Leaves Try.prog Try.f71 (a.tmps.setIfInBounds m v) R a.defers (.panicking c) w := h
    have e : results Try.f71 (a.tmps.setIfInBounds m v) = results Try.f71 a.tmps := by
      have h4 : (a.tmps.setIfInBounds m v)[4]? = a.tmps[4]? := Array.getElem?_setIfInBounds_ne (fun e => hN.1 (by rw [e]))
      have h5 : (a.tmps.setIfInBounds m v)[5]? = a.tmps[5]? := Array.getElem?_setIfInBounds_ne (fun e => hN.2.1 (by rw [e]))
      have h6 : (a.tmps.setIfInBounds m v)[6]? = a.tmps[6]? := Array.getElem?_setIfInBounds_ne (fun e => hN.2.2 (by rw [e]))
      simp [results, Try.results71, h4, h5, h6]
    show Leaves Try.prog Try.f71 a.tmps R a.defers (.panicking c) w
    rw [← leaves_congr e]
    exact h'
theorem hq71a {K : Act → World → Prop} {R : Ending → World → Prop} {N : Option Tmp} {v : Value} (hN : N ≠ some 4 ∧ N ≠ some 5 ∧ N ≠ some 6) (c : List PanicEntry) (a : Act) (w : World) (h : Exit.then K (bodyPostD Try.prog Try.f71 R) (.panic c) (a.put N v) w) :
    Exit.then K (bodyPostD Try.prog Try.f71 R) (.panic c) a w := hq71 (K := K) (K1 := K) hN c a w h
/-- A struct stored into a block that is known whole, as an arm of a drawn region. -/
theorem store_arm {oi : Oper} {a : Act} {w : World} {K : Act → World → Prop} {Q : Exit → Act → World → Prop} (t : TypeId) (p x : Operand) (hop : oi.op = .store t p x) {ops : Array Oper} (hw : Region.wanted oi (yielded ops a.tmps) = true) (hN : oi.dst = none) {q i e : Nat} {cur cur' : Array Value} (cs : List Value)
    (haddr : a.eval p = .pointer (some ⟨q, i, none⟩)) (hx : a.eval x = .agg cs.toArray) (hc : (Value.agg cs.toArray).cells.toList = cs) (ht : (Try.prog.info? t).map (·.size) = some cs.length) (h1 : ∀ u ∈ cs, u.oneCell' = true) (hh : w.heap[q]? = some (.cells cur e (0, 0))) (hfit : i + cs.length ≤ cur.size)
    (hcur : cur.toList.take i ++ cs ++ cur.toList.drop (i + cs.length) = cur'.toList) (h : ∀ w1, w1.heap[q]? = some (.cells cur' e (0, 0)) → w.grownBy w1 (some q) → K a w1) :
    if Region.wanted oi (yielded ops a.tmps) = true then Oper.wp Try.prog oi a w K Q else K (a.put none undef) w := by
  obtain ⟨cur2, k1, k2, k3⟩ := setCells_row cs i w cur hh hfit
  have e2 : cur2 = cur' := by
    apply Array.toList_inj.1
    rw [k3, hcur]
  subst e2
  obtain ⟨s1, s2, s3, s4⟩ := setCells_same q cs i w
  have hrun := run_store_run (P := Try.prog) t (.agg cs.toArray) cs hh hc ht hfit h1
  refine skip_ hw hN ?_ (h _ k1 ⟨s1, s2, s3, Nat.le_of_eq s4.symm, fun k _ hk => setCells_far cs i k (fun e => hk (by rw [e]))⟩)
  unfold execOp
  simp only [hop, haddr, hx, Sem.run_bind, Sem.run_pure, Result.andThen_ok, hrun]
theorem cutm8 {A : Option Addr} {n c : Nat} {xs : List Int} (j k : Nat) (hj : j ≤ k) (hk : k ≤ n) (hc : n ≤ c) :
    ∃ A', (∀ W : World, (Instr.slice 29 (.slice A n c) (some (.int .i64 (j : Int))) (some (.int .i64 (k : Int))) none).run Try.prog W = .ok (.slice A' (k - j) (c - j)) W) ∧ ∀ W : World, C8 W A n xs → C8 W A' (k - j) ((xs.take k).drop j) := by
  obtain ⟨i0, hi, hzz⟩ := Option.map_eq_some_iff.1 info5'
  simp only [Prod.mk.injEq] at hzz
  have hrun := cut_mid (P := Try.prog) 29 5 .i64 .i64 Try.underlying29 hi 1 hzz.2.1 A n c (j : Int) (k : Int) (by omega) (by omega) (by omega) hc
  refine ⟨_, hrun, fun W HR => ?_⟩
  obtain rfl : xs.length = n := HR.1
  have hd := Kd.C_mid (lo := j) (hi := k) HR hj hk hc
  rw [List.length_drop, List.length_take, Nat.min_eq_left hk] at hd
  rw [Int.toNat_natCast]
  exact hd
theorem wr_sub20 {n : Nat} (h0 : 20 ≤ n) (h : n ≤ 1000000000000) : wrap64 ((n : Int) - 20) = (n : Int) - 20 := by unfold wrap64; omega
theorem wr_kd {k : Int} (h0 : 0 ≤ k) (h : k < 256) : wrap64 k = k := by unfold wrap64; omega
theorem wr_add16 {n : Nat} (h : n ≤ 1000000000000) : wrap64 (16 + (n : Int)) = 16 + (n : Int) := by unfold wrap64; omega
theorem wr_add20 {n : Nat} (h : n ≤ 1000000000000) : wrap64 ((n : Int) + 20) = (n : Int) + 20 := by unfold wrap64; omega
set_option maxHeartbeats 16000000 in
set_option maxRecDepth 100000 in
theorem read_ok (w : World) (A : Option Addr) (n c : Nat) (l : List Int) (sq : Int) (m : Nat) (kd s v k se rq : Int) (l2 : List S40) (vn vp vb st of : Int) (x : ByteArray) (r1 : List Int)
    (hn : l.length = n) (hc : n ≤ c) (hmx : n ≤ 1000000000000) (hok : bytesOk l = true) (hC : C8 w A n l)
    (h20 : 20 + m ≤ n) (h0 : rd l 0 = 74) (h1 : rd l 1 = 82) (h2 : rd l 2 = kd) (h3 : rd l 3 = 0)
    (h4 : journal_four.f (l.drop 4) = some sq) (h8 : journal_four.f (l.drop 8) = some (m : Int)) (h12 : journal_four.f (l.drop 12) = some (sumW (l.take 12))) (h16 : journal_four.f (l.drop (16 + m)) = some (sumW (l.take (16 + m))))
    (hE : recEnc sq kd s v k se rq l2 vn vp vb st of x = (r1, 0))
    (hrec : ∀ (w1 : World) (rb : Nat) (A' : Option Addr) (c' : Nat), Below w.heap.size w w1 → w.heap.size ≤ rb → m ≤ c' → w1.heap[rb]? = some (.cells #[.slice A' m c', .int .i64 0] 147 (0, 0)) → C8 w A' m ((l.take (16 + m)).drop 16) →
      Calls Try.prog 84 #[.pointer (some ⟨rb, 0, none⟩), .int .i64 kd] w1 fun e w' => ∃ B nb cb, e = .returned (.agg (recCells kd s v k se rq B nb cb vn vp vb st of x)) ∧ l2.length = nb ∧ R40 w' w1.heap.size (.slice B nb cb) l2 ∧ Frm w1 w' (fun k => k = rb)) :
    Calls Try.prog 71 #[.slice A n c, .int .i64 sq] w fun e w' => ∃ B nb cb, e = .returned (.tuple #[.agg (recCells kd s v k se rq B nb cb vn vp vb st of x), .int .i64 ((m : Int) + 20), .bool true]) ∧ l2.length = nb ∧ R40 w' w.heap.size (.slice B nb cb) l2 ∧ Below w.heap.size w w' := by
  have hu28 := Try.underlying28
  have hu26 := Try.underlying26
  have hu24 := Try.underlying24
  have hu147 := Try.underlying147
  have hmf : ∀ (fn : Fn) (first cap : Array Value) (w : World), (Instr.makeFunc fn first cap).run Try.prog w = .ok (.func fn first cap) w := fun _ _ _ _ => rfl
  have hkd := wr_kd (bytesOk_rd hok 2 (by omega)).1 (bytesOk_rd hok 2 (by omega)).2
  replace hkd : wrap64 kd = kd := by rw [← h2]; exact hkd
  have HKD := Aside0.mk hkd
  clear hkd
  obtain ⟨ad, rfl, hb0⟩ := Kd.at_int hC 0 (by decide) (by omega)
  obtain ⟨ad1, e1, hb1⟩ := Kd.at_int hC 1 (by decide) (by omega)
  cases e1
  obtain ⟨ad1, e1, hb2⟩ := Kd.at_int hC 2 (by decide) (by omega)
  cases e1
  obtain ⟨ad1, e1, hb3⟩ := Kd.at_int hC 3 (by decide) (by omega)
  cases e1
  rw [h0] at hb0
  rw [h1] at hb1
  rw [h2] at hb2
  rw [h3] at hb3
  obtain ⟨A4, hc4, hC4⟩ := cutf8 (A := some ad) (n := n) (c := c) (xs := l) 4 (by omega) hc
  obtain ⟨A8, hc8, hC8⟩ := cutf8 (A := some ad) (n := n) (c := c) (xs := l) 8 (by omega) hc
  obtain ⟨A12, hc12, hC12⟩ := cutf8 (A := some ad) (n := n) (c := c) (xs := l) 12 (by omega) hc
  obtain ⟨ht12, hCt12⟩ := cutt8 (A := some ad) (n := n) (c := c) (xs := l) 12 (by omega) hc
  replace hc4 : ∀ (W : World), (Instr.slice 29 (.slice (some ad) n c) (some (.int .i64 4)) none none).run Try.prog W = .ok (.slice A4 (n - 4) (c - 4)) W := hc4
  replace hc8 : ∀ (W : World), (Instr.slice 29 (.slice (some ad) n c) (some (.int .i64 8)) none none).run Try.prog W = .ok (.slice A8 (n - 8) (c - 8)) W := hc8
  replace hc12 : ∀ (W : World), (Instr.slice 29 (.slice (some ad) n c) (some (.int .i64 12)) none none).run Try.prog W = .ok (.slice A12 (n - 12) (c - 12)) W := hc12
  replace ht12 : ∀ (W : World), (Instr.slice 29 (.slice (some ad) n c) none (some (.int .i64 12)) none).run Try.prog W = .ok (.slice (some ad) 12 c) W := ht12
  replace hb0 : w.cell? ad = some (.int .u8 74) := by rw [show ad.add (Int.toNat 0) = ad from by simp [Addr.add]] at hb0; exact hb0
  replace hb1 : w.cell? ⟨ad.block, ad.off + 1, none⟩ = some (.int .u8 82) := by rw [show ad.add (Int.toNat 1) = ⟨ad.block, ad.off + 1, none⟩ from by simp [Addr.add]] at hb1; exact hb1
  replace hb2 : w.cell? ⟨ad.block, ad.off + 2, none⟩ = some (.int .u8 kd) := by rw [show ad.add (Int.toNat 2) = ⟨ad.block, ad.off + 2, none⟩ from by simp [Addr.add]] at hb2; exact hb2
  replace hb3 : w.cell? ⟨ad.block, ad.off + 3, none⟩ = some (.int .u8 0) := by rw [show ad.add (Int.toNat 3) = ⟨ad.block, ad.off + 3, none⟩ from by simp [Addr.add]] at hb3; exact hb3
  have HN := Aside0.mk hn
  have HCC := Aside0.mk hc
  have HC := Aside0.mk hC
  have HOK := Aside0.mk hok
  have HM := Aside0.mk hmx
  have H20 := Aside0.mk h20
  have HC4 := Aside0.mk (hC4 w hC)
  have HC8 := Aside0.mk (hC8 w hC)
  have HC12 := Aside0.mk (hC12 w hC)
  have HCT := Aside0.mk (hCt12 w hC)
  have H4 := Aside0.mk h4
  have H8 := Aside0.mk h8
  have H12 := Aside0.mk h12
  have H16 := Aside0.mk h16
  have HE := Aside0.mk hE
  have HREC := Aside0.mk hrec
  clear hn hc hmx hok hC h20 hC4 hC8 hC12 hCt12 h4 h8 h12 h16 hE hrec h0 h1 h2 h3
  have hd20 : decide ((n : Int) < 20) = false := decide_eq_false (by have := H20.out; omega)
  have hd21 : decide (n < 20) = false := decide_eq_false (by have := H20.out; omega)
  have i0 : (0 < n) = True := eq_true (by have := H20.out; omega)
  have i1 : (1 < n) = True := eq_true (by have := H20.out; omega)
  have i2 : (2 < n) = True := eq_true (by have := H20.out; omega)
  have i3 : (3 < n) = True := eq_true (by have := H20.out; omega)
  have j0 : ((0 : Int) < (n : Int)) = True := eq_true (by have := H20.out; omega)
  have j1 : ((1 : Int) < (n : Int)) = True := eq_true (by have := H20.out; omega)
  have j2 : ((2 : Int) < (n : Int)) = True := eq_true (by have := H20.out; omega)
  have j3 : ((3 : Int) < (n : Int)) = True := eq_true (by have := H20.out; omega)
  go_enter_defers Try.func71, Try.ntmps71
  go_wp2_with fail
  obtain ⟨p4, hp4⟩ : ∃ p4, p4 = w.heap.size := ⟨_, rfl⟩
  obtain ⟨p5, hp5⟩ : ∃ p5, p5 = w.heap.size + 1 := ⟨_, rfl⟩
  obtain ⟨p6, hp6⟩ : ∃ p6, p6 = w.heap.size + 1 + 1 := ⟨_, rfl⟩
  obtain ⟨wa, hwa⟩ : ∃ wa, wa = w.alloc (.cells #[.int .i64 0, .int .i64 0, .int .i64 0, .int .i64 0, .int .i64 0, .int .i64 0, .slice none 0 0, .int .i64 0, .int .i64 0, .int .i64 0, .int .i64 0, .int .i64 0, .string ⟨#[]⟩] 28) := ⟨_, rfl⟩
  obtain ⟨wb, hwb⟩ : ∃ wb, wb = wa.alloc (.cells #[.int .i64 0] 3) := ⟨_, rfl⟩
  obtain ⟨wc, hwc⟩ : ∃ wc, wc = wb.alloc (.cells #[.bool false] 4) := ⟨_, rfl⟩
  rw [← hwa, ← hwb, ← hwc, ← hp6, ← hp5, ← hp4]
  have hza : wa.heap.size = w.heap.size + 1 := by rw [hwa]; simp
  have hzb : wb.heap.size = w.heap.size + 1 + 1 := by rw [hwb, ← hza]; simp
  have hba : Below wa.heap.size wa wb := by rw [hwb]; exact below_alloc (Below.refl _ _) _
  have hbb : Below wb.heap.size wb wc := by rw [hwc]; exact below_alloc (Below.refl _ _) _
  have HB := Aside0.mk (show Below w.heap.size w wc from below_step (below_step (by rw [hwa]; exact below_alloc (Below.refl _ _) _) hba) hbb)
  have HP4 := Aside0.mk (show wc.heap[p4]? = some (.cells #[.int .i64 0, .int .i64 0, .int .i64 0, .int .i64 0, .int .i64 0, .int .i64 0, .slice none 0 0, .int .i64 0, .int .i64 0, .int .i64 0, .int .i64 0, .int .i64 0, .string ⟨#[]⟩] 28 (0, 0)) by
    refine (hbb.block p4 (by omega)).trans ((hba.block p4 (by omega)).trans ?_)
    rw [hwa, hp4]; exact heap_alloc_new w _)
  have HP5 := Aside0.mk (show wc.heap[p5]? = some (.cells #[.int .i64 0] 3 (0, 0)) by
    refine (hbb.block p5 (by omega)).trans ?_
    rw [hwb, hp5, ← hza]; exact heap_alloc_new wa _)
  have HP6 := Aside0.mk (show wc.heap[p6]? = some (.cells #[.bool false] 4 (0, 0)) by rw [hwc, hp6, ← hzb]; exact heap_alloc_new wb _)
  have HPW := Aside0.mk (show w.heap.size ≤ p4 ∧ p4 < p5 ∧ p5 < p6 by omega)
  clear hp4 hp5 hp6 hwa hwb hwc hza hzb hba hbb
  have HB0 := Aside0.mk (pw_cell_below (below_drew1 HB.out) hb0)
  have HB1 := Aside0.mk (pw_cell_below (below_drew1 HB.out) hb1)
  have HB2 := Aside0.mk hb2
  have HB3 := Aside0.mk (pw_cell_below (below_drew1 HB.out) hb3)
  clear hb0 hb1 hb2 hb3
  have c0 := HB0.out
  have c1 := HB1.out
  have c3 := HB3.out
  have HD := Aside0.mk (below_drew1 HB.out)
  refine start_ (n := 37) (S := fun w' => w'.cell? ad = some (.int .u8 74) ∧ w'.cell? ⟨ad.block, ad.off + 1, none⟩ = some (.int .u8 82) ∧ w'.cell? ⟨ad.block, ad.off + 3, none⟩ = some (.int .u8 0)) (ds := []) bq83 (by kernel_rfl) rfl rfl ⟨c0, c1, c3⟩ (fun hHeld => ?_)
  refine pure_ (i := 0) (N := some 11) (v := ?_) (a' := ?_) bq84 rfl rfl (by kernel_rfl) (hq71 (by decide)) (Or.inl ⟨by rfl, ?_⟩) ?_ ?_
  rotate_left
  · intro w'; go_simp; with_reducible rfl
  rotate_left
  · simp only [sxx]; rfl
  refine pure_ (i := 1) (N := some 12) (v := ?_) (a' := ?_) bq85 rfl rfl (by kernel_rfl) (hq71 (by decide)) (Or.inl ⟨by rfl, ?_⟩) ?_ ?_
  rotate_left
  · intro w'; go_simp; with_reducible rfl
  rotate_left
  · simp only [sxx]; rfl
  refine pure_ (i := 2) (N := some 13) (v := ?_) (a' := ?_) bq86 rfl rfl (by kernel_rfl) (hq71 (by decide)) (Or.inl ⟨by rfl, ?_⟩) ?_ ?_
  rotate_left
  · intro w'; go_simp; with_reducible rfl
  rotate_left
  · simp only [sxx]; rfl
  refine pure_ (i := 3) (N := some 14) (v := ?_) (a' := ?_) bq87 rfl rfl (by kernel_rfl) (hq71 (by decide)) (Or.inl ⟨by rfl, ?_⟩) ?_ ?_
  rotate_left
  · intro w'; go_simp; with_reducible rfl
  rotate_left
  · simp only [sxx]; rfl
  refine pure_ (i := 4) (N := some 15) (v := ?_) (a' := ?_) bq88 rfl rfl (by kernel_rfl) (hq71 (by decide)) (Or.inl ⟨by rfl, ?_⟩) ?_ ?_
  rotate_left
  · intro w'; go_simp; with_reducible rfl
  rotate_left
  · simp only [sxx]; rfl
  refine pure_ (i := 5) (N := some 16) (v := ?_) (a' := ?_) bq89 rfl rfl (by kernel_rfl) (hq71 (by decide)) (Or.inl ⟨by rfl, ?_⟩) ?_ ?_
  rotate_left
  · intro w'; go_simp; with_reducible rfl
  rotate_left
  · simp only [sxx]; rfl
  refine take_ (i := 6) (N := some 17) (v := ?_) (a' := ?_) bq90 rfl rfl (by kernel_rfl) (hq71 (by decide)) (Or.inl ⟨by rfl, ?_⟩) hHeld ?_ ?_
  rotate_left
  · rintro w' ⟨s0, s1, s2⟩
    go_simp; with_reducible rfl
  rotate_left
  · simp only [sxx]; rfl
  refine pure_ (i := 7) (N := some 18) (v := ?_) (a' := ?_) bq91 rfl rfl (by kernel_rfl) (hq71 (by decide)) (Or.inl ⟨by rfl, ?_⟩) ?_ ?_
  rotate_left
  · intro w'; go_simp; with_reducible rfl
  rotate_left
  · simp only [sxx]; rfl
  refine pure_ (i := 8) (N := some 19) (v := ?_) (a' := ?_) bq92 rfl rfl (by kernel_rfl) (hq71 (by decide)) (Or.inl ⟨by rfl, ?_⟩) ?_ ?_
  rotate_left
  · intro w'; go_simp; with_reducible rfl
  rotate_left
  · simp only [sxx]; rfl
  refine pure_ (i := 9) (N := some 20) (v := ?_) (a' := ?_) bq93 rfl rfl (by kernel_rfl) (hq71 (by decide)) (Or.inl ⟨by rfl, ?_⟩) ?_ ?_
  rotate_left
  · intro w'; go_simp; with_reducible rfl
  rotate_left
  · simp only [sxx]; rfl
  refine pure_ (i := 10) (N := some 21) (v := ?_) (a' := ?_) bq94 rfl rfl (by kernel_rfl) (hq71 (by decide)) (Or.inl ⟨by rfl, ?_⟩) ?_ ?_
  rotate_left
  · intro w'; go_simp; with_reducible rfl
  rotate_left
  · simp only [sxx]; rfl
  refine pure_ (i := 11) (N := some 22) (v := ?_) (a' := ?_) bq95 rfl rfl (by kernel_rfl) (hq71 (by decide)) (Or.inl ⟨by rfl, ?_⟩) ?_ ?_
  rotate_left
  · intro w'; go_simp; with_reducible rfl
  rotate_left
  · simp only [sxx]; rfl
  refine take_ (i := 12) (N := some 23) (v := ?_) (a' := ?_) bq96 rfl rfl (by kernel_rfl) (hq71 (by decide)) (Or.inl ⟨by rfl, ?_⟩) hHeld ?_ ?_
  rotate_left
  · rintro w' ⟨s0, s1, s2⟩
    go_simp; with_reducible rfl
  rotate_left
  · simp only [sxx]; rfl
  refine pure_ (i := 13) (N := some 24) (v := ?_) (a' := ?_) bq97 rfl rfl (by kernel_rfl) (hq71 (by decide)) (Or.inl ⟨by rfl, ?_⟩) ?_ ?_
  rotate_left
  · intro w'; go_simp; with_reducible rfl
  rotate_left
  · simp only [sxx]; rfl
  refine pure_ (i := 14) (N := some 25) (v := ?_) (a' := ?_) bq98 rfl rfl (by kernel_rfl) (hq71 (by decide)) (Or.inl ⟨by rfl, ?_⟩) ?_ ?_
  rotate_left
  · intro w'; go_simp; with_reducible rfl
  rotate_left
  · simp only [sxx]; rfl
  refine pure_ (i := 15) (N := some 26) (v := ?_) (a' := ?_) bq99 rfl rfl (by kernel_rfl) (hq71 (by decide)) (Or.inl ⟨by rfl, ?_⟩) ?_ ?_
  rotate_left
  · intro w'; go_simp; with_reducible rfl
  rotate_left
  · simp only [sxx]; rfl
  refine pure_ (i := 16) (N := some 27) (v := ?_) (a' := ?_) bq100 rfl rfl (by kernel_rfl) (hq71 (by decide)) (Or.inl ⟨by rfl, ?_⟩) ?_ ?_
  rotate_left
  · intro w'; go_simp; with_reducible rfl
  rotate_left
  · simp only [sxx]; rfl
  refine pure_ (i := 17) (N := some 28) (v := ?_) (a' := ?_) bq101 rfl rfl (by kernel_rfl) (hq71 (by decide)) (Or.inl ⟨by rfl, ?_⟩) ?_ ?_
  rotate_left
  · intro w'; go_simp; with_reducible rfl
  rotate_left
  · simp only [sxx]; rfl
  refine take_ (i := 18) (N := some 29) (v := ?_) (a' := ?_) bq102 rfl rfl (by kernel_rfl) (hq71 (by decide)) (Or.inl ⟨by rfl, ?_⟩) hHeld ?_ ?_
  rotate_left
  · rintro w' ⟨s0, s1, s2⟩
    go_simp; with_reducible rfl
  rotate_left
  · simp only [sxx]; rfl
  refine pure_ (i := 19) (N := some 30) (v := ?_) (a' := ?_) bq103 rfl rfl (by kernel_rfl) (hq71 (by decide)) (Or.inl ⟨by rfl, ?_⟩) ?_ ?_
  rotate_left
  · intro w'; go_simp; with_reducible rfl
  rotate_left
  · simp only [sxx]; rfl
  refine pure_ (i := 20) (N := some 31) (v := ?_) (a' := ?_) bq104 rfl rfl (by kernel_rfl) (hq71 (by decide)) (Or.inl ⟨by rfl, ?_⟩) ?_ ?_
  rotate_left
  · intro w'; go_simp; with_reducible rfl
  rotate_left
  · simp only [sxx]; rfl
  refine pure_ (i := 21) (N := some 32) (v := ?_) (a' := ?_) bq105 rfl rfl (by kernel_rfl) (hq71 (by decide)) (Or.inl ⟨by rfl, ?_⟩) ?_ ?_
  rotate_left
  · intro w'; go_simp; with_reducible rfl
  rotate_left
  · simp only [sxx]; rfl
  refine pure_ (i := 22) (N := some 33) (v := ?_) (a' := ?_) bq106 rfl rfl (by kernel_rfl) (hq71 (by decide)) (Or.inl ⟨by rfl, ?_⟩) ?_ ?_
  rotate_left
  · intro w'; go_simp; with_reducible rfl
  rotate_left
  · simp only [sxx]; rfl
  refine pure_ (i := 23) (N := some 34) (v := ?_) (a' := ?_) bq107 rfl rfl (by kernel_rfl) (hq71 (by decide)) (Or.inl ⟨by rfl, ?_⟩) ?_ ?_
  rotate_left
  · intro w'; go_simp; with_reducible rfl
  rotate_left
  · simp only [sxx]; rfl
  refine pure_ (i := 25) (N := some 36) (v := ?_) (a' := ?_) bq108 rfl rfl (by kernel_rfl) (hq71 (by decide)) (Or.inl ⟨by rfl, ?_⟩) ?_ ?_
  rotate_left
  · intro w'; go_simp; with_reducible rfl
  rotate_left
  · simp only [sxx]; rfl
  refine one_ (i := 24) (N := some 35) bq109 rfl rfl (by kernel_rfl) (by decide) (fun K hK => ?_)
  refine goes_ Try.func83 (by kernel_rfl) rfl #[.slice A4 (n - 4) (c - 4)] (by rfl) rfl rfl (by simp only [mxx]; rfl) ?_
  with_reducible refine (four_N A4 (n - 4) (c - 4) (l.drop 4) sq _ (by rw [List.length_drop, HN.out]) (Nat.sub_le_sub_right HCC.out 4) (Kd.C_below HC4.out HD.out) H4.out).mono ?_
  rintro e u1 ⟨rfl, hb⟩
  refine ⟨_, rfl, ?_⟩
  have HU1 := Aside0.mk hb
  have HV1 := Aside0.mk (below_step HD.out hb)
  clear hb
  refine hK.out _ _ ⟨pw_cell_below HU1.out HB0.out, pw_cell_below HU1.out HB1.out, pw_cell_below HU1.out HB3.out⟩ (fun hHeld => ?_)
  clear hK K
  refine norm_ (a' := ?_) ?_ ?_
  rotate_left
  · show Act.put _ (some 35) _ = _
    simp only [sxx]; rfl
  refine pure_ (i := 26) (N := some 37) (v := ?_) (a' := ?_) bq110 rfl rfl (by kernel_rfl) (hq71 (by decide)) (Or.inl ⟨by rfl, ?_⟩) ?_ ?_
  rotate_left
  · intro w'; go_simp; with_reducible rfl
  rotate_left
  · simp only [sxx]; rfl
  refine pure_ (i := 27) (N := some 38) (v := ?_) (a' := ?_) bq111 rfl rfl (by kernel_rfl) (hq71 (by decide)) (Or.inl ⟨by rfl, ?_⟩) ?_ ?_
  rotate_left
  · intro w'; go_simp; with_reducible rfl
  rotate_left
  · simp only [sxx]; rfl
  refine pure_ (i := 28) (N := some 39) (v := ?_) (a' := ?_) bq112 rfl rfl (by kernel_rfl) (hq71 (by decide)) (Or.inl ⟨by rfl, ?_⟩) ?_ ?_
  rotate_left
  · intro w'; go_simp; with_reducible rfl
  rotate_left
  · simp only [sxx]; rfl
  refine pure_ (i := 29) (N := some 40) (v := ?_) (a' := ?_) bq113 rfl rfl (by kernel_rfl) (hq71 (by decide)) (Or.inl ⟨by rfl, ?_⟩) ?_ ?_
  rotate_left
  · intro w'; go_simp; with_reducible rfl
  rotate_left
  · simp only [sxx]; rfl
  refine pure_ (i := 30) (N := some 41) (v := ?_) (a' := ?_) bq114 rfl rfl (by kernel_rfl) (hq71 (by decide)) (Or.inl ⟨by rfl, ?_⟩) ?_ ?_
  rotate_left
  · intro w'; go_simp; with_reducible rfl
  rotate_left
  · simp only [sxx]; rfl
  refine pure_ (i := 32) (N := some 43) (v := ?_) (a' := ?_) bq115 rfl rfl (by kernel_rfl) (hq71 (by decide)) (Or.inl ⟨by rfl, ?_⟩) ?_ ?_
  rotate_left
  · intro w'; go_simp; with_reducible rfl
  rotate_left
  · simp only [sxx]; rfl
  refine pure_ (i := 33) (N := some 44) (v := ?_) (a' := ?_) bq116 rfl rfl (by kernel_rfl) (hq71 (by decide)) (Or.inl ⟨by rfl, ?_⟩) ?_ ?_
  rotate_left
  · intro w'; go_simp; with_reducible rfl
  rotate_left
  · simp only [sxx]; rfl
  refine one_ (i := 31) (N := some 42) bq117 rfl rfl (by kernel_rfl) (by decide) (fun K hK => ?_)
  refine goes_ Try.func83 (by kernel_rfl) rfl #[.slice A12 (n - 12) (c - 12)] (by rfl) rfl rfl (by simp only [mxx]; rfl) ?_
  with_reducible refine (four_N A12 (n - 12) (c - 12) (l.drop 12) _ _ (by rw [List.length_drop, HN.out]) (Nat.sub_le_sub_right HCC.out 12) (Kd.C_below HC12.out HV1.out) H12.out).mono ?_
  rintro e u2 ⟨rfl, hb⟩
  refine ⟨_, rfl, ?_⟩
  have HU2 := Aside0.mk (below_step HU1.out hb)
  have HV2 := Aside0.mk (below_step HV1.out hb)
  clear hb
  refine hK.out _ _ ⟨pw_cell_below HU2.out HB0.out, pw_cell_below HU2.out HB1.out, pw_cell_below HU2.out HB3.out⟩ (fun hHeld => ?_)
  clear hK K
  refine norm_ (a' := ?_) ?_ ?_
  rotate_left
  · show Act.put _ (some 42) _ = _
    simp only [sxx]; rfl
  refine one_ (i := 34) (N := some 45) bq118 rfl rfl (by kernel_rfl) (by decide) (fun K hK => ?_)
  refine goes_ Try.func33 (by kernel_rfl) rfl #[.slice (some ad) 12 c] (by rfl) rfl rfl (by simp only [mxx]; rfl) ?_
  with_reducible refine (sum_N (some ad) 12 c (l.take 12) _ (by rw [List.length_take, HN.out]; have := H20.out; omega) (by have := H20.out; have := HCC.out; omega) (Kd.C_below HCT.out HV2.out) (bytesOk_take HOK.out 12)).mono ?_
  rintro e u3 ⟨rfl, hb⟩
  refine ⟨_, rfl, ?_⟩
  have HU3 := Aside0.mk (below_step HU2.out hb)
  have HV3 := Aside0.mk (below_step HV2.out hb)
  clear hb
  refine hK.out _ _ ⟨pw_cell_below HU3.out HB0.out, pw_cell_below HU3.out HB1.out, pw_cell_below HU3.out HB3.out⟩ (fun hHeld => ?_)
  clear hK K
  refine norm_ (a' := ?_) ?_ ?_
  rotate_left
  · show Act.put _ (some 45) _ = _
    simp only [sxx]; rfl
  refine pure_ (i := 35) (N := some 46) (v := ?_) (a' := ?_) bq119 rfl rfl (by kernel_rfl) (hq71 (by decide)) (Or.inl ⟨by rfl, ?_⟩) ?_ ?_
  rotate_left
  · intro w'; go_simp; with_reducible rfl
  rotate_left
  · simp only [sxx]; rfl
  refine pure_ (i := 36) (N := some 47) (v := ?_) (a' := ?_) bq120 rfl rfl (by kernel_rfl) (hq71 (by decide)) (Or.inl ⟨by rfl, ?_⟩) ?_ ?_
  rotate_left
  · intro w'; go_simp; with_reducible rfl
  rotate_left
  · simp only [sxx]; rfl
  refine done_ (by kernel_rfl) ?_
  obtain ⟨A16, hc16, hC16⟩ := cutf8 (A := some ad) (n := n) (c := c) (xs := l) (16 + m) (by have := H20.out; omega) HCC.out
  obtain ⟨ht16, hCt16⟩ := cutt8 (A := some ad) (n := n) (c := c) (xs := l) (16 + m) (by have := H20.out; omega) HCC.out
  obtain ⟨AM, hm16, hCm16⟩ := cutm8 (A := some ad) (n := n) (c := c) (xs := l) 16 (16 + m) (by omega) (by have := H20.out; omega) HCC.out
  have em : 16 + m - 16 = m := by omega
  rw [em] at hCm16
  have ecast : (((16 + m : Nat) : Int)) = 16 + (m : Int) := by omega
  have HC16 := Aside0.mk (hC16 w HC.out)
  have HCT16 := Aside0.mk (hCt16 w HC.out)
  have HCM := Aside0.mk (hCm16 w HC.out)
  replace hc16 : ∀ (W : World), (Instr.slice 29 (.slice (some ad) n c) (some (.int .i64 (16 + (m : Int)))) none none).run Try.prog W = .ok (.slice A16 (n - (16 + m)) (c - (16 + m))) W := fun W => by have := hc16 W; rwa [ecast] at this
  replace ht16 : ∀ (W : World), (Instr.slice 29 (.slice (some ad) n c) none (some (.int .i64 (16 + (m : Int)))) none).run Try.prog W = .ok (.slice (some ad) (16 + m) c) W := fun W => by have := ht16 W; rwa [ecast] at this
  replace hm16 : ∀ (W : World), (Instr.slice 29 (.slice (some ad) n c) (some (.int .i64 16)) (some (.int .i64 (16 + (m : Int)))) none).run Try.prog W = .ok (.slice AM m (c - 16)) W := fun W => by have := hm16 W; rw [ecast, em] at this; exact this
  clear em ecast hC16 hCt16 hCm16 hc4 hc12 ht12 hd20 hd21 c0 c1 c3
  have HP4 := Aside0.mk ((HU3.out.block p4 (blk_lt HP4.out)).trans HP4.out)
  have HP5 := Aside0.mk ((HU3.out.block p5 (blk_lt HP5.out)).trans HP5.out)
  have HP6 := Aside0.mk ((HU3.out.block p6 (blk_lt HP6.out)).trans HP6.out)
  clear HU1 HU2 HU3 HV1 HV2 HB HB0 HB1 HB3 hHeld HD
  go_wp2_with fail
  refine (four_N A8 (n - 8) (c - 8) (l.drop 8) (m : Int) _ (by rw [List.length_drop, HN.out]) (Nat.sub_le_sub_right HCC.out 8) (Kd.C_below HC8.out HV3.out) H8.out).mono ?_
  rintro e4 u4 ⟨rfl, hb⟩
  have HV4 := Aside0.mk (below_step HV3.out hb)
  have HP4 := Aside0.mk ((hb.block p4 (blk_lt HP4.out)).trans HP4.out)
  have HP5 := Aside0.mk ((hb.block p5 (blk_lt HP5.out)).trans HP5.out)
  have HP6 := Aside0.mk ((hb.block p6 (blk_lt HP6.out)).trans HP6.out)
  clear hb HV3 hc8
  have hmo : (n : Int) ≤ 1000000000000 := by have := HM.out; omega
  have hm0 : (m : Int) ≤ 1000000000000 := by have := HM.out; have := H20.out; omega
  have hq5 : decide ((n : Int) - 20 < (m : Int)) = false := decide_eq_false (by have := H20.out; omega)
  go_wp2_with fail
  have HQ2 := Aside0.mk (pw_cell_below (below_drew1 HV4.out) HB2.out)
  have HD := Aside0.mk (below_drew1 HV4.out)
  have c2 := HQ2.out
  have hw20 := wr_sub20 (n := n) (by have := H20.out; omega) HM.out
  have hw16 := wr_add16 (n := m) (by have := H20.out; have := HM.out; omega)
  refine start_ (n := 18) (S := fun w' => w'.cell? ⟨ad.block, ad.off + 2, none⟩ = some (.int .u8 kd)) (ds := []) bq121 (by kernel_rfl) rfl rfl (c2) (fun hHeld => ?_)
  refine pure_ (i := 0) (N := some 52) (v := ?_) (a' := ?_) bq122 rfl rfl (by kernel_rfl) (hq71 (by decide)) (Or.inl ⟨by rfl, ?_⟩) ?_ ?_
  rotate_left
  · intro w'; go_simp; with_reducible rfl
  rotate_left
  · simp only [sxx]; rfl
  refine pure_ (i := 1) (N := some 53) (v := ?_) (a' := ?_) bq123 rfl rfl (by kernel_rfl) (hq71 (by decide)) (Or.inl ⟨by rfl, ?_⟩) ?_ ?_
  rotate_left
  · intro w'; go_simp; with_reducible rfl
  rotate_left
  · simp only [sxx]; rfl
  refine pure_ (i := 2) (N := some 54) (v := ?_) (a' := ?_) bq124 rfl rfl (by kernel_rfl) (hq71 (by decide)) (Or.inl ⟨by rfl, ?_⟩) ?_ ?_
  rotate_left
  · intro w'; go_simp; with_reducible rfl
  rotate_left
  · simp only [sxx]; rfl
  refine pure_ (i := 3) (N := some 55) (v := ?_) (a' := ?_) bq125 rfl rfl (by kernel_rfl) (hq71 (by decide)) (Or.inl ⟨by rfl, ?_⟩) ?_ ?_
  rotate_left
  · intro w'; go_simp; with_reducible rfl
  rotate_left
  · simp only [sxx]; rfl
  refine pure_ (i := 4) (N := some 56) (v := ?_) (a' := ?_) bq126 rfl rfl (by kernel_rfl) (hq71 (by decide)) (Or.inl ⟨by rfl, ?_⟩) ?_ ?_
  rotate_left
  · intro w'; go_simp; with_reducible rfl
  rotate_left
  · simp only [sxx]; rfl
  refine pure_ (i := 5) (N := some 57) (v := ?_) (a' := ?_) bq127 rfl rfl (by kernel_rfl) (hq71 (by decide)) (Or.inl ⟨by rfl, ?_⟩) ?_ ?_
  rotate_left
  · intro w'; go_simp; with_reducible rfl
  rotate_left
  · simp only [sxx]; rfl
  refine pure_ (i := 6) (N := some 58) (v := ?_) (a' := ?_) bq128 rfl rfl (by kernel_rfl) (hq71 (by decide)) (Or.inl ⟨by rfl, ?_⟩) ?_ ?_
  rotate_left
  · intro w'; go_simp; with_reducible rfl
  rotate_left
  · simp only [sxx]; rfl
  refine pure_ (i := 7) (N := some 59) (v := ?_) (a' := ?_) bq129 rfl rfl (by kernel_rfl) (hq71 (by decide)) (Or.inl ⟨by rfl, ?_⟩) ?_ ?_
  rotate_left
  · intro w'; go_simp; with_reducible rfl
  rotate_left
  · simp only [sxx]; rfl
  refine pure_ (i := 8) (N := some 60) (v := ?_) (a' := ?_) bq130 rfl rfl (by kernel_rfl) (hq71 (by decide)) (Or.inl ⟨by rfl, ?_⟩) ?_ ?_
  rotate_left
  · intro w'; go_simp; with_reducible rfl
  rotate_left
  · simp only [sxx]; rfl
  refine pure_ (i := 9) (N := some 61) (v := ?_) (a' := ?_) bq131 rfl rfl (by kernel_rfl) (hq71 (by decide)) (Or.inl ⟨by rfl, ?_⟩) ?_ ?_
  rotate_left
  · intro w'; go_simp; with_reducible rfl
  rotate_left
  · simp only [sxx]; rfl
  refine pure_ (i := 11) (N := some 63) (v := ?_) (a' := ?_) bq132 rfl rfl (by kernel_rfl) (hq71 (by decide)) (Or.inl ⟨by rfl, ?_⟩) ?_ ?_
  rotate_left
  · intro w'; go_simp; with_reducible rfl
  rotate_left
  · simp only [sxx]; rfl
  refine pure_ (i := 12) (N := some 64) (v := ?_) (a' := ?_) bq133 rfl rfl (by kernel_rfl) (hq71 (by decide)) (Or.inl ⟨by rfl, ?_⟩) ?_ ?_
  rotate_left
  · intro w'; go_simp; with_reducible rfl
  rotate_left
  · simp only [sxx]; rfl
  refine pure_ (i := 13) (N := some 65) (v := ?_) (a' := ?_) bq134 rfl rfl (by kernel_rfl) (hq71 (by decide)) (Or.inl ⟨by rfl, ?_⟩) ?_ ?_
  rotate_left
  · intro w'; go_simp; with_reducible rfl
  rotate_left
  · simp only [sxx]; rfl
  refine pure_ (i := 14) (N := some 66) (v := ?_) (a' := ?_) bq135 rfl rfl (by kernel_rfl) (hq71 (by decide)) (Or.inl ⟨by rfl, ?_⟩) ?_ ?_
  rotate_left
  · intro w'; go_simp; with_reducible rfl
  rotate_left
  · simp only [sxx]; rfl
  refine one_ (i := 10) (N := some 62) bq136 rfl rfl (by kernel_rfl) (by decide) (fun K hK => ?_)
  refine goes_ Try.func83 (by kernel_rfl) rfl #[.slice A16 (n - (16 + m)) (c - (16 + m))] (by rfl) rfl rfl (by simp only [mxx]; rfl) ?_
  with_reducible refine (four_N A16 (n - (16 + m)) (c - (16 + m)) (l.drop (16 + m)) _ _ (by rw [List.length_drop, HN.out]) (Nat.sub_le_sub_right HCC.out _) (Kd.C_below HC16.out HD.out) H16.out).mono ?_
  rintro e u5 ⟨rfl, hb⟩
  refine ⟨_, rfl, ?_⟩
  have HU5 := Aside0.mk hb
  have HV5 := Aside0.mk (below_step HD.out hb)
  clear hb
  refine hK.out _ _ (pw_cell_below HU5.out HQ2.out) (fun hHeld => ?_)
  clear hK K
  refine norm_ (a' := ?_) ?_ ?_
  rotate_left
  · show Act.put _ (some 62) _ = _
    simp only [sxx]; rfl
  refine one_ (i := 15) (N := some 67) bq137 rfl rfl (by kernel_rfl) (by decide) (fun K hK => ?_)
  refine goes_ Try.func33 (by kernel_rfl) rfl #[.slice (some ad) (16 + m) c] (by rfl) rfl rfl (by simp only [mxx]; rfl) ?_
  with_reducible refine (sum_N (some ad) (16 + m) c (l.take (16 + m)) _ (by rw [List.length_take, HN.out]; have := H20.out; omega) (by have := H20.out; have := HCC.out; omega) (Kd.C_below HCT16.out HV5.out) (bytesOk_take HOK.out _)).mono ?_
  rintro e u6 ⟨rfl, hb⟩
  refine ⟨_, rfl, ?_⟩
  have HU6 := Aside0.mk (below_step HU5.out hb)
  have HV6 := Aside0.mk (below_step HV5.out hb)
  clear hb
  refine hK.out _ _ (pw_cell_below HU6.out HQ2.out) (fun hHeld => ?_)
  clear hK K
  refine norm_ (a' := ?_) ?_ ?_
  rotate_left
  · show Act.put _ (some 67) _ = _
    simp only [sxx]; rfl
  refine pure_ (i := 16) (N := some 68) (v := ?_) (a' := ?_) bq138 rfl rfl (by kernel_rfl) (hq71 (by decide)) (Or.inl ⟨by rfl, ?_⟩) ?_ ?_
  rotate_left
  · intro w'; go_simp; with_reducible rfl
  rotate_left
  · simp only [sxx]; rfl
  refine pure_ (i := 17) (N := some 69) (v := ?_) (a' := ?_) bq139 rfl rfl (by kernel_rfl) (hq71 (by decide)) (Or.inl ⟨by rfl, ?_⟩) ?_ ?_
  rotate_left
  · intro w'; go_simp; with_reducible rfl
  rotate_left
  · simp only [sxx]; rfl
  refine done_ (by kernel_rfl) ?_
  have HP4 := Aside0.mk ((HU6.out.block p4 (blk_lt HP4.out)).trans HP4.out)
  have HP5 := Aside0.mk ((HU6.out.block p5 (blk_lt HP5.out)).trans HP5.out)
  have HP6 := Aside0.mk ((HU6.out.block p6 (blk_lt HP6.out)).trans HP6.out)
  clear HU5 HU6 HV5 HD hHeld hc16 ht16 hq5 c2 HQ2 HV4
  go_wp2_with fail
  have HQ2 := Aside0.mk (pw_cell_below (below_drew1 HV6.out) HB2.out)
  have HD := Aside0.mk (below_drew1 HV6.out)
  have c2 := HQ2.out
  have hkd := HKD.out
  refine start_ (n := 12) (S := fun w' => w'.cell? ⟨ad.block, ad.off + 2, none⟩ = some (.int .u8 kd)) (ds := [11]) bq70 (by kernel_rfl) rfl rfl (c2) (fun hHeld => ?_)
  refine pure_ (i := 0) (N := some 71) (v := ?_) (a' := ?_) bq71 rfl rfl (by kernel_rfl) (hq71a (by decide)) (Or.inl ⟨by rfl, ?_⟩) ?_ ?_
  rotate_left
  · intro w'; go_simp; with_reducible rfl
  rotate_left
  · simp only [sxx]; rfl
  refine pure_ (i := 1) (N := some 72) (v := ?_) (a' := ?_) bq72 rfl rfl (by kernel_rfl) (hq71a (by decide)) (Or.inl ⟨by rfl, ?_⟩) ?_ ?_
  rotate_left
  · intro w'; go_simp; with_reducible rfl
  rotate_left
  · simp only [sxx]; rfl
  refine pure_ (i := 2) (N := some 73) (v := ?_) (a' := ?_) bq73 rfl rfl (by kernel_rfl) (hq71a (by decide)) (Or.inl ⟨by rfl, ?_⟩) ?_ ?_
  rotate_left
  · intro w'; go_simp; with_reducible rfl
  rotate_left
  · simp only [sxx]; rfl
  refine pure_ (i := 3) (N := some 74) (v := ?_) (a' := ?_) bq74 rfl rfl (by kernel_rfl) (hq71a (by decide)) (Or.inl ⟨by rfl, ?_⟩) ?_ ?_
  rotate_left
  · intro w'; go_simp; with_reducible rfl
  rotate_left
  · simp only [sxx]; rfl
  refine pure_ (i := 4) (N := some 75) (v := ?_) (a' := ?_) bq140 rfl rfl (by kernel_rfl) (hq71a (by decide)) (Or.inl ⟨by rfl, ?_⟩) ?_ ?_
  rotate_left
  · intro w'; go_simp; with_reducible rfl
  rotate_left
  · simp only [sxx]; rfl
  refine pure_ (i := 6) (N := some 77) (v := ?_) (a' := ?_) bq76 rfl rfl (by kernel_rfl) (hq71a (by decide)) (Or.inl ⟨by rfl, ?_⟩) ?_ ?_
  rotate_left
  · intro w'; go_simp; with_reducible rfl
  rotate_left
  · simp only [sxx]; rfl
  refine pure_ (i := 7) (N := some 78) (v := ?_) (a' := ?_) bq141 rfl rfl (by kernel_rfl) (hq71a (by decide)) (Or.inl ⟨by rfl, ?_⟩) ?_ ?_
  rotate_left
  · intro w'; go_simp; with_reducible rfl
  rotate_left
  · simp only [sxx]; rfl
  refine take_ (i := 8) (N := some 79) (v := ?_) (a' := ?_) bq142 rfl rfl (by kernel_rfl) (hq71a (by decide)) (Or.inl ⟨by rfl, ?_⟩) hHeld ?_ ?_
  rotate_left
  · intro w' s0; go_simp; with_reducible rfl
  rotate_left
  · simp only [sxx]; rfl
  refine pure_ (i := 9) (N := some 80) (v := ?_) (a' := ?_) bq143 rfl rfl (by kernel_rfl) (hq71a (by decide)) (Or.inl ⟨by rfl, ?_⟩) ?_ ?_
  rotate_left
  · intro w'; go_simp; with_reducible rfl
  rotate_left
  · simp only [sxx]; rfl
  refine one_ (i := 5) (N := some 76) bq80 rfl rfl (by kernel_rfl) (by decide) (fun K hK => ?_)
  refine value_ (w1 := ?_) (v := ?_) (by rfl) rfl ?_ ?_
  rotate_left 2
  · go_simp
    constructor
    · rfl
    · rfl
  obtain ⟨rb, hrb⟩ : ∃ rb, rb = u6.heap.size := ⟨_, rfl⟩
  obtain ⟨u7, hu7⟩ : ∃ u7, u7 = (u6.alloc (.cells #[.slice AM m (c - 16), .int .i64 0] 147)).drew := ⟨_, rfl⟩
  rw [← hu7, ← hrb]
  have HU7 := Aside0.mk (show Below u6.heap.size u6 u7 by rw [hu7]; exact below_drew1 (below_alloc (Below.refl _ _) _))
  have HV7 := Aside0.mk (below_step HV6.out HU7.out)
  have HRB := Aside0.mk (show u7.heap[rb]? = some (.cells #[.slice AM m (c - 16), .int .i64 0] 147 (0, 0)) by rw [hu7, hrb]; exact heap_alloc_new u6 _)
  have HRW := Aside0.mk (show w.heap.size ≤ rb by rw [hrb]; exact HV6.out.size)
  have HRN := Aside0.mk (show p4 ≠ rb ∧ p5 ≠ rb ∧ p6 ≠ rb by have := blk_lt HP4.out; have := blk_lt HP5.out; have := blk_lt HP6.out; omega)
  have HP4 := Aside0.mk ((HU7.out.block p4 (blk_lt HP4.out)).trans HP4.out)
  have HP5 := Aside0.mk ((HU7.out.block p5 (blk_lt HP5.out)).trans HP5.out)
  have HP6 := Aside0.mk ((HU7.out.block p6 (blk_lt HP6.out)).trans HP6.out)
  clear hrb hu7
  refine hK.out _ _ (pw_cell_below HV7.out HB2.out) (fun hHeld => ?_)
  clear hK K
  refine norm_ (a' := ?_) ?_ ?_
  rotate_left
  · show Act.put _ (some 76) _ = _
    simp only [sxx]; rfl
  refine one_ (i := 10) (N := some 81) bq81 rfl rfl (by kernel_rfl) (by decide) (fun K hK => ?_)
  refine goes_ Try.func84 (by kernel_rfl) rfl #[.pointer (some ⟨rb, 0, none⟩), .int .i64 (wrap64 kd)] (by rfl) rfl rfl (by simp only [mxx]; rfl) ?_
  rw [HKD.out]
  with_reducible refine (HREC.out u7 rb AM (c - 16) HV7.out HRW.out (by have := HCC.out; have := H20.out; omega) HRB.out HCM.out).mono ?_
  rintro e u8 ⟨B, nb, cb, rfl, hl2, hr2, hb⟩
  refine ⟨_, rfl, ?_⟩
  have HL2 := Aside0.mk hl2
  have HR2 := Aside0.mk (Kd.R_lower hr2 HV7.out.size)
  have HV8 := Aside0.mk (below_frm HV7.out hb (N := w.heap.size) (fun k hk => by rw [hk]; exact HRW.out) (Nat.le_refl _))
  have HP4 := Aside0.mk (hb.blk HP4.out HRN.out.1)
  have HP5 := Aside0.mk (hb.blk HP5.out HRN.out.2.1)
  have HP6 := Aside0.mk (hb.blk HP6.out HRN.out.2.2)
  clear hl2 hr2 hb
  refine hK.out _ _ (pw_cell_below HV8.out HB2.out) (fun hHeld => ?_)
  clear hK K
  refine norm_ (a' := ?_) ?_ ?_
  rotate_left
  · show Act.put _ (some 81) _ = _
    simp only [sxx]; rfl
  refine last_ (i := 11) (N := none) bq82 rfl rfl (by kernel_rfl) (by decide) (fun K hK => ?_)
  refine store_arm 28 _ _ rfl (by rfl) rfl (q := p4) (i := 0) (cur' := recCells kd s v k se rq B nb cb vn vp vb st of x) (recCells kd s v k se rq B nb cb vn vp vb st of x).toList rfl rfl rfl (by kernel_rfl) (by intro u hu; simp at hu; rcases hu with rfl | rfl | rfl | rfl | rfl | rfl | rfl | rfl | rfl | rfl | rfl | rfl | rfl <;> rfl) HP4.out (by simp) rfl ?_
  intro u9 hp9 hg9
  refine hK.out _ _ ?_
  clear hK K
  refine done_ (by kernel_rfl) ?_
  have HP9 := Aside0.mk hp9
  have HV9 := Aside0.mk (HV8.out.grown hg9 HV8.out.size (fun k e => by cases e; exact HPW.out.1))
  have HP5 := Aside0.mk ((hg9.block p5 (blk_lt HP5.out) (fun e => by have := HPW.out; have := Option.some.inj e; omega)).trans HP5.out)
  have HP6 := Aside0.mk ((hg9.block p6 (blk_lt HP6.out) (fun e => by have := HPW.out; have := Option.some.inj e; omega)).trans HP6.out)
  have HR9 := Aside0.mk (R40_other HR2.out HP4.out hg9)
  clear hHeld hm16 c2 HQ2 HV6 HV7 HV8 hp9 hg9 HR2 HRB HD
  have m0 := (blk_cell HP9.out 0).trans rfl
  have m1 := (blk_cell HP9.out 1).trans rfl
  have m2 := (blk_cell HP9.out 2).trans rfl
  have m3 := (blk_cell HP9.out 3).trans rfl
  have m4 := (blk_cell HP9.out 4).trans rfl
  have m5 := (blk_cell HP9.out 5).trans rfl
  have m6 := (blk_cell HP9.out 6).trans rfl
  have m7 := (blk_cell HP9.out 7).trans rfl
  have m8 := (blk_cell HP9.out 8).trans rfl
  have m9 := (blk_cell HP9.out 9).trans rfl
  have m10 := (blk_cell HP9.out 10).trans rfl
  have m11 := (blk_cell HP9.out 11).trans rfl
  have m12 := (blk_cell HP9.out 12).trans rfl
  go_wp2_with fail
  refine (encode_C sq kd s v k se rq B cb nb l2 vn vp vb st of x u9 HL2.out (R40_C HR9.out) (by obtain ⟨A2, n2, c2, e2, _, h2, _⟩ := R40_form HR9.out; cases e2; exact h2) r1 0 HE.out).mono ?_
  rintro e w10 ⟨V, rfl, _, hb⟩
  have HPA := Aside0.mk ((hb.block p4 (blk_lt HP9.out)).trans HP9.out)
  have HP5 := Aside0.mk ((hb.block p5 (blk_lt HP5.out)).trans HP5.out)
  have HP6 := Aside0.mk ((hb.block p6 (blk_lt HP6.out)).trans HP6.out)
  have HVA := Aside0.mk (below_step HV9.out hb)
  have HRA := Aside0.mk (Kd.R_below HR9.out hb)
  clear hb HV9 HR9 HP9 m0 m1 m2 m3 m4 m5 m6 m7 m8 m9 m10 m11 m12
  have m0 := (blk_cell HPA.out 0).trans rfl
  have m1 := (blk_cell HPA.out 1).trans rfl
  have m2 := (blk_cell HPA.out 2).trans rfl
  have m3 := (blk_cell HPA.out 3).trans rfl
  have m4 := (blk_cell HPA.out 4).trans rfl
  have m5 := (blk_cell HPA.out 5).trans rfl
  have m6 := (blk_cell HPA.out 6).trans rfl
  have m7 := (blk_cell HPA.out 7).trans rfl
  have m8 := (blk_cell HPA.out 8).trans rfl
  have m9 := (blk_cell HPA.out 9).trans rfl
  have m10 := (blk_cell HPA.out 10).trans rfl
  have m11 := (blk_cell HPA.out 11).trans rfl
  have m12 := (blk_cell HPA.out 12).trans rfl
  go_wp2_with (with_reducible refine stop_store rfl ?_)
  refine store_blk rfl rfl 28 _ _ rfl (q := p4) (i := 0) (cur' := recCells kd s v k se rq B nb cb vn vp vb st of x) (recCells kd s v k se rq B nb cb vn vp vb st of x).toList rfl rfl rfl (by kernel_rfl) (by intro u hu; simp at hu; rcases hu with rfl | rfl | rfl | rfl | rfl | rfl | rfl | rfl | rfl | rfl | rfl | rfl | rfl <;> rfl) HPA.out (by simp) rfl ?_
  intro w11 hpb hgb
  have HPB := Aside0.mk hpb
  have HVB := Aside0.mk (HVA.out.grown hgb HVA.out.size (fun k e => by cases e; exact HPW.out.1))
  have HP5 := Aside0.mk ((hgb.block p5 (blk_lt HP5.out) (fun e => by have := HPW.out; have := Option.some.inj e; omega)).trans HP5.out)
  have HP6 := Aside0.mk ((hgb.block p6 (blk_lt HP6.out) (fun e => by have := HPW.out; have := Option.some.inj e; omega)).trans HP6.out)
  have HRB2 := Aside0.mk (R40_other HRA.out HPA.out hgb)
  clear hpb hgb HVA HRA HPA m0 m1 m2 m3 m4 m5 m6 m7 m8 m9 m10 m11 m12
  have n5 := (blk_cell HP5.out 0).trans rfl
  have f5 := blk_frozen HP5.out 0
  have n6 := (blk_cell HP6.out 0).trans rfl
  have f6 := blk_frozen HP6.out 0
  have HN56 := Aside0.mk (show p5 ≠ p6 by have := HPW.out; omega)
  have hne := HN56.out
  have hw := wr_add20 (n := m) (by have := H20.out; have := HM.out; omega)
  go_wp2_with fail
  clear hw hne n5 n6 f5 f6
  obtain ⟨wy, hwy⟩ : ∃ wy, wy = w11.setCell ⟨p5, 0, none⟩ (.int .i64 ((m : Int) + 20)) := ⟨_, rfl⟩
  obtain ⟨wz, hwz⟩ : ∃ wz, wz = wy.setCell ⟨p6, 0, none⟩ (.bool true) := ⟨_, rfl⟩
  rw [← hwy, ← hwz]
  have k4 : wz.heap[p4]? = some (.cells (recCells kd s v k se rq B nb cb vn vp vb st of x) 28 (0, 0)) := by
    have := HPW.out
    rw [hwz, Below.heap_setCell wy _ _ p4 (by simp only; omega), hwy, Below.heap_setCell w11 _ _ p4 (by simp only; omega)]
    exact HPB.out
  have k6 : wy.heap[p6]? = some (.cells #[.bool false] 4 (0, 0)) := by
    have := HPW.out
    rw [hwy, Below.heap_setCell w11 _ _ p6 (by simp only; omega)]
    exact HP6.out
  have c5 : wz.cell? ⟨p5, 0, none⟩ = some (.int .i64 ((m : Int) + 20)) := by
    have hy : wy.cell? ⟨p5, 0, none⟩ = some (.int .i64 ((m : Int) + 20)) := by rw [hwy]; exact World.cell?_setCell_same' _ _ _ (by rw [blk_cell HP5.out 0]; rfl)
    have := HPW.out
    have he : wz.heap[p5]? = wy.heap[p5]? := by rw [hwz, Below.heap_setCell wy _ _ p5 (by simp only; omega)]
    simp only [World.cell?, he] at hy ⊢
    exact hy
  have c6 : wz.cell? ⟨p6, 0, none⟩ = some (.bool true) := by rw [hwz]; exact World.cell?_setCell_same' _ _ _ (by rw [blk_cell k6 0]; rfl)
  have hR : R40 wz w.heap.size (.slice B nb cb) l2 := by
    have hy1 : R40 wy w.heap.size (.slice B nb cb) l2 := by rw [hwy]; exact Kd.R_set HRB2.out HP5.out (fun t ht => by rw [k40_only ht]; decide) 0 _
    rw [hwz]
    exact Kd.R_set hy1 k6 (fun t ht => by rw [k40_only ht]; decide) 0 _
  have hBZ : Below w.heap.size w wz := by
    rw [hwz, hwy]
    exact (HVB.out.setCell (p := ⟨p5, 0, none⟩) (by have := HPW.out; simp only; omega) _).setCell (p := ⟨p6, 0, none⟩) (by have := HPW.out; simp only; omega) _
  exact door71 rfl (results71_row _ _ p4 p5 p6 _ _ _ rfl rfl rfl k4 rfl c5 c6) ⟨B, nb, cb, rfl, HL2.out, hR, hBZ⟩

abbrev zeroCells13 : Array Value := recCells 0 0 0 0 0 0 none 0 0 0 0 0 0 0 ⟨#[]⟩
set_option maxHeartbeats 16000000 in
set_option maxRecDepth 100000 in
theorem read_short (w : World) (A : Option Addr) (n c : Nat) (sq : Int) (h20 : n < 20) :
    Calls Try.prog 71 #[.slice A n c, .int .i64 sq] w fun e w' => e = .returned (.tuple #[zeroRec, .int .i64 0, .bool false]) ∧ Below w.heap.size w w' := by
  have hu28 := Try.underlying28
  have hu26 := Try.underlying26
  have hu24 := Try.underlying24
  have hmf : ∀ (fn : Fn) (first cap : Array Value) (w : World), (Instr.makeFunc fn first cap).run Try.prog w = .ok (.func fn first cap) w := fun _ _ _ _ => rfl
  have hd20 : decide ((n : Int) < 20) = true := decide_eq_true (by omega)
  have hd21 : decide (n < 20) = true := decide_eq_true (by omega)
  have H20 := Aside0.mk h20
  clear h20
  go_enter_defers Try.func71, Try.ntmps71
  go_wp2_with fail
  obtain ⟨p4, hp4⟩ : ∃ p4, p4 = w.heap.size := ⟨_, rfl⟩
  obtain ⟨p5, hp5⟩ : ∃ p5, p5 = w.heap.size + 1 := ⟨_, rfl⟩
  obtain ⟨p6, hp6⟩ : ∃ p6, p6 = w.heap.size + 1 + 1 := ⟨_, rfl⟩
  obtain ⟨wa, hwa⟩ : ∃ wa, wa = w.alloc (.cells #[.int .i64 0, .int .i64 0, .int .i64 0, .int .i64 0, .int .i64 0, .int .i64 0, .slice none 0 0, .int .i64 0, .int .i64 0, .int .i64 0, .int .i64 0, .int .i64 0, .string ⟨#[]⟩] 28) := ⟨_, rfl⟩
  obtain ⟨wb, hwb⟩ : ∃ wb, wb = wa.alloc (.cells #[.int .i64 0] 3) := ⟨_, rfl⟩
  obtain ⟨wc, hwc⟩ : ∃ wc, wc = wb.alloc (.cells #[.bool false] 4) := ⟨_, rfl⟩
  rw [← hwa, ← hwb, ← hwc, ← hp6, ← hp5, ← hp4]
  have hza : wa.heap.size = w.heap.size + 1 := by rw [hwa]; simp
  have hzb : wb.heap.size = w.heap.size + 1 + 1 := by rw [hwb, ← hza]; simp
  have hba : Below wa.heap.size wa wb := by rw [hwb]; exact below_alloc (Below.refl _ _) _
  have hbb : Below wb.heap.size wb wc := by rw [hwc]; exact below_alloc (Below.refl _ _) _
  have HB := Aside0.mk (show Below w.heap.size w wc from below_step (below_step (by rw [hwa]; exact below_alloc (Below.refl _ _) _) hba) hbb)
  have HP4 := Aside0.mk (show wc.heap[p4]? = some (.cells #[.int .i64 0, .int .i64 0, .int .i64 0, .int .i64 0, .int .i64 0, .int .i64 0, .slice none 0 0, .int .i64 0, .int .i64 0, .int .i64 0, .int .i64 0, .int .i64 0, .string ⟨#[]⟩] 28 (0, 0)) by
    refine (hbb.block p4 (by omega)).trans ((hba.block p4 (by omega)).trans ?_)
    rw [hwa, hp4]; exact heap_alloc_new w _)
  have HP5 := Aside0.mk (show wc.heap[p5]? = some (.cells #[.int .i64 0] 3 (0, 0)) by
    refine (hbb.block p5 (by omega)).trans ?_
    rw [hwb, hp5, ← hza]; exact heap_alloc_new wa _)
  have HP6 := Aside0.mk (show wc.heap[p6]? = some (.cells #[.bool false] 4 (0, 0)) by rw [hwc, hp6, ← hzb]; exact heap_alloc_new wb _)
  have HPW := Aside0.mk (show w.heap.size ≤ p4 ∧ p4 < p5 ∧ p5 < p6 by omega)
  clear hp4 hp5 hp6 hwa hwb hwc hza hzb hba hbb
  refine start_ (n := 37) (S := fun w' => True) (ds := []) bq83 (by kernel_rfl) rfl rfl trivial (fun hHeld => ?_)
  refine pure_ (i := 0) (N := some 11) (v := ?_) (a' := ?_) bq84 rfl rfl (by kernel_rfl) (hq71 (by decide)) (Or.inl ⟨by rfl, ?_⟩) ?_ ?_
  rotate_left
  · intro w'; go_simp; with_reducible rfl
  rotate_left
  · simp only [sxx]; rfl
  refine pure_ (i := 1) (N := some 12) (v := ?_) (a' := ?_) bq85 rfl rfl (by kernel_rfl) (hq71 (by decide)) (Or.inl ⟨by rfl, ?_⟩) ?_ ?_
  rotate_left
  · intro w'; go_simp; with_reducible rfl
  rotate_left
  · simp only [sxx]; rfl
  refine pure_ (i := 2) (N := some 13) (v := ?_) (a' := ?_) bq86 rfl rfl (by kernel_rfl) (hq71 (by decide)) (Or.inl ⟨by rfl, ?_⟩) ?_ ?_
  rotate_left
  · intro w'; go_simp; with_reducible rfl
  rotate_left
  · simp only [sxx]; rfl
  refine pure_ (i := 3) (N := some 14) (v := ?_) (a' := ?_) bq87 rfl rfl (by kernel_rfl) (hq71 (by decide)) (Or.inl ⟨by rfl, ?_⟩) ?_ ?_
  rotate_left
  · intro w'; go_simp; with_reducible rfl
  rotate_left
  · simp only [sxx]; rfl
  refine pure_ (i := 4) (N := some 15) (v := undef) (a' := ?_) bq88 rfl rfl (by kernel_rfl) (hq71 (by decide)) (Or.inr ⟨by rfl, rfl⟩) ?_ ?_
  rotate_left
  · simp only [sxx]; rfl
  refine pure_ (i := 5) (N := some 16) (v := undef) (a' := ?_) bq89 rfl rfl (by kernel_rfl) (hq71 (by decide)) (Or.inr ⟨by rfl, rfl⟩) ?_ ?_
  rotate_left
  · simp only [sxx]; rfl
  refine pure_ (i := 6) (N := some 17) (v := undef) (a' := ?_) bq90 rfl rfl (by kernel_rfl) (hq71 (by decide)) (Or.inr ⟨by rfl, rfl⟩) ?_ ?_
  rotate_left
  · simp only [sxx]; rfl
  refine pure_ (i := 7) (N := some 18) (v := undef) (a' := ?_) bq91 rfl rfl (by kernel_rfl) (hq71 (by decide)) (Or.inr ⟨by rfl, rfl⟩) ?_ ?_
  rotate_left
  · simp only [sxx]; rfl
  refine pure_ (i := 8) (N := some 19) (v := ?_) (a' := ?_) bq92 rfl rfl (by kernel_rfl) (hq71 (by decide)) (Or.inl ⟨by rfl, ?_⟩) ?_ ?_
  rotate_left
  · intro w'; go_simp; with_reducible rfl
  rotate_left
  · simp only [sxx]; rfl
  refine pure_ (i := 9) (N := some 20) (v := ?_) (a' := ?_) bq93 rfl rfl (by kernel_rfl) (hq71 (by decide)) (Or.inl ⟨by rfl, ?_⟩) ?_ ?_
  rotate_left
  · intro w'; go_simp; with_reducible rfl
  rotate_left
  · simp only [sxx]; rfl
  refine pure_ (i := 10) (N := some 21) (v := undef) (a' := ?_) bq94 rfl rfl (by kernel_rfl) (hq71 (by decide)) (Or.inr ⟨by rfl, rfl⟩) ?_ ?_
  rotate_left
  · simp only [sxx]; rfl
  refine pure_ (i := 11) (N := some 22) (v := undef) (a' := ?_) bq95 rfl rfl (by kernel_rfl) (hq71 (by decide)) (Or.inr ⟨by rfl, rfl⟩) ?_ ?_
  rotate_left
  · simp only [sxx]; rfl
  refine pure_ (i := 12) (N := some 23) (v := undef) (a' := ?_) bq96 rfl rfl (by kernel_rfl) (hq71 (by decide)) (Or.inr ⟨by rfl, rfl⟩) ?_ ?_
  rotate_left
  · simp only [sxx]; rfl
  refine pure_ (i := 13) (N := some 24) (v := undef) (a' := ?_) bq97 rfl rfl (by kernel_rfl) (hq71 (by decide)) (Or.inr ⟨by rfl, rfl⟩) ?_ ?_
  rotate_left
  · simp only [sxx]; rfl
  refine pure_ (i := 14) (N := some 25) (v := ?_) (a' := ?_) bq98 rfl rfl (by kernel_rfl) (hq71 (by decide)) (Or.inl ⟨by rfl, ?_⟩) ?_ ?_
  rotate_left
  · intro w'; go_simp; with_reducible rfl
  rotate_left
  · simp only [sxx]; rfl
  refine pure_ (i := 15) (N := some 26) (v := ?_) (a' := ?_) bq99 rfl rfl (by kernel_rfl) (hq71 (by decide)) (Or.inl ⟨by rfl, ?_⟩) ?_ ?_
  rotate_left
  · intro w'; go_simp; with_reducible rfl
  rotate_left
  · simp only [sxx]; rfl
  refine pure_ (i := 16) (N := some 27) (v := undef) (a' := ?_) bq100 rfl rfl (by kernel_rfl) (hq71 (by decide)) (Or.inr ⟨by rfl, rfl⟩) ?_ ?_
  rotate_left
  · simp only [sxx]; rfl
  refine pure_ (i := 17) (N := some 28) (v := undef) (a' := ?_) bq101 rfl rfl (by kernel_rfl) (hq71 (by decide)) (Or.inr ⟨by rfl, rfl⟩) ?_ ?_
  rotate_left
  · simp only [sxx]; rfl
  refine pure_ (i := 18) (N := some 29) (v := undef) (a' := ?_) bq102 rfl rfl (by kernel_rfl) (hq71 (by decide)) (Or.inr ⟨by rfl, rfl⟩) ?_ ?_
  rotate_left
  · simp only [sxx]; rfl
  refine pure_ (i := 19) (N := some 30) (v := undef) (a' := ?_) bq103 rfl rfl (by kernel_rfl) (hq71 (by decide)) (Or.inr ⟨by rfl, rfl⟩) ?_ ?_
  rotate_left
  · simp only [sxx]; rfl
  refine pure_ (i := 20) (N := some 31) (v := ?_) (a' := ?_) bq104 rfl rfl (by kernel_rfl) (hq71 (by decide)) (Or.inl ⟨by rfl, ?_⟩) ?_ ?_
  rotate_left
  · intro w'; go_simp; with_reducible rfl
  rotate_left
  · simp only [sxx]; rfl
  refine pure_ (i := 21) (N := some 32) (v := ?_) (a' := ?_) bq105 rfl rfl (by kernel_rfl) (hq71 (by decide)) (Or.inl ⟨by rfl, ?_⟩) ?_ ?_
  rotate_left
  · intro w'; go_simp; with_reducible rfl
  rotate_left
  · simp only [sxx]; rfl
  refine pure_ (i := 22) (N := some 33) (v := undef) (a' := ?_) bq106 rfl rfl (by kernel_rfl) (hq71 (by decide)) (Or.inr ⟨by rfl, rfl⟩) ?_ ?_
  rotate_left
  · simp only [sxx]; rfl
  refine pure_ (i := 23) (N := some 34) (v := undef) (a' := ?_) bq107 rfl rfl (by kernel_rfl) (hq71 (by decide)) (Or.inr ⟨by rfl, rfl⟩) ?_ ?_
  rotate_left
  · simp only [sxx]; rfl
  refine pure_ (i := 24) (N := some 35) (v := undef) (a' := ?_) bq144 rfl rfl (by kernel_rfl) (hq71 (by decide)) (Or.inr ⟨by rfl, rfl⟩) ?_ ?_
  rotate_left
  · simp only [sxx]; rfl
  refine pure_ (i := 25) (N := some 36) (v := undef) (a' := ?_) bq109 rfl rfl (by kernel_rfl) (hq71 (by decide)) (Or.inr ⟨by rfl, rfl⟩) ?_ ?_
  rotate_left
  · simp only [sxx]; rfl
  refine pure_ (i := 26) (N := some 37) (v := undef) (a' := ?_) bq110 rfl rfl (by kernel_rfl) (hq71 (by decide)) (Or.inr ⟨by rfl, rfl⟩) ?_ ?_
  rotate_left
  · simp only [sxx]; rfl
  refine pure_ (i := 27) (N := some 38) (v := ?_) (a' := ?_) bq111 rfl rfl (by kernel_rfl) (hq71 (by decide)) (Or.inl ⟨by rfl, ?_⟩) ?_ ?_
  rotate_left
  · intro w'; go_simp; with_reducible rfl
  rotate_left
  · simp only [sxx]; rfl
  refine pure_ (i := 28) (N := some 39) (v := ?_) (a' := ?_) bq112 rfl rfl (by kernel_rfl) (hq71 (by decide)) (Or.inl ⟨by rfl, ?_⟩) ?_ ?_
  rotate_left
  · intro w'; go_simp; with_reducible rfl
  rotate_left
  · simp only [sxx]; rfl
  refine pure_ (i := 29) (N := some 40) (v := undef) (a' := ?_) bq113 rfl rfl (by kernel_rfl) (hq71 (by decide)) (Or.inr ⟨by rfl, rfl⟩) ?_ ?_
  rotate_left
  · simp only [sxx]; rfl
  refine pure_ (i := 30) (N := some 41) (v := undef) (a' := ?_) bq114 rfl rfl (by kernel_rfl) (hq71 (by decide)) (Or.inr ⟨by rfl, rfl⟩) ?_ ?_
  rotate_left
  · simp only [sxx]; rfl
  refine pure_ (i := 31) (N := some 42) (v := undef) (a' := ?_) bq145 rfl rfl (by kernel_rfl) (hq71 (by decide)) (Or.inr ⟨by rfl, rfl⟩) ?_ ?_
  rotate_left
  · simp only [sxx]; rfl
  refine pure_ (i := 32) (N := some 43) (v := undef) (a' := ?_) bq146 rfl rfl (by kernel_rfl) (hq71 (by decide)) (Or.inr ⟨by rfl, rfl⟩) ?_ ?_
  rotate_left
  · simp only [sxx]; rfl
  refine pure_ (i := 33) (N := some 44) (v := undef) (a' := ?_) bq117 rfl rfl (by kernel_rfl) (hq71 (by decide)) (Or.inr ⟨by rfl, rfl⟩) ?_ ?_
  rotate_left
  · simp only [sxx]; rfl
  refine pure_ (i := 34) (N := some 45) (v := undef) (a' := ?_) bq118 rfl rfl (by kernel_rfl) (hq71 (by decide)) (Or.inr ⟨by rfl, rfl⟩) ?_ ?_
  rotate_left
  · simp only [sxx]; rfl
  refine pure_ (i := 35) (N := some 46) (v := undef) (a' := ?_) bq119 rfl rfl (by kernel_rfl) (hq71 (by decide)) (Or.inr ⟨by rfl, rfl⟩) ?_ ?_
  rotate_left
  · simp only [sxx]; rfl
  refine pure_ (i := 36) (N := some 47) (v := ?_) (a' := ?_) bq120 rfl rfl (by kernel_rfl) (hq71 (by decide)) (Or.inl ⟨by rfl, ?_⟩) ?_ ?_
  rotate_left
  · intro w'; go_simp; with_reducible rfl
  rotate_left
  · simp only [sxx]; rfl
  refine done_ (by kernel_rfl) ?_
  have HV := Aside0.mk (below_drew1 HB.out)
  have HP4 := Aside0.mk (show wc.drew.heap[p4]? = _ from HP4.out)
  have HP5 := Aside0.mk (show wc.drew.heap[p5]? = _ from HP5.out)
  have HP6 := Aside0.mk (show wc.drew.heap[p6]? = _ from HP6.out)
  clear HB hHeld
  go_wp2_with (with_reducible refine stop_store rfl ?_)
  refine store_blk rfl rfl 28 _ _ rfl (q := p4) (i := 0) (cur' := zeroCells13) zeroCells13.toList rfl rfl rfl (by kernel_rfl) (by intro u hu; simp at hu; rcases hu with rfl | rfl | rfl | rfl <;> rfl) HP4.out (by simp) rfl ?_
  intro w11 hpb hgb
  have HPB := Aside0.mk hpb
  have HVB := Aside0.mk (HV.out.grown hgb HV.out.size (fun k e => by cases e; exact HPW.out.1))
  have HP5 := Aside0.mk ((hgb.block p5 (blk_lt HP5.out) (fun e => by have := HPW.out; have := Option.some.inj e; omega)).trans HP5.out)
  have HP6 := Aside0.mk ((hgb.block p6 (blk_lt HP6.out) (fun e => by have := HPW.out; have := Option.some.inj e; omega)).trans HP6.out)
  clear hpb hgb HV
  have n5 := (blk_cell HP5.out 0).trans rfl
  have f5 := blk_frozen HP5.out 0
  have n6 := (blk_cell HP6.out 0).trans rfl
  have f6 := blk_frozen HP6.out 0
  have HN56 := Aside0.mk (show p5 ≠ p6 by have := HPW.out; omega)
  have hne := HN56.out
  go_wp2_with fail
  clear hne n5 n6 f5 f6
  obtain ⟨wy, hwy⟩ : ∃ wy, wy = w11.setCell ⟨p5, 0, none⟩ (.int .i64 0) := ⟨_, rfl⟩
  obtain ⟨wz, hwz⟩ : ∃ wz, wz = wy.setCell ⟨p6, 0, none⟩ (.bool false) := ⟨_, rfl⟩
  rw [← hwy, ← hwz]
  have k4 : wz.heap[p4]? = some (.cells zeroCells13 28 (0, 0)) := by
    have := HPW.out
    rw [hwz, Below.heap_setCell wy _ _ p4 (by simp only; omega), hwy, Below.heap_setCell w11 _ _ p4 (by simp only; omega)]
    exact HPB.out
  have k6 : wy.heap[p6]? = some (.cells #[.bool false] 4 (0, 0)) := by
    have := HPW.out
    rw [hwy, Below.heap_setCell w11 _ _ p6 (by simp only; omega)]
    exact HP6.out
  have c5 : wz.cell? ⟨p5, 0, none⟩ = some (.int .i64 0) := by
    have hy : wy.cell? ⟨p5, 0, none⟩ = some (.int .i64 0) := by rw [hwy]; exact World.cell?_setCell_same' _ _ _ (by rw [blk_cell HP5.out 0]; rfl)
    have := HPW.out
    have he : wz.heap[p5]? = wy.heap[p5]? := by rw [hwz, Below.heap_setCell wy _ _ p5 (by simp only; omega)]
    simp only [World.cell?, he] at hy ⊢
    exact hy
  have c6 : wz.cell? ⟨p6, 0, none⟩ = some (.bool false) := by rw [hwz]; exact World.cell?_setCell_same' _ _ _ (by rw [blk_cell k6 0]; rfl)
  have hBZ : Below w.heap.size w wz := by
    rw [hwz, hwy]
    exact (HVB.out.setCell (p := ⟨p5, 0, none⟩) (by have := HPW.out; simp only; omega) _).setCell (p := ⟨p6, 0, none⟩) (by have := HPW.out; simp only; omega) _
  exact door71 rfl (results71_row _ _ p4 p5 p6 _ _ _ rfl rfl rfl k4 rfl c5 c6) ⟨rfl, hBZ⟩

theorem wr_small {a : Int} (h0 : 0 ≤ a) (h1 : a < 256) : wrap64 a = a ∧ wrap64 (a * 16777216) = a * 16777216 ∧ wrap64 (a * 65536) = a * 65536 ∧ wrap64 (a * 256) = a * 256 := by unfold wrap64; omega
theorem four_bytes (a b c d : Int) (t : List Int) (ha : 0 ≤ a ∧ a < 256) (hb : 0 ≤ b ∧ b < 256) (hc : 0 ≤ c ∧ c < 256) (hd : 0 ≤ d ∧ d < 256) : journal_four.f (a :: b :: c :: d :: t) = some (a * 16777216 + b * 65536 + c * 256 + d) := by
  unfold journal_four.f
  rw [if_pos (by simp only [List.length_cons]; omega), if_pos (by simp only [List.length_cons]; omega), if_pos (by simp only [List.length_cons]; omega), if_pos (by simp only [List.length_cons]; omega)]
  have e0 : rd (a :: b :: c :: d :: t) 0 = a := rfl
  have e1 : rd (a :: b :: c :: d :: t) 1 = b := rfl
  have e2 : rd (a :: b :: c :: d :: t) 2 = c := rfl
  have e3 : rd (a :: b :: c :: d :: t) 3 = d := rfl
  obtain ⟨a1, a2, a3, a4⟩ := wr_small ha.1 ha.2
  obtain ⟨b1, b2, b3, b4⟩ := wr_small hb.1 hb.2
  obtain ⟨c1, c2, c3, c4⟩ := wr_small hc.1 hc.2
  obtain ⟨d1, d2, d3, d4⟩ := wr_small hd.1 hd.2
  rw [e0, e1, e2, e3, a1, b1, c1, d1, a2, b3, c4, word_join .i64 (by decide) (fun n h0 h1 => wr_i64 n h0 (by omega)) a b c d ha hb hc hd]
theorem four_val (v : Int) (h0 : 0 ≤ v) (h1 : v < 4294967296) (t : List Int) : journal_four.f (four4 v ++ t) = some v := by
  have h := four_bytes ((v / 16777216) % 256) ((v / 65536) % 256) ((v / 256) % 256) (v % 256) t (by omega) (by omega) (by omega) (by omega)
  show journal_four.f (((v / 16777216) % 256) :: ((v / 65536) % 256) :: ((v / 256) % 256) :: (v % 256) :: t) = some v
  rw [h]
  congr 1
  omega
/-- A record's bytes, by their parts. -/
theorem rec_parts (sq kd : Int) (b t : List Int) : recBytes sq kd b ++ t = (withSum (recHead sq kd b.length) ++ b) ++ (four4 (sumW (withSum (recHead sq kd b.length) ++ b)) ++ t) := by
  unfold recBytes
  rw [show withSum (withSum (recHead sq kd b.length) ++ b) = (withSum (recHead sq kd b.length) ++ b) ++ four4 (sumW (withSum (recHead sq kd b.length) ++ b)) from rfl, List.append_assoc]
theorem withHead_len (sq kd : Int) (m : Nat) : (withSum (recHead sq kd m)).length = 16 := by rw [withSum_len, recHead_len]
theorem recBytes_len (sq kd : Int) (b : List Int) : (recBytes sq kd b).length = b.length + 20 := by
  unfold recBytes
  rw [withSum_len, List.length_append, withHead_len]
  omega
set_option maxHeartbeats 4000000 in
set_option maxRecDepth 100000 in
theorem rd_body (sq kd s v k se rq : Int) (l2 : List S40) (vn vp vb st of : Int) (x : ByteArray) (b t : List Int) (hsq : 1 ≤ sq ∧ sq ≤ 2147483647) (hE : recEnc sq kd s v k se rq l2 vn vp vb st of x = (recBytes sq kd b, 0)) (hb : bytesOk b = true) (hbl : b.length ≤ 3000000) (hkd : 0 ≤ kd ∧ kd < 256) (ht : bytesOk t = true) (hmx : (recBytes sq kd b ++ t).length ≤ 1000000000)
    (hrec : ∀ (w w1 : World) (rb : Nat) (A' : Option Addr) (c' : Nat), Below w.heap.size w w1 → w.heap.size ≤ rb → b.length ≤ c' → w1.heap[rb]? = some (.cells #[.slice A' b.length c', .int .i64 0] 147 (0, 0)) → C8 w A' b.length b →
      Calls Try.prog 84 #[.pointer (some ⟨rb, 0, none⟩), .int .i64 kd] w1 fun e w' => ∃ B nb cb, e = .returned (.agg (recCells kd s v k se rq B nb cb vn vp vb st of x)) ∧ l2.length = nb ∧ R40 w' w1.heap.size (.slice B nb cb) l2 ∧ Frm w1 w' (fun k => k = rb))
    (w : World) (A : Option Addr) (n c : Nat) (hn : (recBytes sq kd b ++ t).length = n) (hc : n ≤ c) (hC : C8 w A n (recBytes sq kd b ++ t)) :
    Calls Try.prog 71 #[.slice A n c, .int .i64 sq] w fun e w' => ∃ B nb cb, e = .returned (.tuple #[.agg (recCells kd s v k se rq B nb cb vn vp vb st of x), .int .i64 ((b.length : Int) + 20), .bool true]) ∧ l2.length = nb ∧ R40 w' w.heap.size (.slice B nb cb) l2 ∧ Below w.heap.size w w' := by
  obtain ⟨m, hm⟩ : ∃ m, m = b.length := ⟨_, rfl⟩
  obtain ⟨L, hL⟩ : ∃ L, L = recBytes sq kd b ++ t := ⟨_, rfl⟩
  have hp := rec_parts sq kd b t
  rw [← hL] at hp hn hC hmx
  have hH : (withSum (recHead sq kd b.length) ++ b).length = 16 + m := by rw [List.length_append, withHead_len, hm]
  have hlen : L.length = 20 + m + t.length := by rw [hp, List.length_append, hH, List.length_append, four4_len]; omega
  have hk : kd % 256 = kd := by omega
  have hLx : L = 74 :: 82 :: (kd % 256) :: 0 :: (four4 sq ++ (four4 (b.length : Int) ++ (four4 (sumW (recHead sq kd b.length)) ++ (b ++ (four4 (sumW (withSum (recHead sq kd b.length) ++ b)) ++ t))))) := by
    rw [hp]
    simp only [withSum, recHead, List.append_assoc, List.cons_append, List.nil_append]
  have h12 : L.take 12 = recHead sq kd b.length := by
    rw [hp]
    rw [show withSum (recHead sq kd b.length) = recHead sq kd b.length ++ four4 (sumW (recHead sq kd b.length)) from rfl, List.append_assoc, List.append_assoc]
    exact List.take_left' (recHead_len ..)
  have hs1 := sumW_range (recHead sq kd b.length) (recHead_ok ..)
  have hok2 : bytesOk (withSum (recHead sq kd b.length) ++ b) = true := bytesOk_append (withSum_ok (recHead_ok ..)) hb
  have hs2 := sumW_range _ hok2
  have hLok : bytesOk L = true := by rw [hp]; exact bytesOk_append hok2 (bytesOk_append (four4_ok _) ht)
  have e0 : rd L 0 = 74 := by rw [hLx]; rfl
  have e1 : rd L 1 = 82 := by rw [hLx]; rfl
  have e2 : rd L 2 = kd := by rw [hLx]; exact hk
  have e3 : rd L 3 = 0 := by rw [hLx]; rfl
  have d4 : journal_four.f (L.drop 4) = some sq := by rw [hLx]; exact four_val sq (by omega) (by omega) _
  have d8 : journal_four.f (L.drop 8) = some (m : Int) := by rw [hLx, hm]; exact four_val (b.length : Int) (by omega) (by omega) _
  have d12 : journal_four.f (L.drop 12) = some (sumW (L.take 12)) := by rw [h12, hLx]; exact four_val _ hs1.1 hs1.2 _
  have dt : L.take (16 + m) = withSum (recHead sq kd b.length) ++ b := by rw [hp]; exact List.take_left' hH
  have dd : L.drop (16 + m) = four4 (sumW (withSum (recHead sq kd b.length) ++ b)) ++ t := by rw [hp]; exact List.drop_left' hH
  have d16 : journal_four.f (L.drop (16 + m)) = some (sumW (L.take (16 + m))) := by rw [dd, dt]; exact four_val _ hs2.1 hs2.2 _
  have db : (L.take (16 + m)).drop 16 = b := by rw [dt]; exact List.drop_left' (withHead_len _ _ _)
  rw [← hm]
  refine read_ok w A n c L sq m kd s v k se rq l2 vn vp vb st of x _ hn hc (by omega) hLok hC (by omega) e0 e1 e2 e3 d4 d8 d12 d16 hE ?_
  intro w1 rb A' c' h1 h2 h3 h4 h5
  rw [db] at h5
  rw [hm] at h3 h4 h5
  exact hrec w w1 rb A' c' h1 h2 h3 h4 h5

theorem str_bytes (s : ByteArray) : strOfNums (bytesOf s) = s := by
  unfold strOfNums bytesOf
  apply ByteArray.ext
  have e : ((fun n : Int => UInt8.ofNat n.toNat) ∘ fun b : UInt8 => (b.toNat : Int)) = id := by funext b; simp
  simp [e]
theorem empty_str {x : ByteArray} (h : x.toList = []) : x = ⟨#[]⟩ := by
  apply ByteArray.ext
  apply Array.toList_inj.1
  rw [ByteArray.toList_eq] at h
  exact h
/-- Where the next thing stands. -/
theorem step_at {l a t : List Int} {i : Nat} (hi : i ≤ l.length) (h : l.drop i = a ++ t) : i + a.length ≤ l.length ∧ l.drop (i + a.length) = t := ⟨drop_le rfl hi h, drop_next h⟩
theorem op_at {l t : List Int} {i : Nat} {o : S40} (hi : i ≤ l.length) (h : l.drop i = opEnc o ++ t) (ho : opOk o = true) : OpAt l (i : Int) o ((i + (opEnc o).length : Nat) : Int) := by
  obtain ⟨⟨a0, a1⟩, ⟨b0, b1⟩, h3, hs1, hs2⟩ := opOk_parts ho
  unfold opEnc at h ⊢
  by_cases e3 : o.f3 = -1
  · rw [if_pos e3] at h ⊢
    simp only [List.append_assoc] at h
    have r0 := readNum_drop a0 a1 hi h
    obtain ⟨hi1, h1⟩ := step_at hi h
    have r1 := readText_drop (by omega) hi1 h1
    obtain ⟨hi2, h2⟩ := step_at hi1 h1
    have r2 := readText_drop (by omega) hi2 h2
    obtain ⟨hi3, h3⟩ := step_at hi2 h2
    have r3 := readNum_drop (by omega) (by omega) hi3 h3
    obtain ⟨hi4, h4⟩ := step_at hi3 h3
    have r4 := readNum_drop b0 b1 hi4 h4
    refine ⟨_, _, _, _, _, _, r0, r1, str_bytes _, r2, str_bytes _, .inl ⟨e3, r3, ?_⟩⟩
    rw [r4]
    simp only [List.length_append]
    congr 3
    omega
  · rw [if_neg e3] at h ⊢
    have h3' : 0 ≤ o.f3 ∧ o.f3 ≤ 2147483647 := h3.resolve_left e3
    simp only [List.append_assoc] at h
    have r0 := readNum_drop a0 a1 hi h
    obtain ⟨hi1, h1⟩ := step_at hi h
    have r1 := readText_drop (by omega) hi1 h1
    obtain ⟨hi2, h2⟩ := step_at hi1 h1
    have r2 := readText_drop (by omega) hi2 h2
    obtain ⟨hi3, h3⟩ := step_at hi2 h2
    have r3 := readNum_drop (by omega) (by omega) hi3 h3
    obtain ⟨hi4, h4⟩ := step_at hi3 h3
    have r4 := readNum_drop h3'.1 h3'.2 hi4 h4
    obtain ⟨hi5, h5⟩ := step_at hi4 h4
    have r5 := readNum_drop b0 b1 hi5 h5
    refine ⟨_, _, _, _, _, _, r0, r1, str_bytes _, r2, str_bytes _, .inr ⟨_, r3, r4, ?_⟩⟩
    rw [r5]
    simp only [List.length_append]
    congr 3
    omega
theorem ops_at {l : List Int} : ∀ (ops : List S40) {t : List Int} {i : Nat}, i ≤ l.length → l.drop i = opsEncs ops ++ t → ops.all opOk = true → OpsAt l (i : Int) ops ((i + (opsEncs ops).length : Nat) : Int)
  | [], t, i, hi, h, ho => by simp [OpsAt, opsEncs]
  | o :: os, t, i, hi, h, ho => by
    rw [List.all_cons, Bool.and_eq_true] at ho
    have e : opsEncs (o :: os) = opEnc o ++ opsEncs os := by simp [opsEncs]
    rw [e, List.append_assoc] at h
    obtain ⟨hi1, h1⟩ := step_at hi h
    refine ⟨_, op_at hi h ho.1, ?_⟩
    have := ops_at os hi1 h1 ho.2
    rw [e, List.length_append, ← Nat.add_assoc]
    exact this
theorem ent_at (s v k se rq : Int) (ops : List S40) (h : entOk s v k se rq ops = true) : EntAt (entBytes s v k se rq ops) 0 s v k se rq ops ((entBytes s v k se rq ops).length : Int) := by
  obtain ⟨hx, hl, ho⟩ := entOk_parts h
  have hs := hx s (by simp)
  have hv := hx v (by simp)
  have hk := hx k (by simp)
  have he := hx se (by simp)
  have hq := hx rq (by simp)
  obtain ⟨L, hL⟩ : ∃ L, L = entBytes s v k se rq ops := ⟨_, rfl⟩
  rw [← hL]
  have h0 : L.drop 0 = (numEnc s).1 ++ ((numEnc v).1 ++ ((numEnc k).1 ++ ((numEnc se).1 ++ ((numEnc rq).1 ++ ((numEnc (ops.length : Int)).1 ++ (opsEncs ops ++ [])))))) := by
    rw [hL]
    simp [entBytes, opsEnc, List.append_assoc]
  have hi0 : 0 ≤ L.length := Nat.zero_le _
  have r0 := readNum_drop hs.1 hs.2 hi0 h0
  obtain ⟨hi1, h1⟩ := step_at hi0 h0
  have r1 := readNum_drop hv.1 hv.2 hi1 h1
  obtain ⟨hi2, h2⟩ := step_at hi1 h1
  have r2 := readNum_drop hk.1 hk.2 hi2 h2
  obtain ⟨hi3, h3⟩ := step_at hi2 h2
  have r3 := readNum_drop he.1 he.2 hi3 h3
  obtain ⟨hi4, h4⟩ := step_at hi3 h3
  have r4 := readNum_drop hq.1 hq.2 hi4 h4
  obtain ⟨hi5, h5⟩ := step_at hi4 h4
  have r5 := readNum_drop (by omega) (by omega) hi5 h5
  obtain ⟨hi6, h6⟩ := step_at hi5 h5
  have r6 := ops_at ops hi6 h6 ho
  refine ⟨_, _, _, _, _, _, r0, r1, r2, r3, r4, r5, ?_⟩
  have hlen := congrArg List.length h0
  simp only [List.drop_zero, List.length_append, List.length_nil] at hlen
  rw [show (L.length : Int) = ((0 + (numEnc s).1.length + (numEnc v).1.length + (numEnc k).1.length + (numEnc se).1.length + (numEnc rq).1.length + (numEnc (ops.length : Int)).1.length + (opsEncs ops).length : Nat) : Int) from by congr 1; omega]
  exact r6
theorem opEnc_small {o : S40} (h : opOk o = true) : (opEnc o).length ≤ 550 := by
  obtain ⟨_, _, _, hs1, hs2⟩ := opOk_parts h
  have t1 : (textEnc o.f1).1.length ≤ 5 + 256 := by
    unfold textEnc
    rw [if_neg (by omega), List.length_append, bytesOf_length]
    have := numBytes_len 4 (o.f1.size : Int)
    omega
  have t2 : (textEnc o.f2).1.length ≤ 5 + 256 := by
    unfold textEnc
    rw [if_neg (by omega), List.length_append, bytesOf_length]
    have := numBytes_len 4 (o.f2.size : Int)
    omega
  have n0 := numEnc_len o.f0
  have n4 := numEnc_len o.f4
  have n3 := numEnc_len o.f3
  have z0 := numEnc_len 0
  have z1 := numEnc_len 1
  unfold opEnc
  simp only [List.length_append]
  split
  · omega
  · rw [List.length_append]; omega
theorem opsEncs_small : ∀ (ops : List S40), ops.all opOk = true → (opsEncs ops).length ≤ 550 * ops.length
  | [], _ => by simp [opsEncs]
  | o :: os, h => by
    rw [List.all_cons, Bool.and_eq_true] at h
    have h1 := opEnc_small h.1
    have h2 := opsEncs_small os h.2
    have e : opsEncs (o :: os) = opEnc o ++ opsEncs os := by simp [opsEncs]
    rw [e, List.length_append, List.length_cons]
    omega
theorem entBytes_small {s v k se rq : Int} {ops : List S40} (h : entOk s v k se rq ops = true) : (entBytes s v k se rq ops).length ≤ 3000 := by
  obtain ⟨hx, hl, ho⟩ := entOk_parts h
  have h1 := numEnc_len s
  have h2 := numEnc_len v
  have h3 := numEnc_len k
  have h4 := numEnc_len se
  have h5 := numEnc_len rq
  have h6 := numEnc_len (ops.length : Int)
  have h7 := opsEncs_small ops ho
  unfold entBytes opsEnc
  simp only [List.length_append, List.length_nil]
  omega

def Num (v : Int) : Prop := 0 ≤ v ∧ v ≤ 2147483647
theorem nums1 {a : Int} (ha : Num a) : readNum (numsEnc [a]) 0 = (a, ((numsEnc [a]).length : Int), 0) := by
  obtain ⟨L, hL⟩ : ∃ L, L = numsEnc [a] := ⟨_, rfl⟩
  rw [← hL]
  have h0 : L.drop 0 = (numEnc a).1 ++ [] := by rw [hL]; simp [numsEnc]
  have hi0 : 0 ≤ L.length := Nat.zero_le _
  have r0 := readNum_drop ha.1 ha.2 hi0 h0
  have hlen := congrArg List.length h0
  simp only [List.drop_zero, List.length_append, List.length_nil] at hlen
  rw [show (L.length : Int) = ((0 + (numEnc a).1.length : Nat) : Int) from by congr 1; omega]
  exact r0
theorem nums3 {a b c : Int} (ha : Num a) (hb : Num b) (hc : Num c) : ∃ q1 q2, readNum (numsEnc [a, b, c]) 0 = (a, q1, 0) ∧ readNum (numsEnc [a, b, c]) q1 = (b, q2, 0) ∧ readNum (numsEnc [a, b, c]) q2 = (c, ((numsEnc [a, b, c]).length : Int), 0) := by
  obtain ⟨L, hL⟩ : ∃ L, L = numsEnc [a, b, c] := ⟨_, rfl⟩
  rw [← hL]
  have h0 : L.drop 0 = (numEnc a).1 ++ ((numEnc b).1 ++ ((numEnc c).1 ++ [])) := by rw [hL]; simp [numsEnc]
  have hi0 : 0 ≤ L.length := Nat.zero_le _
  have r0 := readNum_drop ha.1 ha.2 hi0 h0
  obtain ⟨hi1, h1⟩ := step_at hi0 h0
  have r1 := readNum_drop hb.1 hb.2 hi1 h1
  obtain ⟨hi2, h2⟩ := step_at hi1 h1
  have r2 := readNum_drop hc.1 hc.2 hi2 h2
  refine ⟨_, _, r0, r1, ?_⟩
  have hlen := congrArg List.length h0
  simp only [List.drop_zero, List.length_append, List.length_nil] at hlen
  rw [show (L.length : Int) = ((0 + (numEnc a).1.length + (numEnc b).1.length + (numEnc c).1.length : Nat) : Int) from by congr 1; omega]
  exact r2
theorem nums2t {a b : Int} {x : ByteArray} (ha : Num a) (hb : Num b) (hx : x.size ≤ 262144) : ∃ q1 q2, readNum (numsEnc [a, b] ++ (textEnc x).1) 0 = (a, q1, 0) ∧ readNum (numsEnc [a, b] ++ (textEnc x).1) q1 = (b, q2, 0) ∧ readText (numsEnc [a, b] ++ (textEnc x).1) q2 = (bytesOf x, ((numsEnc [a, b] ++ (textEnc x).1).length : Int), 0) := by
  obtain ⟨L, hL⟩ : ∃ L, L = numsEnc [a, b] ++ (textEnc x).1 := ⟨_, rfl⟩
  rw [← hL]
  have h0 : L.drop 0 = (numEnc a).1 ++ ((numEnc b).1 ++ ((textEnc x).1 ++ [])) := by rw [hL]; simp [numsEnc]
  have hi0 : 0 ≤ L.length := Nat.zero_le _
  have r0 := readNum_drop ha.1 ha.2 hi0 h0
  obtain ⟨hi1, h1⟩ := step_at hi0 h0
  have r1 := readNum_drop hb.1 hb.2 hi1 h1
  obtain ⟨hi2, h2⟩ := step_at hi1 h1
  have r2 := readText_drop hx hi2 h2
  refine ⟨_, _, r0, r1, ?_⟩
  have hlen := congrArg List.length h0
  simp only [List.drop_zero, List.length_append, List.length_nil] at hlen
  rw [show (L.length : Int) = ((0 + (numEnc a).1.length + (numEnc b).1.length + (textEnc x).1.length : Nat) : Int) from by congr 1; omega]
  exact r2
theorem nums3t {a b c : Int} {x : ByteArray} (ha : Num a) (hb : Num b) (hc : Num c) (hx : x.size ≤ 262144) : ∃ q0 q1 q2, readNum (numsEnc [a, b, c] ++ (textEnc x).1) 0 = (a, q0, 0) ∧ readNum (numsEnc [a, b, c] ++ (textEnc x).1) q0 = (b, q1, 0) ∧ readNum (numsEnc [a, b, c] ++ (textEnc x).1) q1 = (c, q2, 0) ∧ readText (numsEnc [a, b, c] ++ (textEnc x).1) q2 = (bytesOf x, ((numsEnc [a, b, c] ++ (textEnc x).1).length : Int), 0) := by
  obtain ⟨L, hL⟩ : ∃ L, L = numsEnc [a, b, c] ++ (textEnc x).1 := ⟨_, rfl⟩
  rw [← hL]
  have h0 : L.drop 0 = (numEnc a).1 ++ ((numEnc b).1 ++ ((numEnc c).1 ++ ((textEnc x).1 ++ []))) := by rw [hL]; simp [numsEnc]
  have hi0 : 0 ≤ L.length := Nat.zero_le _
  have r0 := readNum_drop ha.1 ha.2 hi0 h0
  obtain ⟨hi1, h1⟩ := step_at hi0 h0
  have r1 := readNum_drop hb.1 hb.2 hi1 h1
  obtain ⟨hi2, h2⟩ := step_at hi1 h1
  have r2 := readNum_drop hc.1 hc.2 hi2 h2
  obtain ⟨hi3, h3⟩ := step_at hi2 h2
  have r3 := readText_drop hx hi3 h3
  refine ⟨_, _, _, r0, r1, r2, ?_⟩
  have hlen := congrArg List.length h0
  simp only [List.drop_zero, List.length_append, List.length_nil] at hlen
  rw [show (L.length : Int) = ((0 + (numEnc a).1.length + (numEnc b).1.length + (numEnc c).1.length + (textEnc x).1.length : Nat) : Int) from by congr 1; omega]
  exact r3
theorem blankE_parts {s v k se rq : Int} {l : List S40} (h : blankE s v k se rq l = true) : s = 0 ∧ v = 0 ∧ k = 0 ∧ se = 0 ∧ rq = 0 ∧ l = [] := by
  unfold blankE at h
  simp only [Bool.and_eq_true, beq_iff_eq, decide_eq_true_eq, List.length_eq_zero_iff] at h
  exact h
theorem noState_parts {of : Int} {x : ByteArray} (h : noState of x = true) : x = ⟨#[]⟩ ∧ of = 0 := by
  unfold noState at h
  simp only [Bool.and_eq_true, beq_iff_eq, decide_eq_true_eq] at h
  exact ⟨empty_str h.1, h.2⟩
theorem noView_parts {a b c : Int} (h : noView a b c = true) : a = 0 ∧ b = 0 ∧ c = 0 := by
  unfold noView at h
  simpa only [Bool.and_eq_true, beq_iff_eq] using h
theorem vMay_parts {a b c : Int} (h : vMay a b c = true) : Num a ∧ Num b ∧ Num c ∧ 1 ≤ a := by
  unfold vMay at h
  simp only [Bool.and_eq_true, decide_eq_true_eq] at h
  unfold Num
  omega
theorem nMay_parts {a b c : Int} (h : nMay a b c = true) : Num a ∧ b = 0 ∧ c = 0 ∧ 1 ≤ a := by
  unfold nMay at h
  simp only [Bool.and_eq_true, decide_eq_true_eq, beq_iff_eq] at h
  unfold Num
  omega
/-- What Encode writes, by the kind. -/
theorem recEnc_parts {sq kd s v k se rq : Int} {l : List S40} {vn vp vb st of : Int} {x : ByteArray} {r1 : List Int} (h : recEnc sq kd s v k se rq l vn vp vb st of x = (r1, 0)) :
    r1 = recBytes sq kd (recBody kd s v k se rq l vn vp vb st of x).1 ∧ (recBody kd s v k se rq l vn vp vb st of x).2 = true ∧ (1 ≤ sq ∧ sq ≤ 2147483647) ∧ x.size ≤ 200000 := by
  unfold recEnc at h
  by_cases hx : (x.size : Int) > 200000
  · rw [if_pos hx] at h; cases h
  · rw [if_neg hx] at h
    by_cases hb : ((recBody kd s v k se rq l vn vp vb st of x).2 && seqOk sq) = true
    · rw [if_pos hb] at h
      rw [Bool.and_eq_true] at hb
      have hs := hb.2
      unfold seqOk at hs
      simp only [Bool.and_eq_true, decide_eq_true_eq] at hs
      exact ⟨(Prod.mk.inj h).1.symm, hb.1, hs, by omega⟩
    · rw [if_neg hb] at h; cases h
set_option maxRecDepth 100000 in
theorem rd_valid (sq : Int) (y : JR) (r1 : List Int) (hE : recEnc sq y.kd y.s y.v y.k y.se y.rq y.ops y.vn y.vp y.vb y.st y.of y.x = (r1, 0)) (t : List Int) (ht : bytesOk t = true) (hmx : (r1 ++ t).length ≤ 1000000000) : RdSpec (r1 ++ t) sq (some (y, r1.length)) := by
  obtain ⟨kd, s, v, k, se, rq, ops, vn, vp, vb, st, of, x⟩ := y
  simp only at hE
  obtain ⟨h1, h2, hsq, hx⟩ := recEnc_parts hE
  subst h1
  have hbok := recBody_ok kd s v k se rq ops vn vp vb st of x
  have hbl := recBody_len kd s v k se rq ops vn vp vb st of x
  have key := rd_body sq kd s v k se rq ops vn vp vb st of x _ t hsq hE hbok hbl
  have fin : (0 ≤ kd ∧ kd < 256) → (∀ (w w1 : World) (rb : Nat) (A' : Option Addr) (c' : Nat), Below w.heap.size w w1 → w.heap.size ≤ rb → (recBody kd s v k se rq ops vn vp vb st of x).1.length ≤ c' → w1.heap[rb]? = some (.cells #[.slice A' (recBody kd s v k se rq ops vn vp vb st of x).1.length c', .int .i64 0] 147 (0, 0)) → C8 w A' (recBody kd s v k se rq ops vn vp vb st of x).1.length (recBody kd s v k se rq ops vn vp vb st of x).1 →
      Calls Try.prog 84 #[.pointer (some ⟨rb, 0, none⟩), .int .i64 kd] w1 fun e w' => ∃ B nb cb, e = .returned (.agg (recCells kd s v k se rq B nb cb vn vp vb st of x)) ∧ ops.length = nb ∧ R40 w' w1.heap.size (.slice B nb cb) ops ∧ Frm w1 w' (fun k => k = rb)) → RdSpec (recBytes sq kd (recBody kd s v k se rq ops vn vp vb st of x).1 ++ t) sq (some (⟨kd, s, v, k, se, rq, ops, vn, vp, vb, st, of, x⟩, (recBytes sq kd (recBody kd s v k se rq ops vn vp vb st of x).1).length)) := by
    intro hkd hrec w A n c hn hc hC
    refine (key hkd ht hmx hrec w A n c hn hc hC).mono ?_
    rintro e w' ⟨B, nb, cb, rfl, rfl, hr, hb⟩
    exact ⟨B, cb, by rw [recBytes_len]; rfl, hr, hb⟩
  clear key
  by_cases k1 : kd = 1
  · subst k1
    have e1 : (recBody 1 s v k se rq ops vn vp vb st of x).2 = (entOk s v k se rq ops && (noView vn vp vb && ((st == 0) && noState of x))) := rfl
    rw [e1] at h2
    simp only [Bool.and_eq_true, beq_iff_eq] at h2
    obtain ⟨hok, hv, rfl, hs⟩ := h2
    obtain ⟨rfl, rfl, rfl⟩ := noView_parts hv
    obtain ⟨rfl, rfl⟩ := noState_parts hs
    refine fin (by omega) ?_
    have eb : (recBody 1 s v k se rq ops 0 0 0 0 0 ⟨#[]⟩).1 = entBytes s v k se rq ops := by
      show (if entOk s v k se rq ops = true then entBytes s v k se rq ops else []) = _
      rw [if_pos hok]
    rw [eb] at hbok ⊢
    have hsm := entBytes_small hok
    have hl := (entOk_parts hok).2.1
    intro w w1 rb A' c' hB hrb hc' hg hC
    refine (rd_entry w w1 rb _ c' A' (entBytes s v k se rq ops) s v k se rq ops ops.length rfl (by omega) rfl hc' hbok (by omega) hC hB hrb hg (ent_at s v k se rq ops hok) hok).mono ?_
    rintro e w' ⟨B, cb, rfl, hr, hf⟩
    exact ⟨B, _, cb, rfl, rfl, hr, hf⟩
  by_cases k2 : kd = 2
  · subst k2
    have e1 : (recBody 2 s v k se rq ops vn vp vb st of x).2 = (vMay vn vp vb && (blankE s v k se rq ops && ((st == 0) && noState of x))) := rfl
    rw [e1] at h2
    simp only [Bool.and_eq_true, beq_iff_eq] at h2
    obtain ⟨hv, hbk, rfl, hs⟩ := h2
    obtain ⟨rfl, rfl, rfl, rfl, rfl, rfl⟩ := blankE_parts hbk
    obtain ⟨rfl, rfl⟩ := noState_parts hs
    obtain ⟨p1, p2, p3, _⟩ := vMay_parts hv
    refine fin (by omega) ?_
    have eb : (recBody 2 0 0 0 0 0 [] vn vp vb 0 0 ⟨#[]⟩).1 = numsEnc [vn, vp, vb] := rfl
    rw [eb] at hbok hbl ⊢
    obtain ⟨q1, q2, r0, r1, r2⟩ := nums3 p1 p2 p3
    intro w w1 rb A' c' hB hrb hc' hg hC
    refine (rd_view w w1 rb _ c' A' (numsEnc [vn, vp, vb]) vn q1 vp q2 vb rfl hc' hbok (by omega) hC hB hrb hg r0 r1 r2).mono ?_
    rintro e w' ⟨rfl, hf⟩
    exact ⟨none, 0, 0, rfl, rfl, Kd.R_nil _ _ _ _ _, hf⟩
  by_cases k3 : kd = 3
  · subst k3
    have e1 : (recBody 3 s v k se rq ops vn vp vb st of x).2 = (nMay vn vp vb && (blankE s v k se rq ops && ((st == 0) && noState of x))) := rfl
    rw [e1] at h2
    simp only [Bool.and_eq_true, beq_iff_eq] at h2
    obtain ⟨hv, hbk, rfl, hs⟩ := h2
    obtain ⟨rfl, rfl, rfl, rfl, rfl, rfl⟩ := blankE_parts hbk
    obtain ⟨rfl, rfl⟩ := noState_parts hs
    obtain ⟨p1, rfl, rfl, _⟩ := nMay_parts hv
    refine fin (by omega) ?_
    have eb : (recBody 3 0 0 0 0 0 [] vn 0 0 0 0 ⟨#[]⟩).1 = numsEnc [vn] := rfl
    rw [eb] at hbok hbl ⊢
    intro w w1 rb A' c' hB hrb hc' hg hC
    refine (rd_matched w w1 rb _ c' A' (numsEnc [vn]) vn rfl hc' hbok (by omega) hC hB hrb hg (nums1 p1)).mono ?_
    rintro e w' ⟨rfl, hf⟩
    exact ⟨none, 0, 0, rfl, rfl, Kd.R_nil _ _ _ _ _, hf⟩
  by_cases k4 : kd = 4
  · subst k4
    have e1 : (recBody 4 s v k se rq ops vn vp vb st of x).2 = (nMay vn vp vb && (blankE s v k se rq ops && (numOk st && numOk of))) := rfl
    rw [e1] at h2
    simp only [Bool.and_eq_true, beq_iff_eq] at h2
    obtain ⟨hv, hbk, hst, hof⟩ := h2
    obtain ⟨rfl, rfl, rfl, rfl, rfl, rfl⟩ := blankE_parts hbk
    obtain ⟨p1, rfl, rfl, _⟩ := nMay_parts hv
    refine fin (by omega) ?_
    have eb : (recBody 4 0 0 0 0 0 [] vn 0 0 st of x).1 = numsEnc [vn, st, of] ++ (textEnc x).1 := rfl
    rw [eb] at hbok hbl ⊢
    obtain ⟨q0, q1, q2, r0, r1, r2, r3⟩ := nums3t p1 (numOk_iff hst) (numOk_iff hof) (show x.size ≤ 262144 by omega)
    intro w w1 rb A' c' hB hrb hc' hg hC
    refine (rd_reset w w1 rb _ c' A' (numsEnc [vn, st, of] ++ (textEnc x).1) vn st of q0 q1 q2 (bytesOf x) x rfl hc' hbok (by omega) hC hB hrb hg r0 r1 r2 r3 (str_bytes x)).mono ?_
    rintro e w' ⟨rfl, hf⟩
    exact ⟨none, 0, 0, rfl, rfl, Kd.R_nil _ _ _ _ _, hf⟩
  by_cases k5 : kd = 5
  · subst k5
    have e1 : (recBody 5 s v k se rq ops vn vp vb st of x).2 = (noView vn vp vb && (blankE s v k se rq ops && (numOk st && numOk of))) := rfl
    rw [e1] at h2
    simp only [Bool.and_eq_true, beq_iff_eq] at h2
    obtain ⟨hv, hbk, hst, hof⟩ := h2
    obtain ⟨rfl, rfl, rfl, rfl, rfl, rfl⟩ := blankE_parts hbk
    obtain ⟨rfl, rfl, rfl⟩ := noView_parts hv
    refine fin (by omega) ?_
    have eb : (recBody 5 0 0 0 0 0 [] 0 0 0 st of x).1 = numsEnc [st, of] ++ (textEnc x).1 := rfl
    rw [eb] at hbok hbl ⊢
    obtain ⟨q1, q2, r0, r1, r2⟩ := nums2t (numOk_iff hst) (numOk_iff hof) (show x.size ≤ 262144 by omega)
    intro w w1 rb A' c' hB hrb hc' hg hC
    refine (rd_save w w1 rb _ c' A' (numsEnc [st, of] ++ (textEnc x).1) st of q1 q2 (bytesOf x) x rfl hc' hbok (by omega) hC hB hrb hg r0 r1 r2 (str_bytes x)).mono ?_
    rintro e w' ⟨rfl, hf⟩
    exact ⟨none, 0, 0, rfl, rfl, Kd.R_nil _ _ _ _ _, hf⟩
  by_cases k6 : kd = 6
  · subst k6
    have e1 : (recBody 6 s v k se rq ops vn vp vb st of x).2 = (numOk st && (blankE s v k se rq ops && (noState of x && noView vn vp vb))) := rfl
    rw [e1] at h2
    simp only [Bool.and_eq_true, beq_iff_eq] at h2
    obtain ⟨hst, hbk, hs, hv⟩ := h2
    obtain ⟨rfl, rfl, rfl, rfl, rfl, rfl⟩ := blankE_parts hbk
    obtain ⟨rfl, rfl, rfl⟩ := noView_parts hv
    obtain ⟨rfl, rfl⟩ := noState_parts hs
    refine fin (by omega) ?_
    have eb : (recBody 6 0 0 0 0 0 [] 0 0 0 st 0 ⟨#[]⟩).1 = numsEnc [st] := rfl
    rw [eb] at hbok hbl ⊢
    intro w w1 rb A' c' hB hrb hc' hg hC
    refine (rd_commit w w1 rb _ c' A' (numsEnc [st]) st rfl hc' hbok (by omega) hC hB hrb hg (nums1 (numOk_iff hst))).mono ?_
    rintro e w' ⟨rfl, hf⟩
    exact ⟨none, 0, 0, rfl, rfl, Kd.R_nil _ _ _ _ _, hf⟩
  · exfalso
    unfold recBody at h2
    rw [if_neg k1, if_neg k2, if_neg k3, if_neg k4, if_neg k5, if_neg k6] at h2
    cases h2

/-- d is what Encode writes of the records ys, numbered from k + 1 on. -/
def Enc : Nat → List JR → List Int → Prop
  | _, [], d => d = []
  | k, y :: ys, d => ∃ r1 d', y.enc ((k : Int) + 1) = (r1, 0) ∧ d = r1 ++ d' ∧ Enc (k + 1) ys d'
/-- ys are those of xs, in order, that Encode takes as number k + 1 and on, as far as it went. -/
def Pick : Nat → List JR → List JR → Prop
  | _, _, [] => True
  | _, [], _ :: _ => False
  | k, x :: xs, y :: ys => if (x.enc ((k : Int) + 1)).2 = 0 then x = y ∧ Pick (k + 1) xs ys else Pick k xs (y :: ys)
theorem enc_ok {y : JR} {sq : Int} {r1 : List Int} (h : y.enc sq = (r1, 0)) : bytesOk r1 = true ∧ 20 ≤ r1.length := by
  obtain ⟨h1, _⟩ := recEnc_parts h
  rw [h1, recBytes_len]
  refine ⟨?_, by omega⟩
  unfold recBytes
  exact withSum_ok (bytesOk_append (withSum_ok (recHead_ok ..)) (recBody_ok ..))
theorem Enc_snoc : ∀ (ys : List JR) (k : Nat) (d r1 : List Int) (y : JR), Enc k ys d → y.enc (((k + ys.length : Nat) : Int) + 1) = (r1, 0) → Enc k (ys ++ [y]) (d ++ r1)
  | [], k, d, r1, y, h, hr => by
    obtain rfl : d = [] := h
    exact ⟨r1, [], by simpa using hr, by simp, rfl⟩
  | z :: ys, k, d, r1, y, h, hr => by
    obtain ⟨r2, d', h1, rfl, h3⟩ := h
    refine ⟨r2, d' ++ r1, h1, by rw [List.append_assoc], Enc_snoc ys (k + 1) d' r1 y h3 ?_⟩
    rw [show k + 1 + ys.length = k + (z :: ys).length by rw [List.length_cons]; omega]
    exact hr
theorem Enc_ok : ∀ (ys : List JR) (k : Nat) (d : List Int), Enc k ys d → bytesOk d = true ∧ 20 * ys.length ≤ d.length
  | [], k, d, h => by
    obtain rfl : d = [] := h
    exact ⟨rfl, by simp⟩
  | z :: ys, k, d, h => by
    obtain ⟨r2, d', h1, rfl, h3⟩ := h
    obtain ⟨h4, h5⟩ := Enc_ok ys (k + 1) d' h3
    obtain ⟨h6, h7⟩ := enc_ok h1
    exact ⟨bytesOk_append h6 h4, by rw [List.length_append, List.length_cons]; omega⟩
theorem Enc_walks : ∀ (ys : List JR) (k : Nat) (pre d : List Int), Enc k ys d → (pre ++ d).length ≤ 1000000000 → Walks (pre ++ d) pre.length k ys
  | [], k, pre, d, h, hm => by
    obtain rfl : d = [] := h
    show RdSpec ((pre ++ []).drop pre.length) _ none
    rw [List.drop_left]
    intro w A n c hn hc hC
    obtain rfl : 0 = n := hn
    exact read_short w A 0 c _ (by omega)
  | z :: ys, k, pre, d, h, hm => by
    have h0 := h
    obtain ⟨r2, d', h1, rfl, h3⟩ := h
    obtain ⟨h4, h5⟩ := Enc_ok ys (k + 1) d' h3
    obtain ⟨h6, h7⟩ := enc_ok h1
    have hl : (pre ++ (r2 ++ d')).length = pre.length + r2.length + d'.length := by simp only [List.length_append]; omega
    refine ⟨r2.length, ?_, h7, by rw [hl]; omega, ?_⟩
    · rw [List.drop_left]
      exact rd_valid _ z r2 h1 d' h4 (by rw [List.length_append]; omega)
    · have := Enc_walks ys (k + 1) (pre ++ r2) d' h3 (by rw [List.append_assoc]; exact hm)
      rw [List.append_assoc, List.length_append] at this
      exact this
theorem wrGo_pick : ∀ (l : List JR) (d es : List Int) (ys : List JR), es.length = ys.length → Enc 0 ys d → ∃ zs, (wrGo l (d, es, ys)).2.2 = ys ++ zs ∧ Pick ys.length l zs ∧ Enc 0 (ys ++ zs) (wrGo l (d, es, ys)).1 ∧ (wrGo l (d, es, ys)).2.1.length = (ys ++ zs).length
  | [], d, es, ys, he, hE => ⟨[], by simp [wrGo], trivial, by simpa [wrGo] using hE, by simpa [wrGo] using he⟩
  | y :: l, d, es, ys, he, hE => by
    unfold wrGo
    by_cases h6 : d.length < 60000
    · rw [if_pos h6]
      by_cases h0 : (y.enc ((es.length : Int) + 1)).2 = 0
      · rw [if_pos h0]
        have hE2 : Enc 0 (ys ++ [y]) (d ++ (y.enc ((es.length : Int) + 1)).1) := Enc_snoc ys 0 d _ y hE (by rw [Nat.zero_add, ← he]; exact Prod.ext rfl h0)
        obtain ⟨zs, h1, h2, h3, h4⟩ := wrGo_pick l (d ++ (y.enc ((es.length : Int) + 1)).1) (es ++ [((d.length + (y.enc ((es.length : Int) + 1)).1.length : Nat) : Int)]) (ys ++ [y]) (by simp [he]) hE2
        refine ⟨y :: zs, by rw [h1]; simp, ?_, by rw [show ys ++ y :: zs = ys ++ [y] ++ zs by simp]; exact h3, by rw [h4]; simp⟩
        show (if (y.enc ((ys.length : Int) + 1)).2 = 0 then _ else _)
        rw [← he, if_pos h0]
        rw [List.length_append] at h2
        rw [he]
        exact ⟨rfl, h2⟩
      · rw [if_neg h0]
        obtain ⟨zs, h1, h2, h3, h4⟩ := wrGo_pick l d es ys he hE
        refine ⟨zs, h1, ?_, h3, h4⟩
        cases zs with
        | nil => trivial
        | cons z zs =>
          show (if (y.enc ((ys.length : Int) + 1)).2 = 0 then _ else _)
          rw [← he, if_neg h0, he]
          exact h2
    · rw [if_neg h6]
      exact ⟨[], by simp, trivial, by simpa using hE, by simpa using he⟩
theorem wrGo_len : ∀ (l : List JR) (d es : List Int) (ys : List JR), d.length ≤ 4100000 → (wrGo l (d, es, ys)).1.length ≤ 4100000
  | [], d, es, ys, h => h
  | y :: l, d, es, ys, h => by
    unfold wrGo
    by_cases h6 : d.length < 60000
    · rw [if_pos h6]
      by_cases h0 : (y.enc ((es.length : Int) + 1)).2 = 0
      · rw [if_pos h0]
        have := enc_len y ((es.length : Int) + 1)
        exact wrGo_len l _ _ _ (by rw [List.length_append]; omega)
      · rw [if_neg h0]
        exact wrGo_len l _ _ _ h
    · rw [if_neg h6]
      exact h

/-- Nothing is said of a state. -/
def SV.bare (s : SV) : Bool := (s.st == 0) && ((s.of == 0) && decide (s.x.toList = []))
def recSave (s : SV) : JR := ⟨5, 0, 0, 0, 0, 0, [], 0, 0, 0, s.st, s.of, s.x⟩
def recView (a b c : Int) : JR := ⟨2, 0, 0, 0, 0, 0, [], a, b, c, 0, 0, ⟨#[]⟩⟩
def recTold (a : Int) : JR := ⟨3, 0, 0, 0, 0, 0, [], a, 0, 0, 0, 0, ⟨#[]⟩⟩
def recEnt (e : S24) : JR := ⟨1, e.f0, e.f1, e.f2, e.f3, e.f4, e.f5, 0, 0, 0, 0, 0, ⟨#[]⟩⟩
def recCom (c : Int) : JR := ⟨6, 0, 0, 0, 0, 0, [], 0, 0, 0, c, 0, ⟨#[]⟩⟩
def SV.r1 (s : SV) : List JR := if s.bare = true then [] else [recSave s]
def SV.r2 (s : SV) : List JR := if 0 < s.ma ∧ s.ma < s.vn then [recView s.ma s.vp s.vb, recTold s.ma] else []
def SV.r3 (s : SV) : List JR := if noView s.vn s.vp s.vb = true then [] else [recView s.vn s.vp s.vb]
def SV.r4 (s : SV) : List JR := if 0 < s.ma ∧ s.ma = s.vn then [recTold s.ma] else []
def SV.r6 (s : SV) : List JR := if s.st < s.co then [recCom s.co] else []
def SV.ra (s : SV) : List JR := s.r1 ++ s.r2 ++ s.r3 ++ s.r4
/-- The records that say a Saved. -/
def SV.recs (s : SV) : List JR := s.ra ++ s.es.map recEnt ++ s.r6
/-- Records, one behind the other. -/
def encAll : Nat → List JR → List Int
  | _, [] => []
  | k, y :: ys => (y.enc ((k : Int) + 1)).1 ++ encAll (k + 1) ys
/-- What Compact answers: bytes, how many records, the code. -/
def SV.cpt (s : SV) : List Int × Nat × Int := if (200000 : Int) < (s.x.size : Int) then ([], 0, 2) else if s.mayB = true then (encAll 0 s.recs, s.recs.length, 0) else ([], 0, 1)
theorem encAll_snoc : ∀ (ys : List JR) (k : Nat) (y : JR), encAll k (ys ++ [y]) = encAll k ys ++ (y.enc (((k + ys.length : Nat) : Int) + 1)).1
  | [], k, y => by
    show (y.enc ((k : Int) + 1)).1 ++ [] = [] ++ _
    rw [List.append_nil, List.nil_append, List.length_nil, Nat.add_zero]
  | z :: ys, k, y => by
    show (z.enc ((k : Int) + 1)).1 ++ encAll (k + 1) (ys ++ [y]) = (z.enc ((k : Int) + 1)).1 ++ encAll (k + 1) ys ++ _
    rw [encAll_snoc ys (k + 1) y, show k + 1 + ys.length = k + (z :: ys).length by rw [List.length_cons]; omega, List.append_assoc]
theorem encAll_len : ∀ (ys : List JR) (k : Nat), (encAll k ys).length ≤ 4000000 * ys.length
  | [], _ => Nat.le_refl _
  | y :: ys, k => by
    have h1 := enc_len y ((k : Int) + 1)
    have h2 := encAll_len ys (k + 1)
    show ((y.enc ((k : Int) + 1)).1 ++ encAll (k + 1) ys).length ≤ _
    rw [List.length_append, List.length_cons]
    omega
theorem ra_len (s : SV) : s.ra.length ≤ 5 := by
  have h1 : s.r1.length ≤ 1 := by unfold SV.r1; split <;> simp
  have h2 : s.r2.length ≤ 2 := by unfold SV.r2; split <;> simp
  have h3 : s.r3.length ≤ 1 := by unfold SV.r3; split <;> simp
  have h4 : s.r4.length ≤ 1 := by unfold SV.r4; split <;> simp
  unfold SV.ra
  simp only [List.length_append]
  omega
theorem recs_len (s : SV) : s.recs.length ≤ s.es.length + 6 := by
  have h1 := ra_len s
  have h2 : s.r6.length ≤ 1 := by unfold SV.r6; split <;> simp
  unfold SV.recs
  simp only [List.length_append, List.length_map]
  omega
theorem held_mk (W0 : World) (y : JR) {A : Option Addr} {n c : Nat} (hn : n = y.ops.length) (hc : n ≤ c) (hC : Kd.C k40 W0 A n y.ops) : ∀ W2, Below W0.heap.size W0 W2 → kJ.K W2 y (recL y (.slice A n c)) := by
  subst hn
  exact fun W2 hb => kJ_mk W2 y hc (Kd.C_below hC hb)
theorem held_none (W0 : World) (y : JR) (h : y.ops = []) : ∀ W2, Below W0.heap.size W0 W2 → kJ.K W2 y (recL y (.slice none 0 0)) :=
  held_mk W0 y (n := 0) (by rw [h]; rfl) (Nat.le_refl _) (by rw [h]; exact Kd.C_nil k40 W0)
/-- Records in a row, those of entries with the ops of W0. -/
abbrev RJ (W0 w : World) (ok : Nat → Prop) (v : Value) (l : List JR) : Prop := Kd.R (heldK kJ W0) 28 w W0.heap.size ok v l

theorem wr_diff {a : Int} (h0 : -4294967296 ≤ a) (h1 : a ≤ 4294967296) : wrap64 a = a := by unfold wrap64; omega
theorem wr_diff1 {a : Int} (h0 : -4294967296 ≤ a) (h1 : a ≤ 4294967296) : wrap64 (a - 1) = a - 1 := by unfold wrap64; omega
set_option maxHeartbeats 8000000 in
set_option maxRecDepth 100000 in
theorem fits_reset (w : World) (p : Nat) (s : SV) (E : Option Addr) (ne ce : Nat) (hp : w.heap[p]? = some (.cells (s.cells E ne ce) 53 (0, 0))) (kd a v k se rq : Int) (A : Option Addr) (n c : Nat) (vn vp vb st of : Int) (x : ByteArray) (b : Bool) :
    Calls Try.prog 131 #[.agg (recCells kd a v k se rq A n c vn vp vb st of x), .pointer (some ⟨p, 0, none⟩), .bool b] w fun e w' => e = .returned (.bool (decide (vn = s.vn))) ∧ Below w.heap.size w w' := by
  have hu53 := Try.underlying53
  have hu26 := Try.underlying26
  have hu115 := Try.underlying115
  have HP := Aside0.mk hp
  clear hp
  go_enter Try.func131, Try.ntmps131
  go_wp2_with fail
  obtain ⟨g, hg⟩ : ∃ g, g = w.heap.size := ⟨_, rfl⟩
  obtain ⟨w1, hw1⟩ : ∃ w1, w1 = w.alloc (.cells (recCells kd a v k se rq A n c vn vp vb st of x) 115) := ⟨_, rfl⟩
  rw [← hw1, ← hg]
  have HB := Aside0.mk (show Below w.heap.size w w1 by rw [hw1]; exact below_alloc (Below.refl _ _) _)
  have HG := Aside0.mk (show w1.heap[g]? = some (.cells (recCells kd a v k se rq A n c vn vp vb st of x) 115 (0, 0)) by rw [hw1, hg]; exact heap_alloc_new w _)
  have HP1 := Aside0.mk ((HB.out.block p (blk_lt HP.out)).trans HP.out)
  clear hw1 hg
  have g7 : w1.cell? ⟨g, 7, none⟩ = some (.int .i64 vn) := (blk_cell HG.out 7).trans rfl
  have c0 : w1.cell? ⟨p, 0, none⟩ = some (.int .i64 s.vn) := (blk_cell HP1.out 0).trans rfl
  have hz : ∀ m, Below w.heap.size w (w1.drewN m) := fun m => below_step HB.out (Drawn0.below ⟨⟨m, rfl⟩⟩)
  have HZ := Aside0.mk hz
  clear hz
  by_cases h1 : vn = s.vn
  · have e1 : decide (vn = s.vn) = true := decide_eq_true h1
    have e2 : (vn == s.vn) = true := by simpa using h1
    go_quiet (fail)
    go_wp2; go_ret
    exact ⟨by rw [e1]; rfl, HZ.out _⟩
  · have e1 : decide (vn = s.vn) = false := decide_eq_false h1
    have e2 : (vn == s.vn) = false := by simpa using h1
    go_quiet (fail)
    go_wp2; go_ret
    exact ⟨by rw [e1]; rfl, HZ.out _⟩
set_option maxHeartbeats 16000000 in
set_option maxRecDepth 100000 in
theorem fits_save (w : World) (p : Nat) (s : SV) (E : Option Addr) (ne ce : Nat) (hp : w.heap[p]? = some (.cells (s.cells E ne ce) 53 (0, 0))) (hC : Kd.C k24 w E ne s.es) (hn : s.es.length = ne) (hs : s.small) (kd a v k se rq : Int) (A : Option Addr) (n c : Nat) (vn vp vb st of : Int) (x : ByteArray) (b : Bool) (hst : 0 ≤ st ∧ st ≤ 2147483647) (r : Bool) (hr : (if b = true then true else if st < s.st ∨ s.co < st then false else decide (of = if s.st < st then s.atv (st - s.st - 1).toNat else s.of)) = r) :
    Calls Try.prog 133 #[.agg (recCells kd a v k se rq A n c vn vp vb st of x), .pointer (some ⟨p, 0, none⟩), .bool b] w fun e w' => e = .returned (.bool r) ∧ Below w.heap.size w w' := by
  have hu53 := Try.underlying53
  have hu26 := Try.underlying26
  have hu24 := Try.underlying24
  have hu116 := Try.underlying116
  have HP := Aside0.mk hp
  have HC := Aside0.mk hC
  have HN := Aside0.mk hn
  have HS := Aside0.mk hs
  have HST := Aside0.mk hst
  clear hp hC hn hs hst
  cases b with
  | true =>
    obtain rfl : true = r := hr
    go_enter Try.func133, Try.ntmps133
    go_wp2; go_ret
    exact ⟨rfl, below_alloc (Below.refl _ _) _⟩
  | false =>
    have HR := Aside0.mk (show (if st < s.st ∨ s.co < st then false else decide (of = if s.st < st then s.atv (st - s.st - 1).toNat else s.of)) = r from hr)
    clear hr
    go_enter Try.func133, Try.ntmps133
    go_wp2_with fail
    obtain ⟨g, hg⟩ : ∃ g, g = w.heap.size := ⟨_, rfl⟩
    obtain ⟨w1, hw1⟩ : ∃ w1, w1 = w.alloc (.cells (recCells kd a v k se rq A n c vn vp vb st of x) 116) := ⟨_, rfl⟩
    rw [← hw1, ← hg]
    have HB := Aside0.mk (show Below w.heap.size w w1 by rw [hw1]; exact below_alloc (Below.refl _ _) _)
    have HG := Aside0.mk (show w1.heap[g]? = some (.cells (recCells kd a v k se rq A n c vn vp vb st of x) 116 (0, 0)) by rw [hw1, hg]; exact heap_alloc_new w _)
    have HP1 := Aside0.mk ((HB.out.block p (blk_lt HP.out)).trans HP.out)
    clear hw1 hg
    have g10 : w1.cell? ⟨g, 10, none⟩ = some (.int .i64 st) := (blk_cell HG.out 10).trans rfl
    have g11 : w1.cell? ⟨g, 11, none⟩ = some (.int .i64 of) := (blk_cell HG.out 11).trans rfl
    have c4 : w1.cell? ⟨p, 4, none⟩ = some (.int .i64 s.st) := (blk_cell HP1.out 4).trans rfl
    have c5 : w1.cell? ⟨p, 5, none⟩ = some (.int .i64 s.of) := (blk_cell HP1.out 5).trans rfl
    have c7 : w1.cell? ⟨p, 7, none⟩ = some (.slice E ne ce) := (blk_cell HP1.out 7).trans rfl
    have c8 : w1.cell? ⟨p, 8, none⟩ = some (.int .i64 s.co) := (blk_cell HP1.out 8).trans rfl
    have HZ := Aside0.mk (show ∀ m, Below w.heap.size w (w1.drewN m) from fun m => below_step HB.out (Drawn0.below ⟨⟨m, rfl⟩⟩))
    by_cases h1 : st < s.st
    · have e1 : decide (st < s.st) = true := decide_eq_true h1
      have HV := Aside0.mk (show (if st < s.st ∨ s.co < st then false else decide (of = if s.st < st then s.atv (st - s.st - 1).toNat else s.of)) = false from if_pos (.inl h1))
      go_quiet (fail)
      go_wp2; go_ret
      exact ⟨by rw [← HR.out, HV.out]; rfl, HZ.out _⟩
    have e1 : decide (st < s.st) = false := decide_eq_false h1
    by_cases h2 : s.co < st
    · have e2 : decide (s.co < st) = true := decide_eq_true h2
      have HV := Aside0.mk (show (if st < s.st ∨ s.co < st then false else decide (of = if s.st < st then s.atv (st - s.st - 1).toNat else s.of)) = false from if_pos (.inr h2))
      go_quiet (fail)
      go_wp2; go_ret
      exact ⟨by rw [← HR.out, HV.out]; rfl, HZ.out _⟩
    have e2 : decide (s.co < st) = false := decide_eq_false h2
    have HV := Aside0.mk (show (if st < s.st ∨ s.co < st then false else decide (of = if s.st < st then s.atv (st - s.st - 1).toNat else s.of)) = decide (of = if s.st < st then s.atv (st - s.st - 1).toNat else s.of) from if_neg (by omega))
    have hsm := HS.out
    have hst := HST.out
    by_cases h3 : s.st < st
    · have e3 : decide (s.st < st) = true := decide_eq_true h3
      obtain ⟨j, hj⟩ : ∃ j : Nat, (j : Int) = st - s.st - 1 := ⟨(st - s.st - 1).toNat, by omega⟩
      have hjn : j < ne := by
        have h4 := hsm.2.2.2
        have h5 := HN.out
        omega
      have hv3 : (if s.st < st then s.atv (st - s.st - 1).toNat else s.of) = s.atv j := by rw [if_pos h3, ← hj, Int.toNat_natCast]
      obtain ⟨ad, A5, e5, rfl, f0, f1, _⟩ := at_T24 HC.out (j : Int) (by omega) (by omega)
      rw [Int.toNat_natCast] at f1
      replace f1 := pw_cell_below HB.out f1
      obtain ⟨vj, hvj⟩ : ∃ vj, vj = s.atv j := ⟨_, rfl⟩
      rw [show (rd_T24 s.es (j : Int)).f1 = vj from hvj.symm] at f1
      have HV2 := Aside0.mk (show (if st < s.st ∨ s.co < st then false else decide (of = if s.st < st then s.atv (st - s.st - 1).toNat else s.of)) = decide (of = vj) by rw [HV.out, hv3, hvj])
      have i1 : (j < ne) = True := eq_true hjn
      have i2 : ((j : Int) < (ne : Int)) = True := eq_true (by omega)
      have m1 : 0 ≤ s.st := hsm.1
      have m2 : s.st ≤ 2147483647 := hsm.2.1
      have w3 : IntKind.i64.wrap (st - s.st) = st - s.st := (i64_w _).trans (wr_diff (by omega) (by omega))
      have w4 : IntKind.i64.wrap (st - s.st - 1) = (j : Int) := (i64_w _).trans ((wr_diff1 (by omega) (by omega)).trans hj.symm)
      clear f0 hj hjn hv3 hvj hsm hst h1 h2 h3 m1 m2
      by_cases h5 : of = vj
      · have e5 : decide (of = vj) = true := decide_eq_true h5
        have e6 : (of == vj) = true := by simpa using h5
        go_quiet (fail)
        go_wp2_with fail
        go_quiet (fail)
        go_wp2_with fail
        go_quiet (fail)
        go_wp2; go_ret
        exact ⟨by rw [← HR.out, HV2.out, e5]; rfl, by repeat (first | exact HB.out | apply pw_below_drewN | apply below_drew1)⟩
      · have e5 : decide (of = vj) = false := decide_eq_false h5
        have e6 : (of == vj) = false := by simpa using h5
        go_quiet (fail)
        go_wp2_with fail
        go_quiet (fail)
        go_wp2_with fail
        go_quiet (fail)
        go_wp2; go_ret
        exact ⟨by rw [← HR.out, HV2.out, e5]; rfl, by repeat (first | exact HB.out | apply pw_below_drewN | apply below_drew1)⟩
    · have e3 : decide (s.st < st) = false := decide_eq_false h3
      have hv3 : (if s.st < st then s.atv (st - s.st - 1).toNat else s.of) = s.of := if_neg h3
      have HV2 := Aside0.mk (show (if st < s.st ∨ s.co < st then false else decide (of = if s.st < st then s.atv (st - s.st - 1).toNat else s.of)) = decide (of = s.of) by rw [HV.out, hv3])
      clear hv3 hsm hst h1 h2 h3
      by_cases h5 : of = s.of
      · have e5 : decide (of = s.of) = true := decide_eq_true h5
        have e6 : (of == s.of) = true := by simpa using h5
        go_quiet (fail)
        go_wp2_with fail
        go_quiet (fail)
        go_wp2; go_ret
        exact ⟨by rw [← HR.out, HV2.out, e5]; rfl, by repeat (first | exact HB.out | apply pw_below_drewN | apply below_drew1)⟩
      · have e5 : decide (of = s.of) = false := decide_eq_false h5
        have e6 : (of == s.of) = false := by simpa using h5
        go_quiet (fail)
        go_wp2_with fail
        go_quiet (fail)
        go_wp2; go_ret
        exact ⟨by rw [← HR.out, HV2.out, e5]; rfl, by repeat (first | exact HB.out | apply pw_below_drewN | apply below_drew1)⟩

theorem k24_types {t : Nat} (h : t ∈ 24 :: k24.E) : t = 24 ∨ t = 40 := by
  have h' : t ∈ [24, 40] := h
  simpa using h'
theorem info24' : (Try.prog.info? 24).map (fun i => (i.zero, i.size, i.bytes)) = some (some (.agg entZero), 6, 64) := by kernel_rfl
set_option maxHeartbeats 8000000 in
set_option maxRecDepth 100000 in
theorem says_matched (w : World) (p : Nat) (s : SV) (E : Option Addr) (ne ce : Nat) (hp : w.heap[p]? = some (.cells (s.cells E ne ce) 53 (0, 0))) (vn : Int) :
    Calls Try.prog 130 #[.int .i64 vn, .pointer (some ⟨p, 0, none⟩)] w fun e w' => (∃ v, e = .returned v) ∧ w'.heap[p]? = some (.cells (({ s with ma := vn } : SV).cells E ne ce) 53 (0, 0)) ∧ Frm w w' (fun k => k = p) := by
  have hu53 := Try.underlying53
  have c3 := (blk_cell hp 3).trans rfl
  have z3 := blk_frozen hp 3
  have HP := Aside0.mk hp
  clear hp
  go_enter Try.func130, Try.ntmps130
  go_wp2
  go_end0
  exact ⟨⟨_, rfl⟩, blk_put HP.out 3 _ rfl, Frm.set_ (p := ⟨p, 3, none⟩) (Frm.refl w (fun k => k = p)) (.inl rfl) _⟩
set_option maxHeartbeats 8000000 in
set_option maxRecDepth 100000 in
theorem says_commit (w : World) (p : Nat) (s : SV) (E : Option Addr) (ne ce : Nat) (hp : w.heap[p]? = some (.cells (s.cells E ne ce) 53 (0, 0))) (a : Int) :
    Calls Try.prog 137 #[.int .i64 a, .pointer (some ⟨p, 0, none⟩)] w fun e w' => (∃ v, e = .returned v) ∧ w'.heap[p]? = some (.cells (({ s with co := a } : SV).cells E ne ce) 53 (0, 0)) ∧ Frm w w' (fun k => k = p) := by
  have hu53 := Try.underlying53
  have c3 := (blk_cell hp 8).trans rfl
  have z3 := blk_frozen hp 8
  have HP := Aside0.mk hp
  clear hp
  go_enter Try.func137, Try.ntmps137
  go_wp2
  go_end0
  exact ⟨⟨_, rfl⟩, blk_put HP.out 8 _ rfl, Frm.set_ (p := ⟨p, 8, none⟩) (Frm.refl w (fun k => k = p)) (.inl rfl) _⟩
set_option maxHeartbeats 16000000 in
set_option maxRecDepth 100000 in
theorem says_entry (w : World) (p : Nat) (s : SV) (E : Option Addr) (ne ce : Nat) (hp : w.heap[p]? = some (.cells (s.cells E ne ce) 53 (0, 0))) (base : Nat) (ok okx : Nat → Prop) (hR : Kd.R k24 24 w base ok (.slice E ne ce) s.es) (e : S24) (B : Option Addr) (mb cb : Nat) (hv : Kd.R k40 40 w base okx (.slice B mb cb) e.f5) (hokx : ∀ k, okx k → ok k ∧ some k ≠ (Value.slice E ne ce).ownBlock) (hfresh : ∀ k, w.heap.size ≤ k → ok k) (hbase : base ≤ w.heap.size) (hlen : s.es.length ≤ 1000000) (m : Nat) (hm : m = (s.es ++ [e]).length) :
    Calls Try.prog 126 #[.agg #[.int .i64 e.f0, .int .i64 e.f1, .int .i64 e.f2, .int .i64 e.f3, .int .i64 e.f4, .slice B mb cb], .pointer (some ⟨p, 0, none⟩)] w fun r w' => (∃ v, r = .returned v) ∧ ∃ E' ce', w'.heap[p]? = some (.cells (({ s with es := s.es ++ [e] } : SV).cells E' m ce') 53 (0, 0)) ∧
      Kd.R k24 24 w' base ok (.slice E' m ce') (s.es ++ [e]) ∧ Frm w w' (fun k => k = p ∨ (Value.slice E ne ce).ownBlock = some k) := by
  have hu53 := Try.underlying53
  have hu112 := Try.underlying112
  have HP := Aside0.mk hp
  have HR := Aside0.mk hR
  have HV := Aside0.mk hv
  have HOX := Aside0.mk hokx
  have HFR := Aside0.mk hfresh
  have HBS := Aside0.mk hbase
  have HLN := Aside0.mk hlen
  have HMM := Aside0.mk hm
  clear hp hR hv hokx hfresh hbase hlen hm
  go_enter Try.func126, Try.ntmps126
  go_wp2_with fail
  obtain ⟨g, hg⟩ : ∃ g, g = w.heap.size := ⟨_, rfl⟩
  obtain ⟨w1, hw1⟩ : ∃ w1, w1 = w.alloc (.cells #[.int .i64 e.f0, .int .i64 e.f1, .int .i64 e.f2, .int .i64 e.f3, .int .i64 e.f4, .slice B mb cb] 112) := ⟨_, rfl⟩
  rw [← hw1, ← hg]
  have HB := Aside0.mk (show Below w.heap.size w w1 by rw [hw1]; exact below_alloc (Below.refl _ _) _)
  have HG := Aside0.mk (show w1.heap[g]? = some (.cells #[.int .i64 e.f0, .int .i64 e.f1, .int .i64 e.f2, .int .i64 e.f3, .int .i64 e.f4, .slice B mb cb] 112 (0, 0)) by rw [hw1, hg]; exact heap_alloc_new w _)
  have HP1 := Aside0.mk ((HB.out.block p (blk_lt HP.out)).trans HP.out)
  have HPG := Aside0.mk (show p ≠ g ∧ w.heap.size ≤ g by have := blk_lt HP.out; omega)
  have HR1 := Aside0.mk (Kd.R_below HR.out HB.out)
  have HV1 := Aside0.mk (Kd.R_below HV.out HB.out)
  clear hw1 hg
  have c7 : w1.drew.cell? ⟨p, 7, none⟩ = some (.slice E ne ce) := (blk_cell (w := w1.drew) HP1.out 7).trans rfl
  have g0 : w1.drew.cell? ⟨g, 0, none⟩ = _ := (blk_cell (w := w1.drew) HG.out 0).trans rfl
  have g1 : w1.drew.cell? ⟨g, 1, none⟩ = _ := (blk_cell (w := w1.drew) HG.out 1).trans rfl
  have g2 : w1.drew.cell? ⟨g, 2, none⟩ = _ := (blk_cell (w := w1.drew) HG.out 2).trans rfl
  have g3 : w1.drew.cell? ⟨g, 3, none⟩ = _ := (blk_cell (w := w1.drew) HG.out 3).trans rfl
  have g4 : w1.drew.cell? ⟨g, 4, none⟩ = _ := (blk_cell (w := w1.drew) HG.out 4).trans rfl
  have g5 : w1.drew.cell? ⟨g, 5, none⟩ = _ := (blk_cell (w := w1.drew) HG.out 5).trans rfl
  refine start_ (n := 11) (S := fun w' => w'.cell? ⟨p, 7, none⟩ = some (.slice E ne ce) ∧ w'.cell? ⟨g, 0, none⟩ = some (.int .i64 e.f0) ∧ w'.cell? ⟨g, 1, none⟩ = some (.int .i64 e.f1) ∧ w'.cell? ⟨g, 2, none⟩ = some (.int .i64 e.f2) ∧ w'.cell? ⟨g, 3, none⟩ = some (.int .i64 e.f3) ∧ w'.cell? ⟨g, 4, none⟩ = some (.int .i64 e.f4) ∧ w'.cell? ⟨g, 5, none⟩ = some (.slice B mb cb)) (ds := [10]) bq147 (by kernel_rfl) rfl rfl ⟨c7, g0, g1, g2, g3, g4, g5⟩ (fun hHeld => ?_)
  refine pure_ (i := 0) (N := some 4) (v := ?_) (a' := ?_) bq148 rfl rfl (by kernel_rfl) (fun _ _ _ h => h) (Or.inl ⟨by rfl, ?_⟩) ?_ ?_
  rotate_left
  · intro w'; go_simp; with_reducible rfl
  rotate_left
  · simp only [sxx]; rfl
  refine pure_ (i := 1) (N := some 5) (v := ?_) (a' := ?_) bq149 rfl rfl (by kernel_rfl) (fun _ _ _ h => h) (Or.inl ⟨by rfl, ?_⟩) ?_ ?_
  rotate_left
  · intro w'; go_simp; with_reducible rfl
  rotate_left
  · simp only [sxx]; rfl
  refine pure_ (i := 2) (N := some 6) (v := ?_) (a' := ?_) bq150 rfl rfl (by kernel_rfl) (fun _ _ _ h => h) (Or.inl ⟨by rfl, ?_⟩) ?_ ?_
  rotate_left
  · intro w'; go_simp; with_reducible rfl
  rotate_left
  · simp only [sxx]; rfl
  refine pure_ (i := 3) (N := some 7) (v := ?_) (a' := ?_) bq151 rfl rfl (by kernel_rfl) (fun _ _ _ h => h) (Or.inl ⟨by rfl, ?_⟩) ?_ ?_
  rotate_left
  · intro w'; go_simp; with_reducible rfl
  rotate_left
  · simp only [sxx]; rfl
  refine take_ (i := 4) (N := some 8) (v := ?_) (a' := ?_) bq152 rfl rfl (by kernel_rfl) (fun _ _ _ h => h) (Or.inl ⟨by rfl, ?_⟩) hHeld ?_ ?_
  rotate_left
  · rintro w' ⟨s0, s1, s2, s3, s4, s5, s6⟩
    go_simp; with_reducible rfl
  rotate_left
  · simp only [sxx]; rfl
  refine take_ (i := 5) (N := some 9) (v := ?_) (a' := ?_) bq153 rfl rfl (by kernel_rfl) (fun _ _ _ h => h) (Or.inl ⟨by rfl, ?_⟩) hHeld ?_ ?_
  rotate_left
  · rintro w' ⟨s0, s1, s2, s3, s4, s5, s6⟩
    go_simp; with_reducible rfl
  rotate_left
  · simp only [sxx]; rfl
  refine one_ (i := 6) (N := some 10) bq154 rfl rfl (by kernel_rfl) (by decide) (fun K hK => ?_)
  refine value_ (w1 := ?_) (v := ?_) (by rfl) rfl ?_ ?_
  rotate_left 2
  · go_simp
    constructor
    · rfl
    · rfl
  refine hK.out _ _ ⟨pw_cell_below (below_alloc (Below.refl _ _) _) c7, pw_cell_below (below_alloc (Below.refl _ _) _) g0, pw_cell_below (below_alloc (Below.refl _ _) _) g1, pw_cell_below (below_alloc (Below.refl _ _) _) g2, pw_cell_below (below_alloc (Below.refl _ _) _) g3, pw_cell_below (below_alloc (Below.refl _ _) _) g4, pw_cell_below (below_alloc (Below.refl _ _) _) g5⟩ (fun hHeld => ?_)
  clear hK K
  refine norm_ (a' := ?_) ?_ ?_
  rotate_left
  · show Act.put _ (some 10) _ = _
    simp only [sxx]; rfl
  refine one_ (i := 7) (N := some 11) bq155 rfl rfl (by kernel_rfl) (by decide) (fun K hK => ?_)
  refine Kd.R_append_step k24 (w0 := w1.drew) (W := w1.drew) base (by rfl) (.tmp 8) (.tmp 10) 51 24 (.agg entZero) 64 rfl Try.underlying51 info24' rfl (by decide) (by decide) (.slice E ne ce) s.es e [.int .i64 e.f0, .int .i64 e.f1, .int .i64 e.f2, .int .i64 e.f3, .int .i64 e.f4, .slice B mb cb] ok okx rfl rfl
    (k24_mkM _ _ _ _ (Kd.R_step HV1.out (fun _ _ _ => rfl))) HOX.out (fun k hk => HFR.out k (Nat.le_trans HB.out.size hk)) (Kd.R_step HR1.out (fun _ _ _ => rfl)) (Below.refl _ _) (Nat.le_trans HBS.out HB.out.size) (by have := HLN.out; omega) ?_
  intro v6 w6 ho6 hb6 hg6 hat6
  obtain ⟨A6, c6, rfl⟩ := Kd.R_slice ho6
  rw [← HMM.out] at ho6 hat6 ⊢
  have hp6 := blk_grown (w := w1.drew) HP1.out hg6 (Kd.R_ne HR1.out HP1.out (by decide))
  have hg6b := blk_grown (w := w1.drew) HG.out hg6 (Kd.R_ne HR1.out HG.out (by decide))
  have p7 : w6.cell? ⟨p, 7, none⟩ = some (.slice E ne ce) := (blk_cell hp6 7).trans rfl
  have q0 : w6.cell? ⟨g, 0, none⟩ = _ := (blk_cell hg6b 0).trans rfl
  have q1 : w6.cell? ⟨g, 1, none⟩ = _ := (blk_cell hg6b 1).trans rfl
  have q2 : w6.cell? ⟨g, 2, none⟩ = _ := (blk_cell hg6b 2).trans rfl
  have q3 : w6.cell? ⟨g, 3, none⟩ = _ := (blk_cell hg6b 3).trans rfl
  have q4 : w6.cell? ⟨g, 4, none⟩ = _ := (blk_cell hg6b 4).trans rfl
  have q5 : w6.cell? ⟨g, 5, none⟩ = _ := (blk_cell hg6b 5).trans rfl
  have HO6 := Aside0.mk ho6
  have HG6 := Aside0.mk hg6
  have HP6 := Aside0.mk hp6
  have z7 := blk_frozen hp6 7
  clear ho6 hb6 hg6 hat6 hp6 hg6b
  refine hK.out _ _ ⟨p7, q0, q1, q2, q3, q4, q5⟩ (fun hHeld => ?_)
  clear hK K
  refine norm_ (a' := ?_) ?_ ?_
  rotate_left
  · show Act.put _ (some 11) _ = _
    simp only [sxx]; rfl
  refine pure_ (i := 8) (N := some 12) (v := ?_) (a' := ?_) bq156 rfl rfl (by kernel_rfl) (fun _ _ _ h => h) (Or.inl ⟨by rfl, ?_⟩) ?_ ?_
  rotate_left
  · intro w'; go_simp; with_reducible rfl
  rotate_left
  · simp only [sxx]; rfl
  refine pure_ (i := 9) (N := some 13) (v := ?_) (a' := ?_) bq157 rfl rfl (by kernel_rfl) (fun _ _ _ h => h) (Or.inl ⟨by rfl, ?_⟩) ?_ ?_
  rotate_left
  · intro w'; go_simp; with_reducible rfl
  rotate_left
  · simp only [sxx]; rfl
  refine last_ (i := 10) (N := none) bq158 rfl rfl (by kernel_rfl) (by decide) (fun K hK => ?_)
  refine skip_ (w1 := ?_) (by rfl) rfl ?_ ?_
  rotate_left
  · go_simp; rfl
  refine hK.out _ _ ?_
  clear hK K
  refine done_ (by kernel_rfl) ?_
  go_end0
  refine ⟨⟨_, rfl⟩, A6, c6, ?_, ?_, ?_⟩
  · exact blk_put HP6.out 7 _ rfl
  · exact Kd.R_set HO6.out HP6.out (fun t ht => by rcases k24_types ht with rfl | rfl <;> decide) 7 _
  · refine Frm.set_ (p := ⟨p, 7, none⟩) ?_ (.inl (.inl rfl)) _
    exact (Frm.of_below (below_drew1 HB.out) _).then_ (Frm.of_grown (S := fun k => k = p ∨ (Value.slice E ne ce).ownBlock = some k) (w := w1.drew) HG6.out (fun k e => .inr e)) (fun k hk _ => hk)
set_option maxHeartbeats 16000000 in
set_option maxRecDepth 100000 in
theorem says_reset (w : World) (p : Nat) (s : SV) (E : Option Addr) (ne ce : Nat) (hp : w.heap[p]? = some (.cells (s.cells E ne ce) 53 (0, 0))) (kd a v k se rq : Int) (A : Option Addr) (n c : Nat) (vn vp vb st of : Int) (x : ByteArray) :
    Calls Try.prog 132 #[.agg (recCells kd a v k se rq A n c vn vp vb st of x), .pointer (some ⟨p, 0, none⟩)] w fun r w' => (∃ v, r = .returned v) ∧ w'.heap[p]? = some (.cells (({ s with ma := vn, st := st, of := of, x := x, co := st, es := [] } : SV).cells none 0 0) 53 (0, 0)) ∧ Frm w w' (fun k => k = p) := by
  have hu53 := Try.underlying53
  have hu26 := Try.underlying26
  have hu115 := Try.underlying115
  have HP := Aside0.mk hp
  clear hp
  go_enter Try.func132, Try.ntmps132
  go_upto_region 1 with (fail)
  obtain ⟨g, hg⟩ : ∃ g, g = w.heap.size := ⟨_, rfl⟩
  obtain ⟨w1, hw1⟩ : ∃ w1, w1 = w.alloc (.cells (recCells kd a v k se rq A n c vn vp vb st of x) 115) := ⟨_, rfl⟩
  rw [← hw1, ← hg]
  have HB := Aside0.mk (show Below w.heap.size w w1 by rw [hw1]; exact below_alloc (Below.refl _ _) _)
  have HG := Aside0.mk (show w1.heap[g]? = some (.cells (recCells kd a v k se rq A n c vn vp vb st of x) 115 (0, 0)) by rw [hw1, hg]; exact heap_alloc_new w _)
  have HP1 := Aside0.mk ((HB.out.block p (blk_lt HP.out)).trans HP.out)
  have HPG := Aside0.mk (show g ≠ p by have := blk_lt HP.out; omega)
  clear hw1 hg
  have c3 := (blk_cell HP1.out 3).trans rfl
  have z3 := blk_frozen HP1.out 3
  have g7 := (blk_cell HG.out 7).trans rfl
  go_wp2_with fail
  clear c3 z3 g7
  obtain ⟨w2, hw2⟩ : ∃ w2, w2 = w1.setCell ⟨p, 3, none⟩ (.int .i64 vn) := ⟨_, rfl⟩
  rw [← hw2]
  have HP2 := Aside0.mk (show w2.heap[p]? = some (.cells (({ s with ma := vn } : SV).cells E ne ce) 53 (0, 0)) by rw [hw2]; exact blk_put HP1.out 3 _ rfl)
  have HG2 := Aside0.mk (show w2.heap[g]? = some (.cells (recCells kd a v k se rq A n c vn vp vb st of x) 115 (0, 0)) by rw [hw2]; exact blk_far HG.out (by simp only; exact HPG.out) _)
  have HX2 := Aside0.mk (show Frm w w2 (fun k => k = p) by rw [hw2]; exact Frm.set_ (p := ⟨p, 3, none⟩) (Frm.of_below HB.out (fun k => k = p)) (.inl rfl) _)
  clear hw2
  have a10 : w2.drew.cell? ⟨g, 10, none⟩ = some (.int .i64 st) := (blk_cell (w := w2.drew) HG2.out 10).trans rfl
  have a11 : w2.drew.cell? ⟨g, 11, none⟩ = some (.int .i64 of) := (blk_cell (w := w2.drew) HG2.out 11).trans rfl
  have a12 : w2.drew.cell? ⟨g, 12, none⟩ = some (.string x) := (blk_cell (w := w2.drew) HG2.out 12).trans rfl
  have b10 : w2.cell? ⟨g, 10, none⟩ = some (.int .i64 st) := a10
  have b11 : w2.cell? ⟨g, 11, none⟩ = some (.int .i64 of) := a11
  have b12 : w2.cell? ⟨g, 12, none⟩ = some (.string x) := a12
  have c4 := (blk_cell HP2.out 4).trans rfl
  have c5 := (blk_cell HP2.out 5).trans rfl
  have c6 := (blk_cell HP2.out 6).trans rfl
  have c8 := (blk_cell HP2.out 8).trans rfl
  have z4 := blk_frozen HP2.out 4
  have z5 := blk_frozen HP2.out 5
  have z6 := blk_frozen HP2.out 6
  have z8 := blk_frozen HP2.out 8
  have hgp := HPG.out
  refine start_ (n := 24) (S := fun w' => w'.cell? ⟨g, 10, none⟩ = some (.int .i64 st) ∧ w'.cell? ⟨g, 11, none⟩ = some (.int .i64 of) ∧ w'.cell? ⟨g, 12, none⟩ = some (.string x)) (ds := [23]) bq159 (by kernel_rfl) rfl rfl ⟨a10, a11, a12⟩ (fun hHeld => ?_)
  refine pure_ (i := 0) (N := some 10) (v := ?_) (a' := ?_) bq160 rfl rfl (by kernel_rfl) (fun _ _ _ h => h) (Or.inl ⟨by rfl, ?_⟩) ?_ ?_
  rotate_left
  · intro w'; go_simp; with_reducible rfl
  rotate_left
  · simp only [sxx]; rfl
  refine pure_ (i := 1) (N := some 11) (v := ?_) (a' := ?_) bq161 rfl rfl (by kernel_rfl) (fun _ _ _ h => h) (Or.inl ⟨by rfl, ?_⟩) ?_ ?_
  rotate_left
  · intro w'; go_simp; with_reducible rfl
  rotate_left
  · simp only [sxx]; rfl
  refine pure_ (i := 2) (N := some 12) (v := ?_) (a' := ?_) bq162 rfl rfl (by kernel_rfl) (fun _ _ _ h => h) (Or.inl ⟨by rfl, ?_⟩) ?_ ?_
  rotate_left
  · intro w'; go_simp; with_reducible rfl
  rotate_left
  · simp only [sxx]; rfl
  refine pure_ (i := 3) (N := some 13) (v := ?_) (a' := ?_) bq163 rfl rfl (by kernel_rfl) (fun _ _ _ h => h) (Or.inl ⟨by rfl, ?_⟩) ?_ ?_
  rotate_left
  · intro w'; go_simp; with_reducible rfl
  rotate_left
  · simp only [sxx]; rfl
  refine pure_ (i := 4) (N := some 14) (v := ?_) (a' := ?_) bq164 rfl rfl (by kernel_rfl) (fun _ _ _ h => h) (Or.inl ⟨by rfl, ?_⟩) ?_ ?_
  rotate_left
  · intro w'; go_simp; with_reducible rfl
  rotate_left
  · simp only [sxx]; rfl
  refine pure_ (i := 6) (N := some 16) (v := ?_) (a' := ?_) bq165 rfl rfl (by kernel_rfl) (fun _ _ _ h => h) (Or.inl ⟨by rfl, ?_⟩) ?_ ?_
  rotate_left
  · intro w'; go_simp; with_reducible rfl
  rotate_left
  · simp only [sxx]; rfl
  refine pure_ (i := 8) (N := some 18) (v := ?_) (a' := ?_) bq166 rfl rfl (by kernel_rfl) (fun _ _ _ h => h) (Or.inl ⟨by rfl, ?_⟩) ?_ ?_
  rotate_left
  · intro w'; go_simp; with_reducible rfl
  rotate_left
  · simp only [sxx]; rfl
  refine pure_ (i := 10) (N := some 20) (v := ?_) (a' := ?_) bq167 rfl rfl (by kernel_rfl) (fun _ _ _ h => h) (Or.inl ⟨by rfl, ?_⟩) ?_ ?_
  rotate_left
  · intro w'; go_simp; with_reducible rfl
  rotate_left
  · simp only [sxx]; rfl
  refine take_ (i := 5) (N := some 15) (v := ?_) (a' := ?_) bq168 rfl rfl (by kernel_rfl) (fun _ _ _ h => h) (Or.inl ⟨by rfl, ?_⟩) hHeld ?_ ?_
  rotate_left
  · rintro w' ⟨s0, s1, s2⟩
    go_simp; with_reducible rfl
  rotate_left
  · simp only [sxx]; rfl
  refine pure_ (i := 12) (N := some 22) (v := ?_) (a' := ?_) bq169 rfl rfl (by kernel_rfl) (fun _ _ _ h => h) (Or.inl ⟨by rfl, ?_⟩) ?_ ?_
  rotate_left
  · intro w'; go_simp; with_reducible rfl
  rotate_left
  · simp only [sxx]; rfl
  refine pure_ (i := 13) (N := some 23) (v := ?_) (a' := ?_) bq170 rfl rfl (by kernel_rfl) (fun _ _ _ h => h) (Or.inl ⟨by rfl, ?_⟩) ?_ ?_
  rotate_left
  · intro w'; go_simp; with_reducible rfl
  rotate_left
  · simp only [sxx]; rfl
  refine take_ (i := 7) (N := some 17) (v := ?_) (a' := ?_) bq171 rfl rfl (by kernel_rfl) (fun _ _ _ h => h) (Or.inl ⟨by rfl, ?_⟩) hHeld ?_ ?_
  rotate_left
  · rintro w' ⟨s0, s1, s2⟩
    go_simp; with_reducible rfl
  rotate_left
  · simp only [sxx]; rfl
  refine take_ (i := 9) (N := some 19) (v := ?_) (a' := ?_) bq172 rfl rfl (by kernel_rfl) (fun _ _ _ h => h) (Or.inl ⟨by rfl, ?_⟩) hHeld ?_ ?_
  rotate_left
  · rintro w' ⟨s0, s1, s2⟩
    go_simp; with_reducible rfl
  rotate_left
  · simp only [sxx]; rfl
  refine take_ (i := 11) (N := some 21) (v := ?_) (a' := ?_) bq173 rfl rfl (by kernel_rfl) (fun _ _ _ h => h) (Or.inl ⟨by rfl, ?_⟩) hHeld ?_ ?_
  rotate_left
  · rintro w' ⟨s0, s1, s2⟩
    go_simp; with_reducible rfl
  rotate_left
  · simp only [sxx]; rfl
  refine one_ (i := 14) (N := none) bq174 rfl rfl (by kernel_rfl) (by decide) (fun K hK => ?_)
  refine skip_ (w1 := ?_) (by rfl) rfl ?_ ?_
  rotate_left
  · go_simp; rfl
  refine hK.out _ _ ⟨(by first | exact set_other hgp a10 | exact drew_cell (set_other hgp b10) | exact set_other hgp b10), (by first | exact set_other hgp a11 | exact drew_cell (set_other hgp b11) | exact set_other hgp b11), (by first | exact set_other hgp a12 | exact drew_cell (set_other hgp b12) | exact set_other hgp b12)⟩ (fun hHeld => ?_)
  clear hK K
  refine pure_ (i := 15) (N := some 24) (v := ?_) (a' := ?_) bq175 rfl rfl (by kernel_rfl) (fun _ _ _ h => h) (Or.inl ⟨by rfl, ?_⟩) ?_ ?_
  rotate_left
  · intro w'; go_simp; with_reducible rfl
  rotate_left
  · simp only [sxx]; rfl
  refine pure_ (i := 16) (N := some 25) (v := ?_) (a' := ?_) bq176 rfl rfl (by kernel_rfl) (fun _ _ _ h => h) (Or.inl ⟨by rfl, ?_⟩) ?_ ?_
  rotate_left
  · intro w'; go_simp; with_reducible rfl
  rotate_left
  · simp only [sxx]; rfl
  refine one_ (i := 17) (N := none) bq177 rfl rfl (by kernel_rfl) (by decide) (fun K hK => ?_)
  refine skip_ (w1 := ?_) (by rfl) rfl ?_ ?_
  rotate_left
  · go_simp; rfl
  refine hK.out _ _ ⟨(by first | exact set_other hgp (set_other hgp a10) | exact drew_cell (set_other hgp (set_other hgp b10)) | exact set_other hgp (set_other hgp b10)), (by first | exact set_other hgp (set_other hgp a11) | exact drew_cell (set_other hgp (set_other hgp b11)) | exact set_other hgp (set_other hgp b11)), (by first | exact set_other hgp (set_other hgp a12) | exact drew_cell (set_other hgp (set_other hgp b12)) | exact set_other hgp (set_other hgp b12))⟩ (fun hHeld => ?_)
  clear hK K
  refine pure_ (i := 18) (N := some 26) (v := ?_) (a' := ?_) bq178 rfl rfl (by kernel_rfl) (fun _ _ _ h => h) (Or.inl ⟨by rfl, ?_⟩) ?_ ?_
  rotate_left
  · intro w'; go_simp; with_reducible rfl
  rotate_left
  · simp only [sxx]; rfl
  refine pure_ (i := 19) (N := some 27) (v := ?_) (a' := ?_) bq179 rfl rfl (by kernel_rfl) (fun _ _ _ h => h) (Or.inl ⟨by rfl, ?_⟩) ?_ ?_
  rotate_left
  · intro w'; go_simp; with_reducible rfl
  rotate_left
  · simp only [sxx]; rfl
  refine one_ (i := 20) (N := none) bq180 rfl rfl (by kernel_rfl) (by decide) (fun K hK => ?_)
  refine skip_ (w1 := ?_) (by rfl) rfl ?_ ?_
  rotate_left
  · go_simp; rfl
  refine hK.out _ _ ⟨(by first | exact set_other hgp (set_other hgp (set_other hgp a10)) | exact drew_cell (set_other hgp (set_other hgp (set_other hgp b10))) | exact set_other hgp (set_other hgp (set_other hgp b10))), (by first | exact set_other hgp (set_other hgp (set_other hgp a11)) | exact drew_cell (set_other hgp (set_other hgp (set_other hgp b11))) | exact set_other hgp (set_other hgp (set_other hgp b11))), (by first | exact set_other hgp (set_other hgp (set_other hgp a12)) | exact drew_cell (set_other hgp (set_other hgp (set_other hgp b12))) | exact set_other hgp (set_other hgp (set_other hgp b12)))⟩ (fun hHeld => ?_)
  clear hK K
  refine pure_ (i := 21) (N := some 28) (v := ?_) (a' := ?_) bq181 rfl rfl (by kernel_rfl) (fun _ _ _ h => h) (Or.inl ⟨by rfl, ?_⟩) ?_ ?_
  rotate_left
  · intro w'; go_simp; with_reducible rfl
  rotate_left
  · simp only [sxx]; rfl
  refine pure_ (i := 22) (N := some 29) (v := ?_) (a' := ?_) bq182 rfl rfl (by kernel_rfl) (fun _ _ _ h => h) (Or.inl ⟨by rfl, ?_⟩) ?_ ?_
  rotate_left
  · intro w'; go_simp; with_reducible rfl
  rotate_left
  · simp only [sxx]; rfl
  refine last_ (i := 23) (N := none) bq183 rfl rfl (by kernel_rfl) (by decide) (fun K hK => ?_)
  refine skip_ (w1 := ?_) (by rfl) rfl ?_ ?_
  rotate_left
  · go_simp; rfl
  refine hK.out _ _ ?_
  clear hK K
  refine done_ (by kernel_rfl) ?_
  clear hHeld a10 a11 a12 b10 b11 b12 c4 c5 c6 c8 z4 z5 z6 z8 hgp
  obtain ⟨w7, hw7⟩ : ∃ w7, w7 = ((((w2.setCell ⟨p, 4, none⟩ (.int .i64 st)).setCell ⟨p, 5, none⟩ (.int .i64 of)).setCell ⟨p, 6, none⟩ (.string x)).setCell ⟨p, 8, none⟩ (.int .i64 st)).drew := ⟨_, rfl⟩
  rw [← hw7]
  have HP7 := Aside0.mk (show w7.heap[p]? = some (.cells (({ s with ma := vn, st := st, of := of, x := x, co := st } : SV).cells E ne ce) 53 (0, 0)) by
    rw [hw7]
    show ((((w2.setCell ⟨p, 4, none⟩ (.int .i64 st)).setCell ⟨p, 5, none⟩ (.int .i64 of)).setCell ⟨p, 6, none⟩ (.string x)).setCell ⟨p, 8, none⟩ (.int .i64 st)).heap[p]? = _
    refine blk_put (cs := ({ s with ma := vn, st := st, of := of, x := x } : SV).cells E ne ce) ?_ 8 _ rfl
    refine blk_put (cs := ({ s with ma := vn, st := st, of := of } : SV).cells E ne ce) ?_ 6 _ rfl
    refine blk_put (cs := ({ s with ma := vn, st := st } : SV).cells E ne ce) ?_ 5 _ rfl
    exact blk_put HP2.out 4 _ rfl)
  have HX7 := Aside0.mk (show Frm w w7 (fun k => k = p) by
    rw [hw7]
    exact ((((HX2.out.set_ (p := ⟨p, 4, none⟩) (.inl rfl) _).set_ (p := ⟨p, 5, none⟩) (.inl rfl) _).set_ (p := ⟨p, 6, none⟩) (.inl rfl) _).set_ (p := ⟨p, 8, none⟩) (.inl rfl) _).drew)
  clear hw7
  have c7 := (blk_cell HP7.out 7).trans rfl
  have z7 := blk_frozen HP7.out 7
  go_wp2
  go_end0
  exact ⟨⟨_, rfl⟩, blk_put HP7.out 7 _ rfl, HX7.out.set_ (p := ⟨p, 7, none⟩) (.inl rfl) _⟩

theorem R_empty {α : Type} (d : Kd α) (e : Nat) (w : World) (base : Nat) (ok : Nat → Prop) (hb : base ≤ w.heap.size) (hok : ok w.heap.size) : d.R e (w.alloc (.cells #[] e)) base ok (.slice (some ⟨w.heap.size, 0, none⟩) 0 0) [] :=
  ⟨fun k hk => by
    have : w.heap.size = k := by simpa [Value.ownBlock] using hk
    exact this ▸ hok, [], ⟨by simp, .inr ⟨w.heap.size, 0, #[], rfl, hb, (by show (w.heap.push _)[w.heap.size]? = _; simp), Nat.le_refl _, Nat.zero_le _, by simp, by simp⟩⟩, ⟨by simp, fun j p hj => by simp at hj⟩⟩
theorem reads_drop {α : Type} {R : α → List Value → Prop} {size : Nat} {w : World} {A : Option Addr} {xs : List α} {c m : Nat} (h : ReadsRow R size w A xs.length xs) (hm : m ≤ xs.length) (hc : xs.length ≤ c) : ReadsRow R size w (if c = m then A else A.map (·.add (m * size))) (xs.drop m).length (xs.drop m) := by
  have hl : (xs.drop m).length = xs.length - m := List.length_drop
  refine ⟨rfl, by rw [hl]; have := h.2.1; omega, fun hp => ?_⟩
  rw [hl] at hp
  obtain ⟨ad, rfl, hcell⟩ := h.2.2 (by omega)
  rw [if_neg (by omega)]
  refine ⟨ad.add (m * size), rfl, fun j p hj => ?_⟩
  rw [List.getElem?_drop] at hj
  obtain ⟨cs, h1, h2, h3⟩ := hcell (m + j) p hj
  refine ⟨cs, h1, h2, fun i u hu => ?_⟩
  rw [add_add, show m * size + (j * size + i) = (m + j) * size + i by rw [Nat.add_mul]; omega]
  exact h3 i u hu
theorem cut51 {A : Option Addr} {n c : Nat} (j : Nat) (hj : j ≤ n) (hc : n ≤ c) :
    ∃ A', (∀ W : World, (Instr.slice 51 (.slice A n c) (some (.int .i64 (j : Int))) none none).run Try.prog W = .ok (.slice A' (n - j) (c - j)) W) ∧ ∀ (W : World) (R : S24 → List Value → Prop) (xs : List S24), ReadsRow R 6 W A n xs → ReadsRow R 6 W A' (n - j) (xs.drop j) := by
  obtain ⟨i0, hi, hzz⟩ := Option.map_eq_some_iff.1 info24'
  simp only [Prod.mk.injEq] at hzz
  have hrun := cut_from (P := Try.prog) 51 24 .i64 Try.underlying51 hi 6 hzz.2.1 A n c (j : Int) (by omega) (by omega)
  refine ⟨_, hrun, fun W R xs HR => ?_⟩
  obtain rfl : xs.length = n := HR.1
  have hd := reads_drop (m := j) HR hj hc
  rw [List.length_drop] at hd
  rw [Int.toNat_natCast]
  exact hd
theorem eq51_some (ad : Addr) (n c : Nat) : ∀ W : World, (binOp .eql 51 (.slice (some ad) n c) (.slice none 0 0)).run Try.prog W = .ok (.bool false) W := fun W => by kernel_rfl
theorem eq51_none (n c : Nat) : ∀ W : World, (binOp .eql 51 (.slice none n c) (.slice none 0 0)).run Try.prog W = .ok (.bool true) W := fun W => by kernel_rfl
set_option maxRecDepth 100000 in
theorem clone_none (w : World) (n c : Nat) : Calls Try.prog 135 #[.slice none n c] w fun e w' => e = .returned (.slice none 0 0) ∧ w' = w := by
  have he := eq51_none n c
  go_enter Try.func135, Try.ntmps135
  go_wp2; go_ret
  exact ⟨rfl, rfl⟩
set_option maxHeartbeats 8000000 in
set_option maxRecDepth 100000 in
theorem clone_some (ad : Addr) (n c : Nat) (l : List S24) (w : World) (base : Nat) (ok : Nat → Prop) (hn : l.length = n) (hr : ReadsRow (k24.M w base ok) 6 w (some ad) n l) (hm : n ≤ 1000000) (hfresh : ∀ k, w.heap.size ≤ k → ok k) (hbase : base ≤ w.heap.size) :
    Calls Try.prog 135 #[.slice (some ad) n c] w fun e w' => ∃ v, e = .returned v ∧ Kd.R k24 24 w' base ok v l ∧ Below w.heap.size w w' := by
  have HR := Aside0.mk hr
  have HN := Aside0.mk hn
  have HF := Aside0.mk hfresh
  have HBS := Aside0.mk hbase
  have he := eq51_some ad n c
  clear hr hn hfresh hbase
  go_enter Try.func135, Try.ntmps135
  go_wp2_with (with_reducible refine stop_append rfl ?_)
  refine Kd.R_append_rows k24 (Rr := k24.M (w.alloc (.cells #[] 24)) base (fun k => ok k ∧ k < w.heap.size)) (w0 := w) base rfl (.tmp 5) (.tmp 6) 51 24 (.agg entZero) 64 rfl Try.underlying51 info24' rfl (by decide) (by decide) _ [] l (some ad) n c ok (fun k => ok k ∧ k < w.heap.size) rfl rfl (R_empty k24 24 w base ok HBS.out (HF.out _ (Nat.le_refl _))) ?_ (fun x cs h => h) (fun k hk => ⟨hk.1, fun e => by
    have h1 := hk.2
    have h2 : k = w.heap.size := by injection e
    omega⟩) (fun k hk => HF.out k (by have := hk; simp at this; omega)) ((Frm.of_below (below_alloc (Below.refl _ _) _) (fun _ => False)).below (fun _ h _ => h.elim) HBS.out) (by have := HBS.out; simp; omega) (by simp; omega) ?_
  · refine HR.out.imp_ (below_alloc (Below.refl _ _) _) (fun x cs h => ?_)
    exact Kd.M_below (k24.M_mono (fun k hk => ⟨hk.1, hk.2.2.1⟩) (k24.M_bound h)) (below_alloc (Below.refl _ _) _)
  intro v1 w1 ho hb hg hat
  rw [List.nil_append] at ho
  have H1 := Aside0.mk ho
  have H2 := Aside0.mk (show Below w.heap.size w w1 from ((Frm.of_below (below_alloc (Below.refl _ _) _) (fun k => k = w.heap.size)).then_ (Frm.of_grown hg (S := fun k => k = w.heap.size) (fun k e => by
    have h2 : w.heap.size = k := by injection e
    exact h2.symm)) (fun k hk _ => hk)).below (fun k hk hlt => by omega) (Nat.le_refl _))
  clear ho hb hg hat
  go_wp2; go_ret
  exact ⟨_, rfl, H1.out, H2.out⟩
theorem clone_R (A : Option Addr) (n c : Nat) (l : List S24) (w : World) (base : Nat) (ok : Nat → Prop) (hn : l.length = n) (hr : ReadsRow (k24.M w base ok) 6 w A n l) (hm : n ≤ 1000000) (hfresh : ∀ k, w.heap.size ≤ k → ok k) (hbase : base ≤ w.heap.size) :
    Calls Try.prog 135 #[.slice A n c] w fun e w' => ∃ A2 c2, e = .returned (.slice A2 n c2) ∧ Kd.R k24 24 w' base ok (.slice A2 n c2) l ∧ Below w.heap.size w w' := by
  have hmain : Calls Try.prog 135 #[.slice A n c] w fun e w' => ∃ v, e = .returned v ∧ Kd.R k24 24 w' base ok v l ∧ Below w.heap.size w w' := by
    cases A with
    | some ad => exact clone_some ad n c l w base ok hn hr hm hfresh hbase
    | none =>
      have h0 : l = [] := by
        rcases Nat.eq_zero_or_pos n with h0 | h0
        · exact List.eq_nil_of_length_eq_zero (hn.trans h0)
        · obtain ⟨ad, h, _⟩ := hr.2.2 h0
          cases h
      subst h0
      refine (clone_none w n c).mono ?_
      rintro e w1 ⟨rfl, rfl⟩
      exact ⟨_, rfl, Kd.R_nil _ _ _ _ _, Below.refl _ _⟩
  refine hmain.mono ?_
  rintro e w1 ⟨v, rfl, hv, hb⟩
  obtain ⟨A2, c2, rfl⟩ := Kd.R_slice hv
  rw [hn] at hv ⊢
  exact ⟨A2, c2, rfl, hv, hb⟩

theorem if_max (a b : Int) : (if a < b then b else a) = max a b := by
  rw [Int.max_def]
  split <;> split <;> omega
set_option maxHeartbeats 16000000 in
set_option maxRecDepth 100000 in
theorem says_save (w : World) (p : Nat) (s : SV) (E : Option Addr) (ne ce : Nat) (hp : w.heap[p]? = some (.cells (s.cells E ne ce) 53 (0, 0))) (base : Nat) (ok : Nat → Prop) (hR : Kd.R k24 24 w base ok (.slice E ne ce) s.es) (hfresh : ∀ k, w.heap.size ≤ k → ok k) (hbase : base ≤ w.heap.size) (hs : s.small) (kd a v k se rq : Int) (A : Option Addr) (n c : Nat) (vn vp vb st of : Int) (x : ByteArray) (d : Nat) (hd : st = s.st + (d : Int)) (hdd : d ≤ ne ∨ s.es = []) (hst : st ≤ 2147483647) (m : Nat) (hm : m = (s.es.drop d).length) :
    Calls Try.prog 134 #[.agg (recCells kd a v k se rq A n c vn vp vb st of x), .pointer (some ⟨p, 0, none⟩)] w fun r w' => (∃ v, r = .returned v) ∧ ∃ E' ce', w'.heap[p]? = some (.cells (({ s with es := s.es.drop d, st := st, of := of, x := x, co := max s.co st } : SV).cells E' m ce') 53 (0, 0)) ∧
      Kd.R k24 24 w' base ok (.slice E' m ce') (s.es.drop d) ∧ Frm w w' (fun k => k = p) := by
  have hu53 := Try.underlying53
  have hu26 := Try.underlying26
  have hu116 := Try.underlying116
  have HN := Aside0.mk (show s.es.length = ne by
    obtain ⟨A0, c0, he0, hle⟩ := Kd.R_reads hR
    injection he0 with eA eN eC
    exact eN.symm)
  have HLE := Aside0.mk (show ne ≤ ce by
    obtain ⟨A0, c0, he0, hle, _⟩ := Kd.R_reads hR
    injection he0 with eA eN eC
    omega)
  have HP := Aside0.mk hp
  have HR := Aside0.mk hR
  have HFR := Aside0.mk hfresh
  have HBS := Aside0.mk hbase
  have HLN := Aside0.mk hs.2.2.1
  have HMM := Aside0.mk hm
  have HDD := Aside0.mk hdd
  have w0 : IntKind.i64.wrap (st - s.st) = (d : Int) := (i64_w _).trans (by
    have m1 := hs.1
    have m2 := hs.2.1
    unfold wrap64
    omega)
  clear hp hR hfresh hbase hm hs hd hst hdd
  go_enter Try.func134, Try.ntmps134
  go_wp2_with fail
  obtain ⟨g, hg⟩ : ∃ g, g = w.heap.size := ⟨_, rfl⟩
  obtain ⟨w1, hw1⟩ : ∃ w1, w1 = w.alloc (.cells (recCells kd a v k se rq A n c vn vp vb st of x) 116) := ⟨_, rfl⟩
  rw [← hw1, ← hg]
  have HB := Aside0.mk (show Below w.heap.size w w1 by rw [hw1]; exact below_alloc (Below.refl _ _) _)
  have HG := Aside0.mk (show w1.heap[g]? = some (.cells (recCells kd a v k se rq A n c vn vp vb st of x) 116 (0, 0)) by rw [hw1, hg]; exact heap_alloc_new w _)
  have HP1 := Aside0.mk ((HB.out.block p (blk_lt HP.out)).trans HP.out)
  have HPG := Aside0.mk (show g ≠ p by have := blk_lt HP.out; omega)
  have HR1 := Aside0.mk (Kd.R_below HR.out HB.out)
  clear hw1 hg
  have g10 := (blk_cell HG.out 10).trans rfl
  have c4 := (blk_cell HP1.out 4).trans rfl
  go_quiet (fail)
  clear g10 c4
  obtain ⟨w2, hw2⟩ : ∃ w2, w2 = w1.drewN nq := ⟨_, rfl⟩
  rw [← hw2]
  have HP2 := Aside0.mk (show w2.heap[p]? = some (.cells (s.cells E ne ce) 53 (0, 0)) by rw [hw2]; exact HP1.out)
  have HG2 := Aside0.mk (show w2.heap[g]? = some (.cells (recCells kd a v k se rq A n c vn vp vb st of x) 116 (0, 0)) by rw [hw2]; exact HG.out)
  have HX2 := Aside0.mk (show Frm w w2 (fun k => k = p) by rw [hw2]; exact Frm.of_below (pw_below_drewN HB.out _) _)
  have HR2 := Aside0.mk (show Kd.R k24 24 w2 base ok (.slice E ne ce) s.es by rw [hw2]; exact Kd.R_step HR1.out (fun _ _ _ => rfl))
  have HF2 := Aside0.mk (show ∀ k, w2.heap.size ≤ k → ok k from fun k hk => HFR.out k (Nat.le_trans HX2.out.size hk))
  have HB2 := Aside0.mk (Nat.le_trans HBS.out HX2.out.size)
  clear hw2
  have c7 := (blk_cell HP2.out 7).trans rfl
  by_cases h1 : d ≤ ne
  · have e1 : decide ((d : Int) ≤ (ne : Int)) = true := decide_eq_true (by omega)
    have e2 : decide (d ≤ ne) = true := decide_eq_true h1
    obtain ⟨A3, hcut, hrow⟩ := cut51 (A := E) (n := ne) (c := ce) d h1 HLE.out
    have HRW := Aside0.mk hrow
    have HH := Aside0.mk h1
    clear hrow h1
    go_wp2_with fail
    refine (clone_R A3 (ne - d) (ce - d) (s.es.drop d) _ base ok (by rw [List.length_drop, HN.out]) (HRW.out _ _ _ (by
      obtain ⟨A0, c0, he0, hle, hrd⟩ := OwnRow.reads HR2.out.2
      injection he0 with eA eN eC
      rw [← eN] at hrd
      rw [← eA] at hrd
      exact hrd.imp_ (Below.refl _ _) (fun x cs h => k24.M_mono (fun k hk => hk.1) h))) (by have := HLN.out; have := HN.out; omega) HF2.out HB2.out).mono ?_
    rintro e w5 ⟨E1, c1, rfl, hr5, hb5⟩
    obtain ⟨nd, hnd⟩ : ∃ nd, nd = ne - d := ⟨_, rfl⟩
    rw [← hnd] at hr5 ⊢
    have HND := Aside0.mk (show nd = m by rw [hnd, HMM.out, List.length_drop, HN.out])
    have HP5 := Aside0.mk ((hb5.block p (blk_lt HP2.out)).trans HP2.out)
    have HG5 := Aside0.mk ((hb5.block g (blk_lt HG2.out)).trans HG2.out)
    have HX5 := Aside0.mk (HX2.out.step hb5)
    have HR5 := Aside0.mk hr5
    clear hb5 hr5 hnd c7
    have c7 := (blk_cell HP5.out 7).trans rfl
    have z7 := blk_frozen HP5.out 7
    go_wp2_with fail
    obtain ⟨wa, hwa⟩ : ∃ wa, wa = w5.setCell ⟨p, 7, none⟩ (.slice E1 nd c1) := ⟨_, rfl⟩
    rw [← hwa]
    have HPa := Aside0.mk (show wa.heap[p]? = some (.cells ((({ s with es := s.es.drop d } : SV)).cells E1 m c1) 53 (0, 0)) by rw [hwa, ← HND.out]; exact blk_put HP5.out 7 _ rfl)
    have HGa := Aside0.mk (show wa.heap[g]? = some (.cells (recCells kd a v k se rq A n c vn vp vb st of x) 116 (0, 0)) by rw [hwa]; exact blk_far HG5.out (by simp only; exact HPG.out) _)
    have HXa := Aside0.mk (show Frm w wa (fun k => k = p) by rw [hwa]; exact HX5.out.set_ (p := ⟨p, 7, none⟩) (.inl rfl) _)
    have HRa := Aside0.mk (show Kd.R k24 24 wa base ok (.slice E1 m c1) (s.es.drop d) by
      rw [hwa, ← HND.out]
      exact Kd.R_set HR5.out HP5.out (fun t ht => by rcases k24_types ht with rfl | rfl <;> decide) 7 _)
    clear hwa c7 z7 hcut e1 e2 w0
    have a10 : wa.drew.cell? ⟨g, 10, none⟩ = some (.int .i64 st) := (blk_cell (w := wa.drew) HGa.out 10).trans rfl
    have b10 : wa.cell? ⟨g, 10, none⟩ = some (.int .i64 st) := a10
    have a11 : wa.drew.cell? ⟨g, 11, none⟩ = some (.int .i64 of) := (blk_cell (w := wa.drew) HGa.out 11).trans rfl
    have b11 : wa.cell? ⟨g, 11, none⟩ = some (.int .i64 of) := a11
    have a12 : wa.drew.cell? ⟨g, 12, none⟩ = some (.string x) := (blk_cell (w := wa.drew) HGa.out 12).trans rfl
    have b12 : wa.cell? ⟨g, 12, none⟩ = some (.string x) := a12
    have c4 := (blk_cell HPa.out 4).trans rfl
    have z4 := blk_frozen HPa.out 4
    have c5 := (blk_cell HPa.out 5).trans rfl
    have z5 := blk_frozen HPa.out 5
    have c6 := (blk_cell HPa.out 6).trans rfl
    have z6 := blk_frozen HPa.out 6
    have hgp := HPG.out
    refine start_ (n := 18) (S := fun w' => w'.cell? ⟨g, 10, none⟩ = some (.int .i64 st) ∧ w'.cell? ⟨g, 11, none⟩ = some (.int .i64 of) ∧ w'.cell? ⟨g, 12, none⟩ = some (.string x)) (ds := [17]) bq121 (by kernel_rfl) rfl rfl ⟨a10, a11, a12⟩ (fun hHeld => ?_)
    refine pure_ (i := 0) (N := some 29) (v := ?_) (a' := ?_) bq122 rfl rfl (by kernel_rfl) (fun _ _ _ h => h) (Or.inl ⟨by rfl, ?_⟩) ?_ ?_
    rotate_left
    · intro w'; go_simp; with_reducible rfl
    rotate_left
    · simp only [sxx]; rfl
    refine pure_ (i := 1) (N := some 30) (v := ?_) (a' := ?_) bq123 rfl rfl (by kernel_rfl) (fun _ _ _ h => h) (Or.inl ⟨by rfl, ?_⟩) ?_ ?_
    rotate_left
    · intro w'; go_simp; with_reducible rfl
    rotate_left
    · simp only [sxx]; rfl
    refine pure_ (i := 2) (N := some 31) (v := ?_) (a' := ?_) bq124 rfl rfl (by kernel_rfl) (fun _ _ _ h => h) (Or.inl ⟨by rfl, ?_⟩) ?_ ?_
    rotate_left
    · intro w'; go_simp; with_reducible rfl
    rotate_left
    · simp only [sxx]; rfl
    refine pure_ (i := 3) (N := some 32) (v := ?_) (a' := ?_) bq125 rfl rfl (by kernel_rfl) (fun _ _ _ h => h) (Or.inl ⟨by rfl, ?_⟩) ?_ ?_
    rotate_left
    · intro w'; go_simp; with_reducible rfl
    rotate_left
    · simp only [sxx]; rfl
    refine pure_ (i := 5) (N := some 34) (v := ?_) (a' := ?_) bq184 rfl rfl (by kernel_rfl) (fun _ _ _ h => h) (Or.inl ⟨by rfl, ?_⟩) ?_ ?_
    rotate_left
    · intro w'; go_simp; with_reducible rfl
    rotate_left
    · simp only [sxx]; rfl
    refine pure_ (i := 7) (N := some 36) (v := ?_) (a' := ?_) bq185 rfl rfl (by kernel_rfl) (fun _ _ _ h => h) (Or.inl ⟨by rfl, ?_⟩) ?_ ?_
    rotate_left
    · intro w'; go_simp; with_reducible rfl
    rotate_left
    · simp only [sxx]; rfl
    refine take_ (i := 4) (N := some 33) (v := ?_) (a' := ?_) bq186 rfl rfl (by kernel_rfl) (fun _ _ _ h => h) (Or.inl ⟨by rfl, ?_⟩) hHeld ?_ ?_
    rotate_left
    · rintro w' ⟨s0, s1, s2⟩
      go_simp; with_reducible rfl
    rotate_left
    · simp only [sxx]; rfl
    refine pure_ (i := 9) (N := some 38) (v := ?_) (a' := ?_) bq187 rfl rfl (by kernel_rfl) (fun _ _ _ h => h) (Or.inl ⟨by rfl, ?_⟩) ?_ ?_
    rotate_left
    · intro w'; go_simp; with_reducible rfl
    rotate_left
    · simp only [sxx]; rfl
    refine pure_ (i := 10) (N := some 39) (v := ?_) (a' := ?_) bq188 rfl rfl (by kernel_rfl) (fun _ _ _ h => h) (Or.inl ⟨by rfl, ?_⟩) ?_ ?_
    rotate_left
    · intro w'; go_simp; with_reducible rfl
    rotate_left
    · simp only [sxx]; rfl
    refine take_ (i := 6) (N := some 35) (v := ?_) (a' := ?_) bq189 rfl rfl (by kernel_rfl) (fun _ _ _ h => h) (Or.inl ⟨by rfl, ?_⟩) hHeld ?_ ?_
    rotate_left
    · rintro w' ⟨s0, s1, s2⟩
      go_simp; with_reducible rfl
    rotate_left
    · simp only [sxx]; rfl
    refine take_ (i := 8) (N := some 37) (v := ?_) (a' := ?_) bq190 rfl rfl (by kernel_rfl) (fun _ _ _ h => h) (Or.inl ⟨by rfl, ?_⟩) hHeld ?_ ?_
    rotate_left
    · rintro w' ⟨s0, s1, s2⟩
      go_simp; with_reducible rfl
    rotate_left
    · simp only [sxx]; rfl
    refine one_ (i := 11) (N := none) bq191 rfl rfl (by kernel_rfl) (by decide) (fun K hK => ?_)
    refine skip_ (w1 := ?_) (by rfl) rfl ?_ ?_
    rotate_left
    · go_simp; rfl
    refine hK.out _ _ ⟨(by first | exact set_other hgp a10 | exact drew_cell (set_other hgp b10) | exact set_other hgp b10), (by first | exact set_other hgp a11 | exact drew_cell (set_other hgp b11) | exact set_other hgp b11), (by first | exact set_other hgp a12 | exact drew_cell (set_other hgp b12) | exact set_other hgp b12)⟩ (fun hHeld => ?_)
    clear hK K
    refine pure_ (i := 12) (N := some 40) (v := ?_) (a' := ?_) bq192 rfl rfl (by kernel_rfl) (fun _ _ _ h => h) (Or.inl ⟨by rfl, ?_⟩) ?_ ?_
    rotate_left
    · intro w'; go_simp; with_reducible rfl
    rotate_left
    · simp only [sxx]; rfl
    refine pure_ (i := 13) (N := some 41) (v := ?_) (a' := ?_) bq193 rfl rfl (by kernel_rfl) (fun _ _ _ h => h) (Or.inl ⟨by rfl, ?_⟩) ?_ ?_
    rotate_left
    · intro w'; go_simp; with_reducible rfl
    rotate_left
    · simp only [sxx]; rfl
    refine one_ (i := 14) (N := none) bq136 rfl rfl (by kernel_rfl) (by decide) (fun K hK => ?_)
    refine skip_ (w1 := ?_) (by rfl) rfl ?_ ?_
    rotate_left
    · go_simp; rfl
    refine hK.out _ _ ⟨(by first | exact set_other hgp (set_other hgp a10) | exact drew_cell (set_other hgp (set_other hgp b10)) | exact set_other hgp (set_other hgp b10)), (by first | exact set_other hgp (set_other hgp a11) | exact drew_cell (set_other hgp (set_other hgp b11)) | exact set_other hgp (set_other hgp b11)), (by first | exact set_other hgp (set_other hgp a12) | exact drew_cell (set_other hgp (set_other hgp b12)) | exact set_other hgp (set_other hgp b12))⟩ (fun hHeld => ?_)
    clear hK K
    refine pure_ (i := 15) (N := some 42) (v := ?_) (a' := ?_) bq137 rfl rfl (by kernel_rfl) (fun _ _ _ h => h) (Or.inl ⟨by rfl, ?_⟩) ?_ ?_
    rotate_left
    · intro w'; go_simp; with_reducible rfl
    rotate_left
    · simp only [sxx]; rfl
    refine pure_ (i := 16) (N := some 43) (v := ?_) (a' := ?_) bq138 rfl rfl (by kernel_rfl) (fun _ _ _ h => h) (Or.inl ⟨by rfl, ?_⟩) ?_ ?_
    rotate_left
    · intro w'; go_simp; with_reducible rfl
    rotate_left
    · simp only [sxx]; rfl
    refine last_ (i := 17) (N := none) bq139 rfl rfl (by kernel_rfl) (by decide) (fun K hK => ?_)
    refine skip_ (w1 := ?_) (by rfl) rfl ?_ ?_
    rotate_left
    · go_simp; rfl
    refine hK.out _ _ ?_
    clear hK K
    refine done_ (by kernel_rfl) ?_
    clear hHeld a10 a11 a12 b10 b11 b12 c4 c5 c6 z4 z5 z6 hgp
    obtain ⟨w7, hw7⟩ : ∃ w7, w7 = (((wa.setCell ⟨p, 4, none⟩ (.int .i64 st)).setCell ⟨p, 5, none⟩ (.int .i64 of)).setCell ⟨p, 6, none⟩ (.string x)).drew := ⟨_, rfl⟩
    rw [← hw7]
    have HP7 := Aside0.mk (show w7.heap[p]? = some (.cells (({ ({ s with es := s.es.drop d } : SV) with st := st, of := of, x := x } : SV).cells E1 m c1) 53 (0, 0)) by
      rw [hw7]
      show (((wa.setCell ⟨p, 4, none⟩ (.int .i64 st)).setCell ⟨p, 5, none⟩ (.int .i64 of)).setCell ⟨p, 6, none⟩ (.string x)).heap[p]? = _
      refine blk_put (cs := ({ ({ s with es := s.es.drop d } : SV) with st := st, of := of } : SV).cells E1 m c1) ?_ 6 _ rfl
      refine blk_put (cs := ({ ({ s with es := s.es.drop d } : SV) with st := st } : SV).cells E1 m c1) ?_ 5 _ rfl
      exact blk_put HPa.out 4 _ rfl)
    have HG7 := Aside0.mk (show w7.heap[g]? = some (.cells (recCells kd a v k se rq A n c vn vp vb st of x) 116 (0, 0)) by
      rw [hw7]
      exact blk_far (blk_far (blk_far HGa.out (by simp only; exact HPG.out) _) (by simp only; exact HPG.out) _) (by simp only; exact HPG.out) _)
    have HX7 := Aside0.mk (show Frm w w7 (fun k => k = p) by
      rw [hw7]
      exact (((HXa.out.set_ (p := ⟨p, 4, none⟩) (.inl rfl) _).set_ (p := ⟨p, 5, none⟩) (.inl rfl) _).set_ (p := ⟨p, 6, none⟩) (.inl rfl) _).drew)
    have HR7 := Aside0.mk (show Kd.R k24 24 w7 base ok (.slice E1 m c1) (s.es.drop d) by
      rw [hw7]
      have ht : ∀ t, t ∈ 24 :: k24.E → t ≠ 53 := fun t ht => by rcases k24_types ht with rfl | rfl <;> decide
      have h4 := Kd.R_set HRa.out HPa.out ht 4 (.int .i64 st)
      have h5 := Kd.R_set h4 (blk_put HPa.out 4 _ rfl) ht 5 (.int .i64 of)
      have h6 := Kd.R_set h5 (blk_put (blk_put HPa.out 4 _ rfl) 5 _ rfl) ht 6 (.string x)
      exact Kd.R_step h6 (fun _ _ _ => rfl))
    clear hw7
    have c8 : w7.drew.cell? ⟨p, 8, none⟩ = some (.int .i64 s.co) := (blk_cell (w := w7.drew) HP7.out 8).trans rfl
    have a10 : w7.drew.cell? ⟨g, 10, none⟩ = some (.int .i64 st) := (blk_cell (w := w7.drew) HG7.out 10).trans rfl
    have z8 := blk_frozen HP7.out 8
    go_wp2_with fail
    refine start_ (n := 11) (S := fun w' => w'.cell? ⟨p, 8, none⟩ = some (.int .i64 s.co) ∧ w'.cell? ⟨g, 10, none⟩ = some (.int .i64 st)) (ds := [10]) bq147 (by kernel_rfl) rfl rfl ⟨c8, a10⟩ (fun hHeld => ?_)
    refine pure_ (i := 0) (N := some 44) (v := ?_) (a' := ?_) bq148 rfl rfl (by kernel_rfl) (fun _ _ _ h => h) (Or.inl ⟨by rfl, ?_⟩) ?_ ?_
    rotate_left
    · intro w'; go_simp; with_reducible rfl
    rotate_left
    · simp only [sxx]; rfl
    refine pure_ (i := 1) (N := some 45) (v := ?_) (a' := ?_) bq149 rfl rfl (by kernel_rfl) (fun _ _ _ h => h) (Or.inl ⟨by rfl, ?_⟩) ?_ ?_
    rotate_left
    · intro w'; go_simp; with_reducible rfl
    rotate_left
    · simp only [sxx]; rfl
    refine pure_ (i := 2) (N := some 46) (v := ?_) (a' := ?_) bq150 rfl rfl (by kernel_rfl) (fun _ _ _ h => h) (Or.inl ⟨by rfl, ?_⟩) ?_ ?_
    rotate_left
    · intro w'; go_simp; with_reducible rfl
    rotate_left
    · simp only [sxx]; rfl
    refine pure_ (i := 3) (N := some 47) (v := ?_) (a' := ?_) bq151 rfl rfl (by kernel_rfl) (fun _ _ _ h => h) (Or.inl ⟨by rfl, ?_⟩) ?_ ?_
    rotate_left
    · intro w'; go_simp; with_reducible rfl
    rotate_left
    · simp only [sxx]; rfl
    refine pure_ (i := 5) (N := some 49) (v := ?_) (a' := ?_) bq194 rfl rfl (by kernel_rfl) (fun _ _ _ h => h) (Or.inl ⟨by rfl, ?_⟩) ?_ ?_
    rotate_left
    · intro w'; go_simp; with_reducible rfl
    rotate_left
    · simp only [sxx]; rfl
    refine take_ (i := 4) (N := some 48) (v := ?_) (a' := ?_) bq153 rfl rfl (by kernel_rfl) (fun _ _ _ h => h) (Or.inl ⟨by rfl, ?_⟩) hHeld ?_ ?_
    rotate_left
    · rintro w' ⟨s0, s1⟩
      go_simp; with_reducible rfl
    rotate_left
    · simp only [sxx]; rfl
    refine take_ (i := 6) (N := some 50) (v := ?_) (a' := ?_) bq154 rfl rfl (by kernel_rfl) (fun _ _ _ h => h) (Or.inl ⟨by rfl, ?_⟩) hHeld ?_ ?_
    rotate_left
    · rintro w' ⟨s0, s1⟩
      go_simp; with_reducible rfl
    rotate_left
    · simp only [sxx]; rfl
    refine pure_ (i := 7) (N := some 51) (v := ?_) (a' := ?_) bq155 rfl rfl (by kernel_rfl) (fun _ _ _ h => h) (Or.inl ⟨by rfl, ?_⟩) ?_ ?_
    rotate_left
    · intro w'; go_simp; with_reducible rfl
    rotate_left
    · simp only [sxx]; rfl
    refine pure_ (i := 8) (N := some 52) (v := ?_) (a' := ?_) bq156 rfl rfl (by kernel_rfl) (fun _ _ _ h => h) (Or.inl ⟨by rfl, ?_⟩) ?_ ?_
    rotate_left
    · intro w'; go_simp; with_reducible rfl
    rotate_left
    · simp only [sxx]; rfl
    refine pure_ (i := 9) (N := some 53) (v := ?_) (a' := ?_) bq157 rfl rfl (by kernel_rfl) (fun _ _ _ h => h) (Or.inl ⟨by rfl, ?_⟩) ?_ ?_
    rotate_left
    · intro w'; go_simp; with_reducible rfl
    rotate_left
    · simp only [sxx]; rfl
    refine last_ (i := 10) (N := none) bq158 rfl rfl (by kernel_rfl) (by decide) (fun K hK => ?_)
    refine skip_ (w1 := ?_) (by rfl) rfl ?_ ?_
    rotate_left
    · go_simp; rfl
    refine hK.out _ _ ?_
    clear hK K
    refine done_ (by kernel_rfl) ?_
    go_end0
    rw [if_max s.co st]
    refine ⟨⟨_, rfl⟩, E1, c1, ?_, ?_, ?_⟩
    · exact blk_put HP7.out 8 _ rfl
    · exact Kd.R_set HR7.out HP7.out (fun t ht => by rcases k24_types ht with rfl | rfl <;> decide) 8 _
    · exact (HX7.out.set_ (p := ⟨p, 8, none⟩) (.inl rfl) _).drew
  · have e1 : decide ((d : Int) ≤ (ne : Int)) = false := decide_eq_false (by omega)
    have e2 : decide (d ≤ ne) = false := decide_eq_false h1
    have HNL := Aside0.mk (show s.es = [] from HDD.out.resolve_left h1)
    have HND := Aside0.mk (show ne = m by rw [HMM.out, HNL.out, List.drop_nil, ← HN.out, HNL.out])
    clear h1
    go_wp2_with fail
    clear c7 e1 e2 w0
    obtain ⟨wa, hwa⟩ : ∃ wa, wa = w2 := ⟨_, rfl⟩
    rw [← hwa]
    have HPa := Aside0.mk (show wa.heap[p]? = some (.cells ((({ s with es := s.es.drop d } : SV)).cells E m ce) 53 (0, 0)) by
      rw [hwa, ← HND.out]
      have : (({ s with es := s.es.drop d } : SV)) = s := by
        cases s
        have h := HNL.out
        simp only at h
        subst h
        simp
      rw [this]
      exact HP2.out)
    have HGa := Aside0.mk (show wa.heap[g]? = some (.cells (recCells kd a v k se rq A n c vn vp vb st of x) 116 (0, 0)) by rw [hwa]; exact HG2.out)
    have HXa := Aside0.mk (show Frm w wa (fun k => k = p) by rw [hwa]; exact HX2.out)
    have HRa := Aside0.mk (show Kd.R k24 24 wa base ok (.slice E m ce) (s.es.drop d) by
      rw [hwa, ← HND.out, HNL.out, List.drop_nil]
      have h := HR2.out
      rw [HNL.out] at h
      exact h)
    clear hwa
    have a10 : wa.drew.cell? ⟨g, 10, none⟩ = some (.int .i64 st) := (blk_cell (w := wa.drew) HGa.out 10).trans rfl
    have b10 : wa.cell? ⟨g, 10, none⟩ = some (.int .i64 st) := a10
    have a11 : wa.drew.cell? ⟨g, 11, none⟩ = some (.int .i64 of) := (blk_cell (w := wa.drew) HGa.out 11).trans rfl
    have b11 : wa.cell? ⟨g, 11, none⟩ = some (.int .i64 of) := a11
    have a12 : wa.drew.cell? ⟨g, 12, none⟩ = some (.string x) := (blk_cell (w := wa.drew) HGa.out 12).trans rfl
    have b12 : wa.cell? ⟨g, 12, none⟩ = some (.string x) := a12
    have c4 := (blk_cell HPa.out 4).trans rfl
    have z4 := blk_frozen HPa.out 4
    have c5 := (blk_cell HPa.out 5).trans rfl
    have z5 := blk_frozen HPa.out 5
    have c6 := (blk_cell HPa.out 6).trans rfl
    have z6 := blk_frozen HPa.out 6
    have hgp := HPG.out
    refine start_ (n := 18) (S := fun w' => w'.cell? ⟨g, 10, none⟩ = some (.int .i64 st) ∧ w'.cell? ⟨g, 11, none⟩ = some (.int .i64 of) ∧ w'.cell? ⟨g, 12, none⟩ = some (.string x)) (ds := [17]) bq121 (by kernel_rfl) rfl rfl ⟨a10, a11, a12⟩ (fun hHeld => ?_)
    refine pure_ (i := 0) (N := some 29) (v := ?_) (a' := ?_) bq122 rfl rfl (by kernel_rfl) (fun _ _ _ h => h) (Or.inl ⟨by rfl, ?_⟩) ?_ ?_
    rotate_left
    · intro w'; go_simp; with_reducible rfl
    rotate_left
    · simp only [sxx]; rfl
    refine pure_ (i := 1) (N := some 30) (v := ?_) (a' := ?_) bq123 rfl rfl (by kernel_rfl) (fun _ _ _ h => h) (Or.inl ⟨by rfl, ?_⟩) ?_ ?_
    rotate_left
    · intro w'; go_simp; with_reducible rfl
    rotate_left
    · simp only [sxx]; rfl
    refine pure_ (i := 2) (N := some 31) (v := ?_) (a' := ?_) bq124 rfl rfl (by kernel_rfl) (fun _ _ _ h => h) (Or.inl ⟨by rfl, ?_⟩) ?_ ?_
    rotate_left
    · intro w'; go_simp; with_reducible rfl
    rotate_left
    · simp only [sxx]; rfl
    refine pure_ (i := 3) (N := some 32) (v := ?_) (a' := ?_) bq125 rfl rfl (by kernel_rfl) (fun _ _ _ h => h) (Or.inl ⟨by rfl, ?_⟩) ?_ ?_
    rotate_left
    · intro w'; go_simp; with_reducible rfl
    rotate_left
    · simp only [sxx]; rfl
    refine pure_ (i := 5) (N := some 34) (v := ?_) (a' := ?_) bq184 rfl rfl (by kernel_rfl) (fun _ _ _ h => h) (Or.inl ⟨by rfl, ?_⟩) ?_ ?_
    rotate_left
    · intro w'; go_simp; with_reducible rfl
    rotate_left
    · simp only [sxx]; rfl
    refine pure_ (i := 7) (N := some 36) (v := ?_) (a' := ?_) bq185 rfl rfl (by kernel_rfl) (fun _ _ _ h => h) (Or.inl ⟨by rfl, ?_⟩) ?_ ?_
    rotate_left
    · intro w'; go_simp; with_reducible rfl
    rotate_left
    · simp only [sxx]; rfl
    refine take_ (i := 4) (N := some 33) (v := ?_) (a' := ?_) bq186 rfl rfl (by kernel_rfl) (fun _ _ _ h => h) (Or.inl ⟨by rfl, ?_⟩) hHeld ?_ ?_
    rotate_left
    · rintro w' ⟨s0, s1, s2⟩
      go_simp; with_reducible rfl
    rotate_left
    · simp only [sxx]; rfl
    refine pure_ (i := 9) (N := some 38) (v := ?_) (a' := ?_) bq187 rfl rfl (by kernel_rfl) (fun _ _ _ h => h) (Or.inl ⟨by rfl, ?_⟩) ?_ ?_
    rotate_left
    · intro w'; go_simp; with_reducible rfl
    rotate_left
    · simp only [sxx]; rfl
    refine pure_ (i := 10) (N := some 39) (v := ?_) (a' := ?_) bq188 rfl rfl (by kernel_rfl) (fun _ _ _ h => h) (Or.inl ⟨by rfl, ?_⟩) ?_ ?_
    rotate_left
    · intro w'; go_simp; with_reducible rfl
    rotate_left
    · simp only [sxx]; rfl
    refine take_ (i := 6) (N := some 35) (v := ?_) (a' := ?_) bq189 rfl rfl (by kernel_rfl) (fun _ _ _ h => h) (Or.inl ⟨by rfl, ?_⟩) hHeld ?_ ?_
    rotate_left
    · rintro w' ⟨s0, s1, s2⟩
      go_simp; with_reducible rfl
    rotate_left
    · simp only [sxx]; rfl
    refine take_ (i := 8) (N := some 37) (v := ?_) (a' := ?_) bq190 rfl rfl (by kernel_rfl) (fun _ _ _ h => h) (Or.inl ⟨by rfl, ?_⟩) hHeld ?_ ?_
    rotate_left
    · rintro w' ⟨s0, s1, s2⟩
      go_simp; with_reducible rfl
    rotate_left
    · simp only [sxx]; rfl
    refine one_ (i := 11) (N := none) bq191 rfl rfl (by kernel_rfl) (by decide) (fun K hK => ?_)
    refine skip_ (w1 := ?_) (by rfl) rfl ?_ ?_
    rotate_left
    · go_simp; rfl
    refine hK.out _ _ ⟨(by first | exact set_other hgp a10 | exact drew_cell (set_other hgp b10) | exact set_other hgp b10), (by first | exact set_other hgp a11 | exact drew_cell (set_other hgp b11) | exact set_other hgp b11), (by first | exact set_other hgp a12 | exact drew_cell (set_other hgp b12) | exact set_other hgp b12)⟩ (fun hHeld => ?_)
    clear hK K
    refine pure_ (i := 12) (N := some 40) (v := ?_) (a' := ?_) bq192 rfl rfl (by kernel_rfl) (fun _ _ _ h => h) (Or.inl ⟨by rfl, ?_⟩) ?_ ?_
    rotate_left
    · intro w'; go_simp; with_reducible rfl
    rotate_left
    · simp only [sxx]; rfl
    refine pure_ (i := 13) (N := some 41) (v := ?_) (a' := ?_) bq193 rfl rfl (by kernel_rfl) (fun _ _ _ h => h) (Or.inl ⟨by rfl, ?_⟩) ?_ ?_
    rotate_left
    · intro w'; go_simp; with_reducible rfl
    rotate_left
    · simp only [sxx]; rfl
    refine one_ (i := 14) (N := none) bq136 rfl rfl (by kernel_rfl) (by decide) (fun K hK => ?_)
    refine skip_ (w1 := ?_) (by rfl) rfl ?_ ?_
    rotate_left
    · go_simp; rfl
    refine hK.out _ _ ⟨(by first | exact set_other hgp (set_other hgp a10) | exact drew_cell (set_other hgp (set_other hgp b10)) | exact set_other hgp (set_other hgp b10)), (by first | exact set_other hgp (set_other hgp a11) | exact drew_cell (set_other hgp (set_other hgp b11)) | exact set_other hgp (set_other hgp b11)), (by first | exact set_other hgp (set_other hgp a12) | exact drew_cell (set_other hgp (set_other hgp b12)) | exact set_other hgp (set_other hgp b12))⟩ (fun hHeld => ?_)
    clear hK K
    refine pure_ (i := 15) (N := some 42) (v := ?_) (a' := ?_) bq137 rfl rfl (by kernel_rfl) (fun _ _ _ h => h) (Or.inl ⟨by rfl, ?_⟩) ?_ ?_
    rotate_left
    · intro w'; go_simp; with_reducible rfl
    rotate_left
    · simp only [sxx]; rfl
    refine pure_ (i := 16) (N := some 43) (v := ?_) (a' := ?_) bq138 rfl rfl (by kernel_rfl) (fun _ _ _ h => h) (Or.inl ⟨by rfl, ?_⟩) ?_ ?_
    rotate_left
    · intro w'; go_simp; with_reducible rfl
    rotate_left
    · simp only [sxx]; rfl
    refine last_ (i := 17) (N := none) bq139 rfl rfl (by kernel_rfl) (by decide) (fun K hK => ?_)
    refine skip_ (w1 := ?_) (by rfl) rfl ?_ ?_
    rotate_left
    · go_simp; rfl
    refine hK.out _ _ ?_
    clear hK K
    refine done_ (by kernel_rfl) ?_
    clear hHeld a10 a11 a12 b10 b11 b12 c4 c5 c6 z4 z5 z6 hgp
    obtain ⟨w7, hw7⟩ : ∃ w7, w7 = (((wa.setCell ⟨p, 4, none⟩ (.int .i64 st)).setCell ⟨p, 5, none⟩ (.int .i64 of)).setCell ⟨p, 6, none⟩ (.string x)).drew := ⟨_, rfl⟩
    rw [← hw7]
    have HP7 := Aside0.mk (show w7.heap[p]? = some (.cells (({ ({ s with es := s.es.drop d } : SV) with st := st, of := of, x := x } : SV).cells E m ce) 53 (0, 0)) by
      rw [hw7]
      show (((wa.setCell ⟨p, 4, none⟩ (.int .i64 st)).setCell ⟨p, 5, none⟩ (.int .i64 of)).setCell ⟨p, 6, none⟩ (.string x)).heap[p]? = _
      refine blk_put (cs := ({ ({ s with es := s.es.drop d } : SV) with st := st, of := of } : SV).cells E m ce) ?_ 6 _ rfl
      refine blk_put (cs := ({ ({ s with es := s.es.drop d } : SV) with st := st } : SV).cells E m ce) ?_ 5 _ rfl
      exact blk_put HPa.out 4 _ rfl)
    have HG7 := Aside0.mk (show w7.heap[g]? = some (.cells (recCells kd a v k se rq A n c vn vp vb st of x) 116 (0, 0)) by
      rw [hw7]
      exact blk_far (blk_far (blk_far HGa.out (by simp only; exact HPG.out) _) (by simp only; exact HPG.out) _) (by simp only; exact HPG.out) _)
    have HX7 := Aside0.mk (show Frm w w7 (fun k => k = p) by
      rw [hw7]
      exact (((HXa.out.set_ (p := ⟨p, 4, none⟩) (.inl rfl) _).set_ (p := ⟨p, 5, none⟩) (.inl rfl) _).set_ (p := ⟨p, 6, none⟩) (.inl rfl) _).drew)
    have HR7 := Aside0.mk (show Kd.R k24 24 w7 base ok (.slice E m ce) (s.es.drop d) by
      rw [hw7]
      have ht : ∀ t, t ∈ 24 :: k24.E → t ≠ 53 := fun t ht => by rcases k24_types ht with rfl | rfl <;> decide
      have h4 := Kd.R_set HRa.out HPa.out ht 4 (.int .i64 st)
      have h5 := Kd.R_set h4 (blk_put HPa.out 4 _ rfl) ht 5 (.int .i64 of)
      have h6 := Kd.R_set h5 (blk_put (blk_put HPa.out 4 _ rfl) 5 _ rfl) ht 6 (.string x)
      exact Kd.R_step h6 (fun _ _ _ => rfl))
    clear hw7
    have c8 : w7.drew.cell? ⟨p, 8, none⟩ = some (.int .i64 s.co) := (blk_cell (w := w7.drew) HP7.out 8).trans rfl
    have a10 : w7.drew.cell? ⟨g, 10, none⟩ = some (.int .i64 st) := (blk_cell (w := w7.drew) HG7.out 10).trans rfl
    have z8 := blk_frozen HP7.out 8
    go_wp2_with fail
    refine start_ (n := 11) (S := fun w' => w'.cell? ⟨p, 8, none⟩ = some (.int .i64 s.co) ∧ w'.cell? ⟨g, 10, none⟩ = some (.int .i64 st)) (ds := [10]) bq147 (by kernel_rfl) rfl rfl ⟨c8, a10⟩ (fun hHeld => ?_)
    refine pure_ (i := 0) (N := some 44) (v := ?_) (a' := ?_) bq148 rfl rfl (by kernel_rfl) (fun _ _ _ h => h) (Or.inl ⟨by rfl, ?_⟩) ?_ ?_
    rotate_left
    · intro w'; go_simp; with_reducible rfl
    rotate_left
    · simp only [sxx]; rfl
    refine pure_ (i := 1) (N := some 45) (v := ?_) (a' := ?_) bq149 rfl rfl (by kernel_rfl) (fun _ _ _ h => h) (Or.inl ⟨by rfl, ?_⟩) ?_ ?_
    rotate_left
    · intro w'; go_simp; with_reducible rfl
    rotate_left
    · simp only [sxx]; rfl
    refine pure_ (i := 2) (N := some 46) (v := ?_) (a' := ?_) bq150 rfl rfl (by kernel_rfl) (fun _ _ _ h => h) (Or.inl ⟨by rfl, ?_⟩) ?_ ?_
    rotate_left
    · intro w'; go_simp; with_reducible rfl
    rotate_left
    · simp only [sxx]; rfl
    refine pure_ (i := 3) (N := some 47) (v := ?_) (a' := ?_) bq151 rfl rfl (by kernel_rfl) (fun _ _ _ h => h) (Or.inl ⟨by rfl, ?_⟩) ?_ ?_
    rotate_left
    · intro w'; go_simp; with_reducible rfl
    rotate_left
    · simp only [sxx]; rfl
    refine pure_ (i := 5) (N := some 49) (v := ?_) (a' := ?_) bq194 rfl rfl (by kernel_rfl) (fun _ _ _ h => h) (Or.inl ⟨by rfl, ?_⟩) ?_ ?_
    rotate_left
    · intro w'; go_simp; with_reducible rfl
    rotate_left
    · simp only [sxx]; rfl
    refine take_ (i := 4) (N := some 48) (v := ?_) (a' := ?_) bq153 rfl rfl (by kernel_rfl) (fun _ _ _ h => h) (Or.inl ⟨by rfl, ?_⟩) hHeld ?_ ?_
    rotate_left
    · rintro w' ⟨s0, s1⟩
      go_simp; with_reducible rfl
    rotate_left
    · simp only [sxx]; rfl
    refine take_ (i := 6) (N := some 50) (v := ?_) (a' := ?_) bq154 rfl rfl (by kernel_rfl) (fun _ _ _ h => h) (Or.inl ⟨by rfl, ?_⟩) hHeld ?_ ?_
    rotate_left
    · rintro w' ⟨s0, s1⟩
      go_simp; with_reducible rfl
    rotate_left
    · simp only [sxx]; rfl
    refine pure_ (i := 7) (N := some 51) (v := ?_) (a' := ?_) bq155 rfl rfl (by kernel_rfl) (fun _ _ _ h => h) (Or.inl ⟨by rfl, ?_⟩) ?_ ?_
    rotate_left
    · intro w'; go_simp; with_reducible rfl
    rotate_left
    · simp only [sxx]; rfl
    refine pure_ (i := 8) (N := some 52) (v := ?_) (a' := ?_) bq156 rfl rfl (by kernel_rfl) (fun _ _ _ h => h) (Or.inl ⟨by rfl, ?_⟩) ?_ ?_
    rotate_left
    · intro w'; go_simp; with_reducible rfl
    rotate_left
    · simp only [sxx]; rfl
    refine pure_ (i := 9) (N := some 53) (v := ?_) (a' := ?_) bq157 rfl rfl (by kernel_rfl) (fun _ _ _ h => h) (Or.inl ⟨by rfl, ?_⟩) ?_ ?_
    rotate_left
    · intro w'; go_simp; with_reducible rfl
    rotate_left
    · simp only [sxx]; rfl
    refine last_ (i := 10) (N := none) bq158 rfl rfl (by kernel_rfl) (by decide) (fun K hK => ?_)
    refine skip_ (w1 := ?_) (by rfl) rfl ?_ ?_
    rotate_left
    · go_simp; rfl
    refine hK.out _ _ ?_
    clear hK K
    refine done_ (by kernel_rfl) ?_
    go_end0
    rw [if_max s.co st]
    refine ⟨⟨_, rfl⟩, E, ce, ?_, ?_, ?_⟩
    · exact blk_put HP7.out 8 _ rfl
    · exact Kd.R_set HR7.out HP7.out (fun t ht => by rcases k24_types ht with rfl | rfl <;> decide) 8 _
    · exact (HX7.out.set_ (p := ⟨p, 8, none⟩) (.inl rfl) _).drew

def SV.zero : SV := ⟨0, 0, 0, 0, 0, 0, ⟨#[]⟩, [], 0⟩
def JR.ent (y : JR) : S24 := ⟨y.s, y.v, y.k, y.se, y.rq, y.ops⟩
/-- What has been said, with a record that fits. -/
def SV.says (s : SV) (y : JR) : SV :=
  if y.kd = 1 then { s with es := s.es ++ [y.ent] }
  else if y.kd = 2 then { s with vn := y.vn, vp := y.vp, vb := y.vb }
  else if y.kd = 3 then { s with ma := y.vn }
  else if y.kd = 4 then { s with ma := y.vn, st := y.st, of := y.of, x := y.x, co := y.st, es := [] }
  else if y.kd = 5 then { s with es := s.es.drop (y.st - s.st).toNat, st := y.st, of := y.of, x := y.x, co := max s.co y.st }
  else { s with co := y.st }
/-- What Recover says of records: s, how many, how many bytes. -/
def rcGo : List JR → Nat → SV → Nat → SV × Nat × Nat
  | [], k, s, z => (s, k, z)
  | y :: L, k, s, z => if s.fits y (decide (k = 0)) = true then rcGo L (k + 1) (s.says y) (z + (y.enc ((k : Int) + 1)).1.length) else (s, k, z)
/-- What a record that Encode takes is like. -/
def JR.okay (y : JR) : Prop := (y.kd = 1 ∨ y.kd = 2 ∨ y.kd = 3 ∨ y.kd = 4 ∨ y.kd = 5 ∨ y.kd = 6) ∧ (y.kd = 4 ∨ y.kd = 5 ∨ y.kd = 6 → 0 ≤ y.st ∧ y.st ≤ 2147483647)
theorem body_okay {kd s v k se rq : Int} {l : List S40} {vn vp vb st of : Int} {x : ByteArray} (h2 : (recBody kd s v k se rq l vn vp vb st of x).2 = true) :
    (kd = 1 ∨ kd = 2 ∨ kd = 3 ∨ kd = 4 ∨ kd = 5 ∨ kd = 6) ∧ (kd = 4 ∨ kd = 5 ∨ kd = 6 → 0 ≤ st ∧ st ≤ 2147483647) := by
  unfold recBody at h2
  by_cases h1 : kd = 1
  · exact ⟨.inl h1, fun h => by omega⟩
  rw [if_neg h1] at h2
  by_cases h3 : kd = 2
  · exact ⟨.inr (.inl h3), fun h => by omega⟩
  rw [if_neg h3] at h2
  by_cases h4 : kd = 3
  · exact ⟨.inr (.inr (.inl h4)), fun h => by omega⟩
  rw [if_neg h4] at h2
  by_cases h5 : kd = 4
  · rw [if_pos h5] at h2
    simp only [Bool.and_eq_true, numOk, decide_eq_true_eq] at h2
    exact ⟨.inr (.inr (.inr (.inl h5))), fun h => h2.2.2.1⟩
  rw [if_neg h5] at h2
  by_cases h6 : kd = 5
  · rw [if_pos h6] at h2
    simp only [Bool.and_eq_true, numOk, decide_eq_true_eq] at h2
    exact ⟨.inr (.inr (.inr (.inr (.inl h6)))), fun h => h2.2.2.1⟩
  rw [if_neg h6] at h2
  by_cases h7 : kd = 6
  · rw [if_pos h7] at h2
    simp only [Bool.and_eq_true, numOk, decide_eq_true_eq] at h2
    exact ⟨.inr (.inr (.inr (.inr (.inr h7)))), fun h => h2.1⟩
  rw [if_neg h7] at h2
  cases h2
theorem enc_okay {y : JR} {sq : Int} {r1 : List Int} (h : y.enc sq = (r1, 0)) : y.okay := body_okay (recEnc_parts h).2.1
theorem zero_small : SV.zero.small := ⟨by decide, by decide, by decide, by decide⟩
theorem says_len (s : SV) (y : JR) : (s.says y).es.length ≤ s.es.length + 1 := by
  unfold SV.says
  split
  · simp
  split
  · simp
  split
  · simp
  split
  · simp
  split
  · simp only [List.length_drop]; omega
  · simp
theorem fits_save' {s : SV} {y : JR} (hk : y.kd = 5) (hf : s.fits y false = true) : s.st ≤ y.st ∧ y.st ≤ s.co := by
  unfold SV.fits at hf
  rw [if_neg (by omega), if_neg (by omega), if_neg (by omega), if_neg (by omega), if_pos hk, if_neg (by decide)] at hf
  by_cases h : y.st < s.st ∨ s.co < y.st
  · rw [if_pos h] at hf; cases hf
  · omega
theorem save_ahead {s : SV} {y : JR} {first : Bool} (hs : s.small) (hk : y.kd = 5) (hy : y.okay) (hf : s.fits y first = true) (hz : first = true → s = SV.zero) :
    s.st ≤ y.st ∧ ((y.st - s.st).toNat ≤ s.es.length ∨ s.es = []) := by
  have hst := hy.2 (.inr (.inl hk))
  cases first with
  | true =>
    obtain rfl := hz rfl
    exact ⟨hst.1, .inr rfl⟩
  | false =>
    have h := fits_save' hk hf
    have h2 := hs.2.2.2
    exact ⟨h.1, .inl (by omega)⟩
theorem says_small {s : SV} {y : JR} {first : Bool} (hs : s.small) (hf : s.fits y first = true) (hy : y.okay) (hz : first = true → s = SV.zero) (hl : s.es.length + 1 ≤ 1000000) : (s.says y).small := by
  obtain ⟨h1, h2, h3, h4⟩ := hs
  unfold SV.says
  by_cases k1 : y.kd = 1
  · rw [if_pos k1]
    exact ⟨h1, h2, by simp only [List.length_append, List.length_cons, List.length_nil]; omega, by simp only [List.length_append, List.length_cons, List.length_nil]; omega⟩
  rw [if_neg k1]
  by_cases k2 : y.kd = 2
  · rw [if_pos k2]; exact ⟨h1, h2, h3, h4⟩
  rw [if_neg k2]
  by_cases k3 : y.kd = 3
  · rw [if_pos k3]; exact ⟨h1, h2, h3, h4⟩
  rw [if_neg k3]
  by_cases k4 : y.kd = 4
  · rw [if_pos k4]
    have h := hy.2 (.inl k4)
    exact ⟨h.1, h.2, by simp, by simp⟩
  rw [if_neg k4]
  by_cases k5 : y.kd = 5
  · rw [if_pos k5]
    have h := hy.2 (.inr (.inl k5))
    have ha := save_ahead ⟨h1, h2, h3, h4⟩ k5 hy hf hz
    refine ⟨h.1, h.2, by simp only [List.length_drop]; omega, ?_⟩
    simp only [List.length_drop]
    cases first with
    | true =>
      obtain rfl := hz rfl
      have : max SV.zero.co y.st = y.st := by rw [Int.max_def]; have : SV.zero.co = 0 := rfl; split <;> omega
      rw [this]
      omega
    | false =>
      have h' := fits_save' k5 hf
      have : max s.co y.st = s.co := by rw [Int.max_def]; split <;> omega
      rw [this]
      omega
  rw [if_neg k5]
  have k6 : y.kd = 6 := by rcases hy.1 with h | h | h | h | h | h <;> first | exact absurd h ‹_› | exact h
  unfold SV.fits at hf
  rw [if_neg k1, if_neg k2, if_neg k3, if_neg k4, if_neg k5] at hf
  simp only [Bool.and_eq_true, decide_eq_true_eq, SV.lst] at hf
  exact ⟨h1, h2, h3, of_decide_eq_true hf.2⟩
/-- A Saved in block p; its entries a row of one's own. -/
structure SvAt (w : World) (p base : Nat) (ok : Nat → Prop) (s : SV) (E : Option Addr) (ne ce : Nat) : Prop where
  blk : w.heap[p]? = some (.cells (s.cells E ne ce) 53 (0, 0))
  row : Kd.R k24 24 w base ok (.slice E ne ce) s.es
  len : s.es.length = ne
  small : s.small
theorem SvAt.read {w : World} {p base : Nat} {ok : Nat → Prop} {s : SV} {E : Option Addr} {ne ce : Nat} (h : SvAt w p base ok s E ne ce) : Kd.C k24 w E ne s.es := by
  obtain ⟨A, c, e, _, hC⟩ := Kd.R_reads h.row
  injection e with e1 e2 e3
  rw [e1, e2]
  exact hC
theorem SvAt.below {w w' : World} {p base : Nat} {ok : Nat → Prop} {s : SV} {E : Option Addr} {ne ce : Nat} (h : SvAt w p base ok s E ne ce) (hb : Below w.heap.size w w') : SvAt w' p base ok s E ne ce :=
  ⟨(hb.block p (blk_lt h.blk)).trans h.blk, Kd.R_below h.row hb, h.len, h.small⟩
theorem SvAt.keep {w w' : World} {p base : Nat} {ok : Nat → Prop} {s s' : SV} {E : Option Addr} {ne ce : Nat} (h : SvAt w p base ok s E ne ce) (hp : w'.heap[p]? = some (.cells (s'.cells E ne ce) 53 (0, 0))) (he : s'.es = s.es) (hs : s'.small) (hF : Frm w w' (fun k => k = p)) : SvAt w' p base ok s' E ne ce := by
  refine ⟨hp, ?_, by rw [he]; exact h.len, hs⟩
  rw [he]
  exact Kd.R_mono (Kd.R_step (Kd.R_types h.row h.blk (fun t ht => by rcases k24_types ht with rfl | rfl <;> decide)) (fun j hj hlt => hF.block j hlt hj.2)) (fun _ hj => hj.1)
abbrev JR.rc (y : JR) (A : Option Addr) (m c : Nat) : Array Value := recCells y.kd y.s y.v y.k y.se y.rq A m c y.vn y.vp y.vb y.st y.of y.x
set_option maxHeartbeats 4000000 in
set_option maxRecDepth 100000 in
theorem knownR_1 (s v k se rq : Int) (A : Option Addr) (m c : Nat) (vn vp vb st of : Int) (x : ByteArray) (w : World) :
    Calls Try.prog 36 #[.agg (recCells 1 s v k se rq A m c vn vp vb st of x)] w fun e w' => e = .returned (.iface 112 (.agg #[.int .i64 s, .int .i64 v, .int .i64 k, .int .i64 se, .int .i64 rq, .slice A m c])) ∧ Below w.heap.size w w' := by
  have hu28 := Try.underlying28
  have hu26 := Try.underlying26
  have hu24 := Try.underlying24
  have hu112 := Try.underlying112
  go_enter Try.func36, Try.ntmps36
  go_wp2_with fail
  refine bodyPost_ret (results_tmp rfl _ _ _) rfl ?_
  exact ⟨rfl, below_alloc (Below.refl _ _) _⟩
theorem known_1 (y : JR) (hk : y.kd = 1) (A : Option Addr) (m c : Nat) (w : World) :
    Calls Try.prog 36 #[.agg (y.rc A m c)] w fun e w' => e = .returned (.iface 112 (.agg #[.int .i64 y.s, .int .i64 y.v, .int .i64 y.k, .int .i64 y.se, .int .i64 y.rq, .slice A m c])) ∧ Below w.heap.size w w' := by
  rw [show y.rc A m c = recCells 1 y.s y.v y.k y.se y.rq A m c y.vn y.vp y.vb y.st y.of y.x by rw [← hk]]
  exact knownR_1 _ _ _ _ _ _ _ _ _ _ _ _ _ _ _
set_option maxHeartbeats 4000000 in
set_option maxRecDepth 100000 in
theorem knownR_2 (s v k se rq : Int) (A : Option Addr) (m c : Nat) (vn vp vb st of : Int) (x : ByteArray) (w : World) :
    Calls Try.prog 36 #[.agg (recCells 2 s v k se rq A m c vn vp vb st of x)] w fun e w' => e = .returned (.iface 113 (.agg #[.int .i64 vn, .int .i64 vp, .int .i64 vb])) ∧ Below w.heap.size w w' := by
  have hu28 := Try.underlying28
  have hu26 := Try.underlying26
  have hu24 := Try.underlying24
  have hu113 := Try.underlying113
  go_enter Try.func36, Try.ntmps36
  go_wp2_with fail
  refine bodyPost_ret (results_tmp rfl _ _ _) rfl ?_
  exact ⟨rfl, below_alloc (Below.refl _ _) _⟩
theorem known_2 (y : JR) (hk : y.kd = 2) (A : Option Addr) (m c : Nat) (w : World) :
    Calls Try.prog 36 #[.agg (y.rc A m c)] w fun e w' => e = .returned (.iface 113 (.agg #[.int .i64 y.vn, .int .i64 y.vp, .int .i64 y.vb])) ∧ Below w.heap.size w w' := by
  rw [show y.rc A m c = recCells 2 y.s y.v y.k y.se y.rq A m c y.vn y.vp y.vb y.st y.of y.x by rw [← hk]]
  exact knownR_2 _ _ _ _ _ _ _ _ _ _ _ _ _ _ _
set_option maxHeartbeats 4000000 in
set_option maxRecDepth 100000 in
theorem knownR_3 (s v k se rq : Int) (A : Option Addr) (m c : Nat) (vn vp vb st of : Int) (x : ByteArray) (w : World) :
    Calls Try.prog 36 #[.agg (recCells 3 s v k se rq A m c vn vp vb st of x)] w fun e w' => e = .returned (.iface 114 (.int .i64 vn)) ∧ Below w.heap.size w w' := by
  have hu28 := Try.underlying28
  have hu26 := Try.underlying26
  have hu24 := Try.underlying24
  have hu114 := Try.underlying114
  go_enter Try.func36, Try.ntmps36
  go_wp2_with fail
  refine bodyPost_ret (results_tmp rfl _ _ _) rfl ?_
  exact ⟨rfl, below_alloc (Below.refl _ _) _⟩
theorem known_3 (y : JR) (hk : y.kd = 3) (A : Option Addr) (m c : Nat) (w : World) :
    Calls Try.prog 36 #[.agg (y.rc A m c)] w fun e w' => e = .returned (.iface 114 (.int .i64 y.vn)) ∧ Below w.heap.size w w' := by
  rw [show y.rc A m c = recCells 3 y.s y.v y.k y.se y.rq A m c y.vn y.vp y.vb y.st y.of y.x by rw [← hk]]
  exact knownR_3 _ _ _ _ _ _ _ _ _ _ _ _ _ _ _
set_option maxHeartbeats 4000000 in
set_option maxRecDepth 100000 in
theorem knownR_4 (s v k se rq : Int) (A : Option Addr) (m c : Nat) (vn vp vb st of : Int) (x : ByteArray) (w : World) :
    Calls Try.prog 36 #[.agg (recCells 4 s v k se rq A m c vn vp vb st of x)] w fun e w' => e = .returned (.iface 115 (.agg (recCells 4 s v k se rq A m c vn vp vb st of x))) ∧ Below w.heap.size w w' := by
  have hu28 := Try.underlying28
  have hu26 := Try.underlying26
  have hu24 := Try.underlying24
  have hu115 := Try.underlying115
  go_enter Try.func36, Try.ntmps36
  go_wp2_with fail
  refine bodyPost_ret (results_tmp rfl _ _ _) rfl ?_
  exact ⟨rfl, below_alloc (Below.refl _ _) _⟩
theorem known_4 (y : JR) (hk : y.kd = 4) (A : Option Addr) (m c : Nat) (w : World) :
    Calls Try.prog 36 #[.agg (y.rc A m c)] w fun e w' => e = .returned (.iface 115 (.agg (y.rc A m c))) ∧ Below w.heap.size w w' := by
  rw [show y.rc A m c = recCells 4 y.s y.v y.k y.se y.rq A m c y.vn y.vp y.vb y.st y.of y.x by rw [← hk]]
  exact knownR_4 _ _ _ _ _ _ _ _ _ _ _ _ _ _ _
set_option maxHeartbeats 4000000 in
set_option maxRecDepth 100000 in
theorem knownR_5 (s v k se rq : Int) (A : Option Addr) (m c : Nat) (vn vp vb st of : Int) (x : ByteArray) (w : World) :
    Calls Try.prog 36 #[.agg (recCells 5 s v k se rq A m c vn vp vb st of x)] w fun e w' => e = .returned (.iface 116 (.agg (recCells 5 s v k se rq A m c vn vp vb st of x))) ∧ Below w.heap.size w w' := by
  have hu28 := Try.underlying28
  have hu26 := Try.underlying26
  have hu24 := Try.underlying24
  have hu116 := Try.underlying116
  go_enter Try.func36, Try.ntmps36
  go_wp2_with fail
  refine bodyPost_ret (results_tmp rfl _ _ _) rfl ?_
  exact ⟨rfl, below_alloc (Below.refl _ _) _⟩
theorem known_5 (y : JR) (hk : y.kd = 5) (A : Option Addr) (m c : Nat) (w : World) :
    Calls Try.prog 36 #[.agg (y.rc A m c)] w fun e w' => e = .returned (.iface 116 (.agg (y.rc A m c))) ∧ Below w.heap.size w w' := by
  rw [show y.rc A m c = recCells 5 y.s y.v y.k y.se y.rq A m c y.vn y.vp y.vb y.st y.of y.x by rw [← hk]]
  exact knownR_5 _ _ _ _ _ _ _ _ _ _ _ _ _ _ _
set_option maxHeartbeats 4000000 in
set_option maxRecDepth 100000 in
theorem knownR_6 (s v k se rq : Int) (A : Option Addr) (m c : Nat) (vn vp vb st of : Int) (x : ByteArray) (w : World) :
    Calls Try.prog 36 #[.agg (recCells 6 s v k se rq A m c vn vp vb st of x)] w fun e w' => e = .returned (.iface 117 (.int .i64 st)) ∧ Below w.heap.size w w' := by
  have hu28 := Try.underlying28
  have hu26 := Try.underlying26
  have hu24 := Try.underlying24
  have hu117 := Try.underlying117
  go_enter Try.func36, Try.ntmps36
  go_wp2_with fail
  refine bodyPost_ret (results_tmp rfl _ _ _) rfl ?_
  exact ⟨rfl, below_alloc (Below.refl _ _) _⟩
theorem known_6 (y : JR) (hk : y.kd = 6) (A : Option Addr) (m c : Nat) (w : World) :
    Calls Try.prog 36 #[.agg (y.rc A m c)] w fun e w' => e = .returned (.iface 117 (.int .i64 y.st)) ∧ Below w.heap.size w w' := by
  rw [show y.rc A m c = recCells 6 y.s y.v y.k y.se y.rq A m c y.vn y.vp y.vb y.st y.of y.x by rw [← hk]]
  exact knownR_6 _ _ _ _ _ _ _ _ _ _ _ _ _ _ _
theorem fit_1 {w : World} {p base : Nat} {ok : Nat → Prop} {s : SV} {E : Option Addr} {ne ce : Nat} (h : SvAt w p base ok s E ne ce) (y : JR) (A : Option Addr) (m c : Nat) (hk : y.kd = 1) (hy : y.okay) (first : Bool) (r : Bool) (hr : s.fits y first = r) :
    Calls Try.prog 125 #[.agg #[.int .i64 y.s, .int .i64 y.v, .int .i64 y.k, .int .i64 y.se, .int .i64 y.rq, .slice A m c], .pointer (some ⟨p, 0, none⟩), .bool first] w fun e w' => e = .returned (.bool r) ∧ Below w.heap.size w w' := by
  refine (fits_entry w p s E ne ce h.blk h.read h.len h.small y.s y.v y.k y.se y.rq (.slice A m c) ⟨_, _, _, rfl⟩ first).mono ?_
  rintro e w' ⟨rfl, hb⟩
  refine ⟨?_, hb⟩
  rw [← hr]
  unfold SV.fits
  rw [if_pos hk]
theorem fit_2 {w : World} {p base : Nat} {ok : Nat → Prop} {s : SV} {E : Option Addr} {ne ce : Nat} (h : SvAt w p base ok s E ne ce) (y : JR) (A : Option Addr) (m c : Nat) (hk : y.kd = 2) (hy : y.okay) (first : Bool) (r : Bool) (hr : s.fits y first = r) :
    Calls Try.prog 127 #[.agg #[.int .i64 y.vn, .int .i64 y.vp, .int .i64 y.vb], .pointer (some ⟨p, 0, none⟩), .bool first] w fun e w' => e = .returned (.bool r) ∧ Below w.heap.size w w' := by
  refine (fits_view y.vn y.vp y.vb p _ s.vn first w h.blk rfl).mono ?_
  rintro e w' ⟨rfl, hb⟩
  refine ⟨?_, hb⟩
  rw [← hr]
  unfold SV.fits
  rw [if_neg (by omega), if_pos hk]
theorem fit_3 {w : World} {p base : Nat} {ok : Nat → Prop} {s : SV} {E : Option Addr} {ne ce : Nat} (h : SvAt w p base ok s E ne ce) (y : JR) (A : Option Addr) (m c : Nat) (hk : y.kd = 3) (hy : y.okay) (first : Bool) (r : Bool) (hr : s.fits y first = r) :
    Calls Try.prog 129 #[.int .i64 y.vn, .pointer (some ⟨p, 0, none⟩), .bool first] w fun e w' => e = .returned (.bool r) ∧ Below w.heap.size w w' := by
  refine (fits_matched w p s E ne ce h.blk y.vn first).mono ?_
  rintro e w' ⟨rfl, hb⟩
  refine ⟨?_, hb⟩
  rw [← hr]
  unfold SV.fits
  rw [if_neg (by omega), if_neg (by omega), if_pos hk]
theorem fit_4 {w : World} {p base : Nat} {ok : Nat → Prop} {s : SV} {E : Option Addr} {ne ce : Nat} (h : SvAt w p base ok s E ne ce) (y : JR) (A : Option Addr) (m c : Nat) (hk : y.kd = 4) (hy : y.okay) (first : Bool) (r : Bool) (hr : s.fits y first = r) :
    Calls Try.prog 131 #[.agg (y.rc A m c), .pointer (some ⟨p, 0, none⟩), .bool first] w fun e w' => e = .returned (.bool r) ∧ Below w.heap.size w w' := by
  refine (fits_reset w p s E ne ce h.blk y.kd y.s y.v y.k y.se y.rq A m c y.vn y.vp y.vb y.st y.of y.x first).mono ?_
  rintro e w' ⟨rfl, hb⟩
  refine ⟨?_, hb⟩
  rw [← hr]
  unfold SV.fits
  rw [if_neg (by omega), if_neg (by omega), if_neg (by omega), if_pos hk]
theorem fit_5 {w : World} {p base : Nat} {ok : Nat → Prop} {s : SV} {E : Option Addr} {ne ce : Nat} (h : SvAt w p base ok s E ne ce) (y : JR) (A : Option Addr) (m c : Nat) (hk : y.kd = 5) (hy : y.okay) (first : Bool) (r : Bool) (hr : s.fits y first = r) :
    Calls Try.prog 133 #[.agg (y.rc A m c), .pointer (some ⟨p, 0, none⟩), .bool first] w fun e w' => e = .returned (.bool r) ∧ Below w.heap.size w w' := by
  exact (fits_save w p s E ne ce h.blk h.read h.len h.small y.kd y.s y.v y.k y.se y.rq A m c y.vn y.vp y.vb y.st y.of y.x first (hy.2 (.inr (.inl hk))) r (by unfold SV.fits at hr; rw [if_neg (by omega), if_neg (by omega), if_neg (by omega), if_neg (by omega), if_pos hk] at hr; exact hr))
theorem fit_6 {w : World} {p base : Nat} {ok : Nat → Prop} {s : SV} {E : Option Addr} {ne ce : Nat} (h : SvAt w p base ok s E ne ce) (y : JR) (A : Option Addr) (m c : Nat) (hk : y.kd = 6) (hy : y.okay) (first : Bool) (r : Bool) (hr : s.fits y first = r) :
    Calls Try.prog 136 #[.int .i64 y.st, .pointer (some ⟨p, 0, none⟩), .bool first] w fun e w' => e = .returned (.bool r) ∧ Below w.heap.size w w' := by
  refine (fits_commit w p s E ne ce h.blk h.read h.len h.small y.st first).mono ?_
  rintro e w' ⟨rfl, hb⟩
  refine ⟨?_, hb⟩
  rw [← hr]
  unfold SV.fits
  rw [if_neg (by omega), if_neg (by omega), if_neg (by omega), if_neg (by omega), if_neg (by omega)]
theorem say_1 {w : World} {p base : Nat} {ok : Nat → Prop} {s : SV} {E : Option Addr} {ne ce : Nat} (h : SvAt w p base ok s E ne ce) (y : JR) (A : Option Addr) (m c : Nat) (hk : y.kd = 1) (hy : y.okay) (okx : Nat → Prop) (hv : Kd.R k40 40 w base okx (.slice A m c) y.ops) (hokx : ∀ k, okx k → ok k ∧ some k ≠ (Value.slice E ne ce).ownBlock) (hfresh : ∀ k, w.heap.size ≤ k → ok k) (hbase : base ≤ w.heap.size) (first : Bool) (hf : s.fits y first = true) (hz : first = true → s = SV.zero) (hsm : (s.says y).small) :
    Calls Try.prog 126 #[.agg #[.int .i64 y.s, .int .i64 y.v, .int .i64 y.k, .int .i64 y.se, .int .i64 y.rq, .slice A m c], .pointer (some ⟨p, 0, none⟩)] w fun r w' => (∃ v, r = .returned v) ∧ ∃ E' ne' ce', SvAt w' p base ok (s.says y) E' ne' ce' ∧ Frm w w' (fun k => k = p ∨ (Value.slice E ne ce).ownBlock = some k) := by
  have e1 : s.says y = ({ s with es := s.es ++ [y.ent] } : SV) := by unfold SV.says; rw [if_pos hk]
  rw [e1] at hsm ⊢
  refine (says_entry w p s E ne ce h.blk base ok okx h.row y.ent A m c hv hokx hfresh hbase h.small.2.2.1 _ rfl).mono ?_
  rintro r w' ⟨hr, E', ce', h1, h2, h3⟩
  exact ⟨hr, E', _, ce', ⟨h1, h2, rfl, hsm⟩, h3⟩
theorem say_2 {w : World} {p base : Nat} {ok : Nat → Prop} {s : SV} {E : Option Addr} {ne ce : Nat} (h : SvAt w p base ok s E ne ce) (y : JR) (A : Option Addr) (m c : Nat) (hk : y.kd = 2) (hy : y.okay) (okx : Nat → Prop) (hv : Kd.R k40 40 w base okx (.slice A m c) y.ops) (hokx : ∀ k, okx k → ok k ∧ some k ≠ (Value.slice E ne ce).ownBlock) (hfresh : ∀ k, w.heap.size ≤ k → ok k) (hbase : base ≤ w.heap.size) (first : Bool) (hf : s.fits y first = true) (hz : first = true → s = SV.zero) (hsm : (s.says y).small) :
    Calls Try.prog 128 #[.agg #[.int .i64 y.vn, .int .i64 y.vp, .int .i64 y.vb], .pointer (some ⟨p, 0, none⟩)] w fun r w' => (∃ v, r = .returned v) ∧ ∃ E' ne' ce', SvAt w' p base ok (s.says y) E' ne' ce' ∧ Frm w w' (fun k => k = p ∨ (Value.slice E ne ce).ownBlock = some k) := by
  have e1 : s.says y = ({ s with vn := y.vn, vp := y.vp, vb := y.vb } : SV) := by unfold SV.says; rw [if_neg (by omega), if_pos hk]
  rw [e1] at hsm ⊢
  refine (says_view y.vn y.vp y.vb p s.vn s.vp s.vb s.ma s.st s.of s.x E ne ce s.co w h.blk).mono ?_
  rintro r w' ⟨hr, h1, h3⟩
  exact ⟨hr, E, ne, ce, h.keep h1 rfl hsm h3, h3.mono (fun k hk _ => .inl hk)⟩
theorem say_3 {w : World} {p base : Nat} {ok : Nat → Prop} {s : SV} {E : Option Addr} {ne ce : Nat} (h : SvAt w p base ok s E ne ce) (y : JR) (A : Option Addr) (m c : Nat) (hk : y.kd = 3) (hy : y.okay) (okx : Nat → Prop) (hv : Kd.R k40 40 w base okx (.slice A m c) y.ops) (hokx : ∀ k, okx k → ok k ∧ some k ≠ (Value.slice E ne ce).ownBlock) (hfresh : ∀ k, w.heap.size ≤ k → ok k) (hbase : base ≤ w.heap.size) (first : Bool) (hf : s.fits y first = true) (hz : first = true → s = SV.zero) (hsm : (s.says y).small) :
    Calls Try.prog 130 #[.int .i64 y.vn, .pointer (some ⟨p, 0, none⟩)] w fun r w' => (∃ v, r = .returned v) ∧ ∃ E' ne' ce', SvAt w' p base ok (s.says y) E' ne' ce' ∧ Frm w w' (fun k => k = p ∨ (Value.slice E ne ce).ownBlock = some k) := by
  have e1 : s.says y = ({ s with ma := y.vn } : SV) := by unfold SV.says; rw [if_neg (by omega), if_neg (by omega), if_pos hk]
  rw [e1] at hsm ⊢
  refine (says_matched w p s E ne ce h.blk y.vn).mono ?_
  rintro r w' ⟨hr, h1, h3⟩
  exact ⟨hr, E, ne, ce, h.keep h1 rfl hsm h3, h3.mono (fun k hk _ => .inl hk)⟩
theorem say_4 {w : World} {p base : Nat} {ok : Nat → Prop} {s : SV} {E : Option Addr} {ne ce : Nat} (h : SvAt w p base ok s E ne ce) (y : JR) (A : Option Addr) (m c : Nat) (hk : y.kd = 4) (hy : y.okay) (okx : Nat → Prop) (hv : Kd.R k40 40 w base okx (.slice A m c) y.ops) (hokx : ∀ k, okx k → ok k ∧ some k ≠ (Value.slice E ne ce).ownBlock) (hfresh : ∀ k, w.heap.size ≤ k → ok k) (hbase : base ≤ w.heap.size) (first : Bool) (hf : s.fits y first = true) (hz : first = true → s = SV.zero) (hsm : (s.says y).small) :
    Calls Try.prog 132 #[.agg (y.rc A m c), .pointer (some ⟨p, 0, none⟩)] w fun r w' => (∃ v, r = .returned v) ∧ ∃ E' ne' ce', SvAt w' p base ok (s.says y) E' ne' ce' ∧ Frm w w' (fun k => k = p ∨ (Value.slice E ne ce).ownBlock = some k) := by
  have e1 : s.says y = ({ s with ma := y.vn, st := y.st, of := y.of, x := y.x, co := y.st, es := [] } : SV) := by unfold SV.says; rw [if_neg (by omega), if_neg (by omega), if_neg (by omega), if_pos hk]
  rw [e1] at hsm ⊢
  refine (says_reset w p s E ne ce h.blk y.kd y.s y.v y.k y.se y.rq A m c y.vn y.vp y.vb y.st y.of y.x).mono ?_
  rintro r w' ⟨hr, h1, h3⟩
  exact ⟨hr, none, 0, 0, ⟨h1, Kd.R_nil _ _ _ _ _, rfl, hsm⟩, h3.mono (fun k hk _ => .inl hk)⟩
theorem say_5 {w : World} {p base : Nat} {ok : Nat → Prop} {s : SV} {E : Option Addr} {ne ce : Nat} (h : SvAt w p base ok s E ne ce) (y : JR) (A : Option Addr) (m c : Nat) (hk : y.kd = 5) (hy : y.okay) (okx : Nat → Prop) (hv : Kd.R k40 40 w base okx (.slice A m c) y.ops) (hokx : ∀ k, okx k → ok k ∧ some k ≠ (Value.slice E ne ce).ownBlock) (hfresh : ∀ k, w.heap.size ≤ k → ok k) (hbase : base ≤ w.heap.size) (first : Bool) (hf : s.fits y first = true) (hz : first = true → s = SV.zero) (hsm : (s.says y).small) :
    Calls Try.prog 134 #[.agg (y.rc A m c), .pointer (some ⟨p, 0, none⟩)] w fun r w' => (∃ v, r = .returned v) ∧ ∃ E' ne' ce', SvAt w' p base ok (s.says y) E' ne' ce' ∧ Frm w w' (fun k => k = p ∨ (Value.slice E ne ce).ownBlock = some k) := by
  have e1 : s.says y = ({ s with es := s.es.drop (y.st - s.st).toNat, st := y.st, of := y.of, x := y.x, co := max s.co y.st } : SV) := by unfold SV.says; rw [if_neg (by omega), if_neg (by omega), if_neg (by omega), if_neg (by omega), if_pos hk]
  rw [e1] at hsm ⊢
  have ha := save_ahead h.small hk hy hf hz
  refine (says_save w p s E ne ce h.blk base ok h.row hfresh hbase h.small y.kd y.s y.v y.k y.se y.rq A m c y.vn y.vp y.vb y.st y.of y.x (y.st - s.st).toNat (by omega) (by rw [← h.len]; exact ha.2) (hy.2 (.inr (.inl hk))).2 _ rfl).mono ?_
  rintro r w' ⟨hr, E', ce', h1, h2, h3⟩
  exact ⟨hr, E', _, ce', ⟨h1, h2, rfl, hsm⟩, h3.mono (fun k hk _ => .inl hk)⟩
theorem say_6 {w : World} {p base : Nat} {ok : Nat → Prop} {s : SV} {E : Option Addr} {ne ce : Nat} (h : SvAt w p base ok s E ne ce) (y : JR) (A : Option Addr) (m c : Nat) (hk : y.kd = 6) (hy : y.okay) (okx : Nat → Prop) (hv : Kd.R k40 40 w base okx (.slice A m c) y.ops) (hokx : ∀ k, okx k → ok k ∧ some k ≠ (Value.slice E ne ce).ownBlock) (hfresh : ∀ k, w.heap.size ≤ k → ok k) (hbase : base ≤ w.heap.size) (first : Bool) (hf : s.fits y first = true) (hz : first = true → s = SV.zero) (hsm : (s.says y).small) :
    Calls Try.prog 137 #[.int .i64 y.st, .pointer (some ⟨p, 0, none⟩)] w fun r w' => (∃ v, r = .returned v) ∧ ∃ E' ne' ce', SvAt w' p base ok (s.says y) E' ne' ce' ∧ Frm w w' (fun k => k = p ∨ (Value.slice E ne ce).ownBlock = some k) := by
  have e1 : s.says y = ({ s with co := y.st } : SV) := by unfold SV.says; rw [if_neg (by omega), if_neg (by omega), if_neg (by omega), if_neg (by omega), if_neg (by omega)]
  rw [e1] at hsm ⊢
  refine (says_commit w p s E ne ce h.blk y.st).mono ?_
  rintro r w' ⟨hr, h1, h3⟩
  exact ⟨hr, E, ne, ce, h.keep h1 rfl hsm h3, h3.mono (fun k hk _ => .inl hk)⟩
/-- Four parts in line, the last one ahead of what leads to it. -/
theorem wpIn_tail {F : Fence} {n : Nat} {P : Program} {Q : Exit → Act → World → Prop} {a : Act} {w : World} {x y z t : Code} (Mid : Act → World → Prop) (ht : ∀ a w, Mid a w → t.wpIn F n P Q a w)
    (h : ∀ K : Act → World → Prop, (∀ a w, Mid a w → K a w) → x.wpIn F n P (Exit.then (fun a w => y.wpIn F n P (Exit.then (fun a w => z.wpIn F n P (Exit.then K Q) a w) Q) a w) Q) a w) :
    (Code.seq x (Code.seq y (Code.seq z t))).wpIn F n P Q a w := by
  refine wpIn_seq ?_
  refine wpIn_mono (h (fun a w => t.wpIn F n P Q a w) ht) ?_
  intro e a w h1
  cases e with
  | normal =>
    refine wpIn_seq (wpIn_mono h1 ?_)
    intro e a w h2
    cases e with
    | normal => exact wpIn_seq h2
    | _ => exact h2
  | _ => exact h1

/-- How many bytes records take. -/
def bytesN : Nat → List JR → Nat
  | _, [] => 0
  | k, y :: ys => (y.enc ((k : Int) + 1)).1.length + bytesN (k + 1) ys
/-- How many records Recover counts. -/
def rcN : List JR → Nat → SV → Nat
  | [], _, _ => 0
  | y :: L, k, s => if s.fits y (decide (k = 0)) = true then rcN L (k + 1) (s.says y) + 1 else 0
theorem rcN_le : ∀ (L : List JR) (k : Nat) (s : SV), rcN L k s ≤ L.length
  | [], _, _ => Nat.le_refl _
  | y :: L, k, s => by
    unfold rcN
    split
    · have := rcN_le L (k + 1) (s.says y)
      rw [List.length_cons]
      omega
    · exact Nat.zero_le _
theorem rcGo_eq : ∀ (L : List JR) (k : Nat) (s : SV) (z : Nat), (rcGo L k s z).2.1 = k + rcN L k s ∧ (rcGo L k s z).2.2 = z + bytesN k (L.take (rcN L k s))
  | [], k, s, z => ⟨rfl, rfl⟩
  | y :: L, k, s, z => by
    unfold rcGo rcN
    by_cases h : s.fits y (decide (k = 0)) = true
    · rw [if_pos h, if_pos h]
      obtain ⟨h1, h2⟩ := rcGo_eq L (k + 1) (s.says y) (z + (y.enc ((k : Int) + 1)).1.length)
      rw [h1, h2, List.take_succ_cons]
      refine ⟨by omega, ?_⟩
      show _ = z + ((y.enc ((k : Int) + 1)).1.length + bytesN (k + 1) _)
      omega
    · rw [if_neg h, if_neg h]
      exact ⟨rfl, rfl⟩
theorem bytesN_snoc : ∀ (ys : List JR) (k : Nat) (y : JR), bytesN k (ys ++ [y]) = bytesN k ys + (y.enc (((k + ys.length : Nat) : Int) + 1)).1.length
  | [], k, y => by
    show (y.enc ((k : Int) + 1)).1.length + 0 = 0 + _
    rw [List.length_nil, Nat.add_zero, Nat.add_zero, Nat.zero_add]
  | z :: ys, k, y => by
    show (z.enc ((k : Int) + 1)).1.length + bytesN (k + 1) (ys ++ [y]) = (z.enc ((k : Int) + 1)).1.length + bytesN (k + 1) ys + _
    rw [bytesN_snoc ys (k + 1) y, show k + 1 + ys.length = k + (z :: ys).length by rw [List.length_cons]; omega]
    omega
/-- The places behind the records. -/
def EndsOf (ys : List JR) (es : List Int) : Prop := es.length = ys.length ∧ ∀ i, i < ys.length → es[i]? = some ((bytesN 0 (ys.take (i + 1)) : Nat) : Int)
theorem EndsOf_snoc {ys : List JR} {es : List Int} {y : JR} (h : EndsOf ys es) : EndsOf (ys ++ [y]) (es ++ [((bytesN 0 ys + (y.enc ((ys.length : Int) + 1)).1.length : Nat) : Int)]) := by
  refine ⟨by rw [List.length_append, List.length_append, h.1]; rfl, fun i hi => ?_⟩
  rw [List.length_append, List.length_cons, List.length_nil] at hi
  by_cases hc : i < ys.length
  · rw [List.getElem?_append_left (by rw [h.1]; exact hc), List.take_append_of_le_length (by omega)]
    exact h.2 i hc
  · obtain rfl : i = ys.length := by omega
    rw [List.take_of_length_le (by rw [List.length_append, List.length_cons, List.length_nil]; omega), bytesN_snoc, Nat.zero_add, ← h.1]
    rw [List.getElem?_append_right (Nat.le_refl _), Nat.sub_self]
    rfl
theorem wrGo_ends : ∀ (l : List JR) (d es : List Int) (ys : List JR), EndsOf ys es → d.length = bytesN 0 ys → EndsOf (wrGo l (d, es, ys)).2.2 (wrGo l (d, es, ys)).2.1 ∧ (wrGo l (d, es, ys)).1.length = bytesN 0 (wrGo l (d, es, ys)).2.2
  | [], d, es, ys, h1, h2 => ⟨h1, h2⟩
  | y :: l, d, es, ys, h1, h2 => by
    unfold wrGo
    by_cases hc : d.length < 60000
    · rw [if_pos hc]
      by_cases he : (y.enc ((es.length : Int) + 1)).2 = 0
      · rw [if_pos he]
        refine wrGo_ends l _ _ _ ?_ ?_
        · rw [h2, h1.1]
          exact EndsOf_snoc h1
        · rw [List.length_append, h2, bytesN_snoc, Nat.zero_add, h1.1]
      · rw [if_neg he]
        exact wrGo_ends l d es ys h1 h2
    · rw [if_neg hc]
      exact ⟨h1, h2⟩

theorem says_all (P : S24 → Prop) {s : SV} {y : JR} (hs : ∀ e ∈ s.es, P e) (hy : P y.ent) : ∀ e ∈ (s.says y).es, P e := by
  unfold SV.says
  split
  · intro e he
    rcases List.mem_append.1 he with h | h
    · exact hs e h
    · rw [List.mem_singleton.1 h]; exact hy
  split
  · exact hs
  split
  · exact hs
  split
  · intro e he; cases he
  split
  · exact fun e he => hs e (List.mem_of_mem_drop he)
  · exact hs
theorem rcGo_all (P : S24 → Prop) : ∀ (L : List JR) (k : Nat) (s : SV) (z : Nat), (∀ e ∈ s.es, P e) → (∀ y ∈ L, P y.ent) → ∀ e ∈ (rcGo L k s z).1.es, P e
  | [], k, s, z, hs, _ => hs
  | y :: L, k, s, z, hs, hL => by
    unfold rcGo
    split
    · exact rcGo_all P L _ _ _ (says_all P hs (hL y List.mem_cons_self)) (fun x hx => hL x (List.mem_cons_of_mem _ hx))
    · exact hs
theorem rcGo_len : ∀ (L : List JR) (k : Nat) (s : SV) (z : Nat), (rcGo L k s z).1.es.length ≤ s.es.length + L.length
  | [], k, s, z => Nat.le_refl _
  | y :: L, k, s, z => by
    unfold rcGo
    split
    · have h1 := rcGo_len L (k + 1) (s.says y) (z + (y.enc ((k : Int) + 1)).1.length)
      have h2 := says_len s y
      rw [List.length_cons]
      omega
    · rw [List.length_cons]
      show s.es.length ≤ _
      omega
theorem Pick_mem : ∀ (xs : List JR) (k : Nat) (ys : List JR), Pick k xs ys → ∀ y ∈ ys, y ∈ xs
  | _, _, [], _, y, hy => by cases hy
  | [], _, z :: ys, h, y, hy => h.elim
  | x :: xs, k, z :: ys, h, y, hy => by
    have h' : (if (x.enc ((k : Int) + 1)).2 = 0 then x = z ∧ Pick (k + 1) xs ys else Pick k xs (z :: ys)) := h
    by_cases hc : (x.enc ((k : Int) + 1)).2 = 0
    · rw [if_pos hc] at h'
      rcases List.mem_cons.1 hy with e | e
      · rw [e, h'.1]; exact List.mem_cons_self
      · exact List.mem_cons_of_mem _ (Pick_mem xs (k + 1) ys h'.2 y e)
    · rw [if_neg hc] at h'
      exact List.mem_cons_of_mem _ (Pick_mem xs k (z :: ys) h' y hy)
theorem Enc_get : ∀ (ys : List JR) (k : Nat) (d : List Int), Enc k ys d → ∀ (j : Nat) (y : JR), ys[j]? = some y → ∃ r1, y.enc (((k + j : Nat) : Int) + 1) = (r1, 0)
  | [], _, _, _, j, y, h => by simp at h
  | z :: ys, k, d, h, 0, y, hj => by
    obtain ⟨r1, d', h1, _⟩ := h
    have : z = y := by simpa using hj
    subst this
    exact ⟨r1, h1⟩
  | z :: ys, k, d, h, j + 1, y, hj => by
    obtain ⟨r1, d', h1, _, h3⟩ := h
    have := Enc_get ys (k + 1) d' h3 j y (by simpa using hj)
    rw [show k + 1 + j = k + (j + 1) by omega] at this
    exact this
theorem bytesN_take_le : ∀ (ys : List JR) (k i : Nat), bytesN k (ys.take i) ≤ bytesN k ys
  | [], _, _ => by rw [List.take_nil]; exact Nat.le_refl _
  | y :: ys, k, 0 => by rw [List.take_zero]; exact Nat.zero_le _
  | y :: ys, k, i + 1 => by
    rw [List.take_succ_cons]
    show (y.enc ((k : Int) + 1)).1.length + bytesN (k + 1) (ys.take i) ≤ (y.enc ((k : Int) + 1)).1.length + bytesN (k + 1) ys
    have := bytesN_take_le ys (k + 1) i
    omega
theorem rcK_all (ys : List JR) : (rcGo ys 0 SV.zero 0).2.1 = rcN ys 0 SV.zero ∧ (rcGo ys 0 SV.zero 0).2.2 ≤ bytesN 0 ys := by
  obtain ⟨h1, h2⟩ := rcGo_eq ys 0 SV.zero 0
  have := bytesN_take_le ys 0 (rcN ys 0 SV.zero)
  exact ⟨by omega, by omega⟩

/-- What a record that Encode takes is like, by its kind. -/
structure JR.Ok (y : JR) : Prop where
  xs : y.x.size ≤ 200000
  k1 : y.kd = 1 → y = recEnt y.ent ∧ entOk y.s y.v y.k y.se y.rq y.ops = true
  k2 : y.kd = 2 → vMay y.vn y.vp y.vb = true
  k3 : y.kd = 3 → nMay y.vn y.vp y.vb = true
  k4 : y.kd = 4 → nMay y.vn y.vp y.vb = true ∧ numOk y.st = true ∧ numOk y.of = true
  k5 : y.kd = 5 → numOk y.st = true ∧ numOk y.of = true
  k6 : y.kd = 6 → numOk y.st = true
  kk : y.kd = 1 ∨ y.kd = 2 ∨ y.kd = 3 ∨ y.kd = 4 ∨ y.kd = 5 ∨ y.kd = 6
theorem enc_Ok {y : JR} {sq : Int} {r1 : List Int} (h : y.enc sq = (r1, 0)) : y.Ok := by
  obtain ⟨_, h2, _, hx⟩ := recEnc_parts h
  have hk := (body_okay h2).1
  refine ⟨hx, fun k => ?_, fun k => ?_, fun k => ?_, fun k => ?_, fun k => ?_, fun k => ?_, hk⟩
  all_goals
    unfold recBody at h2
    simp only [k] at h2
  · simp only [if_true, Bool.and_eq_true] at h2
    obtain ⟨g1, g2, g3, g4⟩ := h2
    refine ⟨?_, g1⟩
    unfold noView at g2
    unfold noState at g4
    simp only [Bool.and_eq_true, beq_iff_eq, decide_eq_true_eq] at g2 g3 g4
    have hx0 := empty_str g4.1
    cases y
    simp only at *
    unfold recEnt JR.ent
    simp only [JR.mk.injEq]
    exact ⟨k, trivial, trivial, trivial, trivial, trivial, trivial, g2.1, g2.2.1, g2.2.2, g3, g4.2, hx0⟩
  · simp at h2
    exact h2.1
  · simp at h2
    exact h2.1
  · simp at h2
    exact ⟨h2.1, h2.2.2⟩
  · simp at h2
    exact h2.2.2
  · simp at h2
    exact h2.1
/-- The view of the entry behind j others, or what stands ahead of all. -/
def ofAt (es : List S24) (of : Int) (j : Nat) : Int := if j = 0 then of else (rd_T24 es ((j - 1 : Nat) : Int)).f1
theorem rdT_get {es : List S24} {j : Nat} {e : S24} (h : es[j]? = some e) : rd_T24 es (j : Int) = e := by
  unfold rd_T24
  rw [Int.toNat_natCast, List.getD_eq_getElem?_getD, h]
  rfl
theorem entsMay_get : ∀ (es : List S24) (st of : Int), entsMay es st of = true → ∀ (j : Nat) (e : S24), es[j]? = some e → entOk e.f0 e.f1 e.f2 e.f3 e.f4 e.f5 = true ∧ e.f0 = st + (j : Int) + 1 ∧ ofAt es of j ≤ e.f1
  | [], st, of, _, j, e, h => by simp at h
  | x :: es, st, of, hm, 0, e, h => by
    obtain rfl : x = e := by simpa using h
    unfold entsMay at hm
    simp only [Bool.and_eq_true, decide_eq_true_eq] at hm
    refine ⟨hm.1.1, ?_, ?_⟩
    · rw [hm.1.2.1]; omega
    · unfold ofAt; rw [if_pos rfl]; exact hm.1.2.2
  | x :: es, st, of, hm, j + 1, e, h => by
    unfold entsMay at hm
    simp only [Bool.and_eq_true, decide_eq_true_eq] at hm
    have hj : es[j]? = some e := by simpa using h
    obtain ⟨h1, h2, h3⟩ := entsMay_get es (st + 1) x.f1 hm.2 j e hj
    refine ⟨h1, by rw [h2]; omega, ?_⟩
    unfold ofAt at h3 ⊢
    rw [if_neg (by omega), Nat.add_sub_cancel]
    by_cases hz : j = 0
    · subst hz
      rw [if_pos rfl] at h3
      rw [rdT_get (e := x) rfl]
      exact h3
    · rw [if_neg hz] at h3
      have e1 : rd_T24 (x :: es) (j : Int) = rd_T24 es ((j - 1 : Nat) : Int) := by
        unfold rd_T24
        rw [Int.toNat_natCast, Int.toNat_natCast, List.getD_eq_getElem?_getD, List.getD_eq_getElem?_getD]
        obtain ⟨i, rfl⟩ : ∃ i, j = i + 1 := ⟨j - 1, by omega⟩
        rfl
      rw [e1]
      exact h3
theorem entsMay_of : ∀ (es : List S24) (st of : Int), (∀ (j : Nat) (e : S24), es[j]? = some e → entOk e.f0 e.f1 e.f2 e.f3 e.f4 e.f5 = true ∧ e.f0 = st + (j : Int) + 1 ∧ ofAt es of j ≤ e.f1) → entsMay es st of = true
  | [], st, of, _ => rfl
  | x :: es, st, of, h => by
    unfold entsMay
    obtain ⟨h1, h2, h3⟩ := h 0 x rfl
    simp only [Bool.and_eq_true, decide_eq_true_eq]
    refine ⟨⟨h1, by rw [h2]; omega, h3⟩, entsMay_of es (st + 1) x.f1 fun j e hj => ?_⟩
    obtain ⟨g1, g2, g3⟩ := h (j + 1) e (by simpa using hj)
    refine ⟨g1, by rw [g2]; omega, ?_⟩
    unfold ofAt at g3 ⊢
    rw [if_neg (by omega), Nat.add_sub_cancel] at g3
    by_cases hz : j = 0
    · subst hz
      rw [if_pos rfl]
      rwa [rdT_get (e := x) rfl] at g3
    · rw [if_neg hz]
      have e1 : rd_T24 (x :: es) (j : Int) = rd_T24 es ((j - 1 : Nat) : Int) := by
        unfold rd_T24
        rw [Int.toNat_natCast, Int.toNat_natCast, List.getD_eq_getElem?_getD, List.getD_eq_getElem?_getD]
        obtain ⟨i, rfl⟩ : ∃ i, j = i + 1 := ⟨j - 1, by omega⟩
        rfl
      rwa [e1] at g3
theorem ofAt_its (s : SV) : ofAt s.es s.of s.es.length = s.its := by
  unfold ofAt
  by_cases h : s.es.length = 0
  · rw [if_pos h]
    unfold SV.its
    rw [List.eq_nil_of_length_eq_zero h]
    rfl
  · rw [if_neg h, its_last (s := s) (i := s.es.length - 1) (by omega)]
    rfl
theorem ofAt_app {es : List S24} {x : S24} {of : Int} {j : Nat} (h : j ≤ es.length) : ofAt (es ++ [x]) of j = ofAt es of j := by
  unfold ofAt
  by_cases hz : j = 0
  · rw [if_pos hz, if_pos hz]
  · rw [if_neg hz, if_neg hz]
    unfold rd_T24
    rw [Int.toNat_natCast, List.getD_eq_getElem?_getD, List.getD_eq_getElem?_getD, List.getElem?_append_left (by omega)]
theorem ofAt_drop {es : List S24} {of : Int} {n j : Nat} : ofAt (es.drop n) (ofAt es of n) j = ofAt es of (n + j) := by
  unfold ofAt
  by_cases hz : j = 0
  · subst hz
    rw [if_pos rfl, Nat.add_zero]
  · rw [if_neg hz, if_neg (by omega)]
    unfold rd_T24
    rw [Int.toNat_natCast, Int.toNat_natCast, List.getD_eq_getElem?_getD, List.getD_eq_getElem?_getD, List.getElem?_drop, show n + (j - 1) = n + j - 1 by omega]
/-- A Saved that may be, with a state that may be. -/
structure SV.Good (s : SV) : Prop where
  vw : s.viewB = true
  st : numOk s.st = true
  of : numOk s.of = true
  en : entsMay s.es s.st s.of = true
  c1 : s.st ≤ s.co
  c2 : s.co ≤ s.lst
  xs : s.x.size ≤ 200000
theorem SV.Good.may {s : SV} (h : s.Good) : s.mayB = true := by
  unfold SV.mayB
  rw [h.vw, h.st, h.of, h.en, decide_eq_true h.c1, decide_eq_true h.c2]
  rfl
theorem zero_Good : SV.zero.Good := ⟨rfl, rfl, rfl, rfl, Int.le_refl _, Int.le_refl _, Nat.zero_le _⟩
theorem nMay_p {a b c : Int} (h : nMay a b c = true) : 1 ≤ a ∧ a ≤ 2147483647 ∧ b = 0 ∧ c = 0 := by
  unfold nMay at h
  simp only [Bool.and_eq_true, decide_eq_true_eq, beq_iff_eq] at h
  exact ⟨h.1.1, h.1.2, h.2.1, h.2.2⟩
theorem vMay_p {a b c : Int} (h : vMay a b c = true) : 1 ≤ a ∧ a ≤ 2147483647 ∧ 1 ≤ b ∧ b ≤ 5 ∧ 0 ≤ c ∧ c ≤ 5 ∧ c ≠ b := by
  unfold vMay at h
  simp only [Bool.and_eq_true, decide_eq_true_eq, bne_iff_ne] at h
  exact ⟨h.1.1, h.1.2, h.2.1.1, h.2.1.2, h.2.2.1.1, h.2.2.1.2, h.2.2.2⟩
theorem viewB_parts {s : SV} (h : s.viewB = true) : (s.vn = 0 ∧ s.vp = 0 ∧ s.vb = 0 ∧ s.ma = 0) ∨ (vMay s.vn s.vp s.vb = true ∧ 0 ≤ s.ma ∧ s.ma ≤ s.vn) := by
  unfold SV.viewB at h
  by_cases hv : noView s.vn s.vp s.vb = true
  · rw [if_pos hv] at h
    unfold noView at hv
    simp only [Bool.and_eq_true, beq_iff_eq] at hv
    exact .inl ⟨hv.1, hv.2.1, hv.2.2, of_decide_eq_true h⟩
  · rw [if_neg hv] at h
    simp only [Bool.and_eq_true, decide_eq_true_eq] at h
    exact .inr h
theorem viewB_some {s : SV} (h1 : vMay s.vn s.vp s.vb = true) (h2 : 0 ≤ s.ma) (h3 : s.ma ≤ s.vn) : s.viewB = true := by
  unfold SV.viewB
  have hv : noView s.vn s.vp s.vb = false := by
    have := (vMay_p h1).1
    unfold noView
    rw [beq_eq_false_iff_ne.2 (show s.vn ≠ 0 by omega)]
    rfl
  rw [hv, if_neg (by decide), h1, decide_eq_true h2, decide_eq_true h3]
  rfl
theorem entOk_range {s v k se rq : Int} {l : List S40} (h : entOk s v k se rq l = true) : 1 ≤ s ∧ s ≤ 2147483647 ∧ 0 ≤ v ∧ v ≤ 2147483647 := by
  unfold entOk at h
  simp only [Bool.and_eq_true, decide_eq_true_eq] at h
  have h1 := numOk_range h.1.2
  have h2 := numOk_range h.2.1
  exact ⟨h.1.1, h1.2, h2.1, h2.2⟩
theorem says_Good {s : SV} {y : JR} {first : Bool} (hs : s.Good) (hy : y.Ok) (hf : s.fits y first = true) (hz : first = true → s = SV.zero) : (s.says y).Good := by
  have hv := viewB_parts hs.vw
  have hst := numOk_range hs.st
  have hof := numOk_range hs.of
  have hc1 := hs.c1
  have hc2 := hs.c2
  unfold SV.says
  unfold SV.fits at hf
  by_cases e1 : y.kd = 1
  · rw [if_pos e1] at hf ⊢
    simp only [Bool.and_eq_true, decide_eq_true_eq] at hf
    have hk := hy.k1 e1
    refine ⟨hs.vw, hs.st, hs.of, ?_, hs.c1, ?_, hs.xs⟩
    · refine entsMay_of _ _ _ fun j e hj => ?_
      by_cases hlt : j < s.es.length
      · rw [List.getElem?_append_left hlt] at hj
        obtain ⟨g1, g2, g3⟩ := entsMay_get _ _ _ hs.en j e hj
        exact ⟨g1, g2, by rw [ofAt_app (by omega)]; exact g3⟩
      · rw [List.getElem?_append_right (by omega)] at hj
        have hjl : j = s.es.length := by
          have := (List.getElem?_eq_some_iff.1 hj).1
          rw [List.length_cons, List.length_nil] at this
          omega
        subst hjl
        rw [Nat.sub_self] at hj
        obtain rfl : y.ent = e := by simpa using hj
        refine ⟨hk.2, hf.1, ?_⟩
        rw [ofAt_app (Nat.le_refl _), ofAt_its]
        exact hf.2
    · unfold SV.lst at hc2 ⊢
      simp only [List.length_append, List.length_cons, List.length_nil]
      omega
  rw [if_neg e1] at hf ⊢
  by_cases e2 : y.kd = 2
  · rw [if_pos e2] at hf ⊢
    have hf := of_decide_eq_true hf
    refine ⟨viewB_some (hy.k2 e2) ?_ ?_, hs.st, hs.of, hs.en, hs.c1, hs.c2, hs.xs⟩
    · show 0 ≤ s.ma
      omega
    · show s.ma ≤ y.vn
      omega
  rw [if_neg e2] at hf ⊢
  by_cases e3 : y.kd = 3
  · rw [if_pos e3] at hf ⊢
    have hf := of_decide_eq_true hf
    have hn := nMay_p (hy.k3 e3)
    refine ⟨?_, hs.st, hs.of, hs.en, hs.c1, hs.c2, hs.xs⟩
    rcases hv with h | h
    · omega
    · exact viewB_some h.1 (show 0 ≤ y.vn by omega) (show y.vn ≤ s.vn by omega)
  rw [if_neg e3] at hf ⊢
  by_cases e4 : y.kd = 4
  · rw [if_pos e4] at hf ⊢
    have hf := of_decide_eq_true hf
    obtain ⟨k1, k2, k3⟩ := hy.k4 e4
    have hn := nMay_p k1
    refine ⟨?_, k2, k3, rfl, Int.le_refl _, ?_, hy.xs⟩
    · rcases hv with h | h
      · omega
      · exact viewB_some h.1 (show 0 ≤ y.vn by omega) (show y.vn ≤ s.vn by omega)
    · unfold SV.lst
      simp
  rw [if_neg e4] at hf ⊢
  by_cases e5 : y.kd = 5
  · rw [if_pos e5] at hf ⊢
    obtain ⟨k2, k3⟩ := hy.k5 e5
    have hyst := numOk_range k2
    cases first with
    | true =>
      obtain rfl := hz rfl
      refine ⟨hs.vw, k2, k3, ?_, ?_, ?_, hy.xs⟩
      · have : SV.zero.es.drop (y.st - SV.zero.st).toNat = [] := by unfold SV.zero; simp
        simp only [this]
        rfl
      · show y.st ≤ max SV.zero.co y.st
        omega
      · have : SV.zero.es.drop (y.st - SV.zero.st).toNat = [] := by unfold SV.zero; simp
        unfold SV.lst
        simp only [this]
        have h0 : SV.zero.co = 0 := rfl
        rw [h0]
        simp only [List.length_nil]
        omega
    | false =>
      rw [if_neg (by decide)] at hf
      by_cases hb : y.st < s.st ∨ s.co < y.st
      · rw [if_pos hb] at hf; cases hf
      rw [if_neg hb] at hf
      have hf := of_decide_eq_true hf
      unfold SV.lst at hc2
      obtain ⟨m, hm⟩ : ∃ m, m = (y.st - s.st).toNat := ⟨_, rfl⟩
      have hml : m ≤ s.es.length := by omega
      have hofm : y.of = ofAt s.es s.of m := by
        unfold ofAt
        by_cases h0 : m = 0
        · rw [if_pos h0]
          rw [if_neg (by omega)] at hf
          exact hf
        · rw [if_neg h0]
          rw [if_pos (by omega), show (y.st - s.st - 1).toNat = m - 1 by omega] at hf
          exact hf
      rw [← hm]
      refine ⟨hs.vw, k2, k3, ?_, ?_, ?_, hy.xs⟩
      · refine entsMay_of _ _ _ fun j e hj => ?_
        have hj' : s.es[m + j]? = some e := by
          rw [← List.getElem?_drop]
          exact hj
        obtain ⟨g1, g2, g3⟩ := entsMay_get _ _ _ hs.en (m + j) e hj'
        refine ⟨g1, ?_, ?_⟩
        · show e.f0 = y.st + (j : Int) + 1
          rw [g2]
          omega
        · show ofAt (s.es.drop m) y.of j ≤ e.f1
          rw [hofm, ofAt_drop]
          exact g3
      · show y.st ≤ max s.co y.st
        omega
      · unfold SV.lst
        show max s.co y.st ≤ y.st + ((s.es.drop m).length : Int)
        rw [List.length_drop]
        omega
  rw [if_neg e5] at hf ⊢
  have hf' := Bool.and_eq_true_iff.1 hf
  have f1 := of_decide_eq_true hf'.1
  have f2 := of_decide_eq_true hf'.2
  exact ⟨hs.vw, hs.st, hs.of, hs.en, show s.st ≤ y.st by omega, f2, hs.xs⟩

theorem r2_len (s : SV) : s.r2.length = if 0 < s.ma ∧ s.ma < s.vn then 2 else 0 := by unfold SV.r2; split <;> rfl
theorem r3_len (s : SV) : s.r3.length = if s.vn = 0 ∧ s.vp = 0 ∧ s.vb = 0 then 0 else 1 := by
  unfold SV.r3 noView
  by_cases h : s.vn = 0 ∧ s.vp = 0 ∧ s.vb = 0
  · rw [if_pos h, h.1, h.2.1, h.2.2]; rfl
  · rw [if_neg h, if_neg]
    · rfl
    · simp only [Bool.and_eq_true, beq_iff_eq]
      exact h
theorem r4_len (s : SV) : s.r4.length = if 0 < s.ma ∧ s.ma = s.vn then 1 else 0 := by unfold SV.r4; split <;> rfl
theorem r6_len (s : SV) : s.r6.length = if s.st < s.co then 1 else 0 := by unfold SV.r6; split <;> rfl
/-- How many records say a Saved, but for its state. -/
def SV.rest (s : SV) : Nat := (if 0 < s.ma ∧ s.ma < s.vn then 2 else 0) + (if s.vn = 0 ∧ s.vp = 0 ∧ s.vb = 0 then 0 else 1) + (if 0 < s.ma ∧ s.ma = s.vn then 1 else 0) + s.es.length + (if s.st < s.co then 1 else 0)
theorem recs_rest (s : SV) : s.recs.length = s.r1.length + s.rest := by
  unfold SV.recs SV.ra SV.rest
  simp only [List.length_append, List.length_map, r2_len, r3_len, r4_len, r6_len]
  omega
theorem says_rest {s : SV} {y : JR} {first : Bool} (hs : s.Good) (hy : y.Ok) (hf : s.fits y first = true) (hz : first = true → s = SV.zero) : (s.says y).rest ≤ s.rest + 1 := by
  have hv := viewB_parts hs.vw
  have hc1 := hs.c1
  have hc2 := hs.c2
  have hvp : (vMay s.vn s.vp s.vb = true) → 1 ≤ s.vn := fun h => (vMay_p h).1
  unfold SV.says
  unfold SV.fits at hf
  by_cases e1 : y.kd = 1
  · rw [if_pos e1] at hf ⊢
    unfold SV.rest
    simp only [List.length_append, List.length_cons, List.length_nil]
    omega
  rw [if_neg e1] at hf ⊢
  by_cases e2 : y.kd = 2
  · rw [if_pos e2] at hf ⊢
    have hf := of_decide_eq_true hf
    unfold SV.rest
    simp only
    rcases hv with h | h
    · rw [if_neg (show ¬ (0 < s.ma ∧ s.ma < y.vn) by omega), if_neg (show ¬ (0 < s.ma ∧ s.ma = y.vn) by omega)]
      have : (if y.vn = 0 ∧ y.vp = 0 ∧ y.vb = 0 then 0 else 1) ≤ 1 := by split <;> omega
      omega
    · have hn := hvp h.1
      rw [if_neg (show ¬ (s.vn = 0 ∧ s.vp = 0 ∧ s.vb = 0) by omega), if_neg (show ¬ (y.vn = 0 ∧ y.vp = 0 ∧ y.vb = 0) by omega), if_neg (show ¬ (0 < s.ma ∧ s.ma = y.vn) by omega)]
      by_cases h0 : 0 < s.ma
      · rw [if_pos (show 0 < s.ma ∧ s.ma < y.vn by omega)]
        by_cases h1 : s.ma < s.vn
        · rw [if_pos (show 0 < s.ma ∧ s.ma < s.vn by omega), if_neg (show ¬ (0 < s.ma ∧ s.ma = s.vn) by omega)]
          omega
        · rw [if_neg (show ¬ (0 < s.ma ∧ s.ma < s.vn) by omega), if_pos (show 0 < s.ma ∧ s.ma = s.vn by omega)]
          omega
      · rw [if_neg (show ¬ (0 < s.ma ∧ s.ma < y.vn) by omega), if_neg (show ¬ (0 < s.ma ∧ s.ma < s.vn) by omega), if_neg (show ¬ (0 < s.ma ∧ s.ma = s.vn) by omega)]
        omega
  rw [if_neg e2] at hf ⊢
  by_cases e3 : y.kd = 3
  · rw [if_pos e3] at hf ⊢
    have hf := of_decide_eq_true hf
    have hn := nMay_p (hy.k3 e3)
    unfold SV.rest
    simp only
    rw [if_neg (show ¬ (0 < y.vn ∧ y.vn < s.vn) by omega), if_neg (show ¬ (s.vn = 0 ∧ s.vp = 0 ∧ s.vb = 0) by omega), if_pos (show 0 < y.vn ∧ y.vn = s.vn by omega)]
    omega
  rw [if_neg e3] at hf ⊢
  by_cases e4 : y.kd = 4
  · rw [if_pos e4] at hf ⊢
    have hf := of_decide_eq_true hf
    obtain ⟨k1, k2, k3⟩ := hy.k4 e4
    have hn := nMay_p k1
    unfold SV.rest
    simp only [List.length_nil]
    rw [if_neg (show ¬ (0 < y.vn ∧ y.vn < s.vn) by omega), if_neg (show ¬ (s.vn = 0 ∧ s.vp = 0 ∧ s.vb = 0) by omega), if_pos (show 0 < y.vn ∧ y.vn = s.vn by omega), if_neg (show ¬ (y.st < y.st) by omega)]
    omega
  rw [if_neg e4] at hf ⊢
  by_cases e5 : y.kd = 5
  · rw [if_pos e5] at hf ⊢
    have hyst := numOk_range (hy.k5 e5).1
    have hd : (s.es.drop (y.st - s.st).toNat).length ≤ s.es.length := by rw [List.length_drop]; omega
    have hco : (if y.st < max s.co y.st then 1 else 0) ≤ (if s.st < s.co then 1 else 0) := by
      cases first with
      | true =>
        obtain rfl := hz rfl
        have h0 : SV.zero.co = 0 := rfl
        rw [h0, if_neg (by omega)]
        omega
      | false =>
        rw [if_neg (by decide)] at hf
        by_cases hb : y.st < s.st ∨ s.co < y.st
        · rw [if_pos hb] at hf; cases hf
        by_cases h1 : y.st < max s.co y.st
        · rw [if_pos h1, if_pos (by omega)]
          exact Nat.le_refl _
        · rw [if_neg h1]
          omega
    unfold SV.rest
    simp only
    omega
  rw [if_neg e5] at hf ⊢
  unfold SV.rest
  simp only
  have : (if s.st < y.st then 1 else 0) ≤ 1 := by split <;> omega
  omega
/-- A state behind records is a good one; what says it is no more than these. -/
theorem rcGo_Good : ∀ (L : List JR) (k : Nat) (s : SV) (z : Nat), s.Good → (k = 0 → s = SV.zero) → s.rest ≤ k → (∀ y ∈ L, y.Ok) → (rcGo L k s z).1.Good ∧ (rcGo L k s z).1.rest ≤ (rcGo L k s z).2.1
  | [], k, s, z, hs, _, hr, _ => ⟨hs, hr⟩
  | y :: L, k, s, z, hs, hz, hr, hL => by
    unfold rcGo
    by_cases hf : s.fits y (decide (k = 0)) = true
    · rw [if_pos hf]
      have hy := hL y List.mem_cons_self
      have hz' : decide (k = 0) = true → s = SV.zero := fun h => hz (of_decide_eq_true h)
      refine rcGo_Good L (k + 1) (s.says y) _ (says_Good hs hy hf hz') (fun h => by omega) ?_ (fun x hx => hL x (List.mem_cons_of_mem _ hx))
      have := says_rest hs hy hf hz'
      omega
    · rw [if_neg hf]
      exact ⟨hs, hr⟩
theorem recs_count {L : List JR} {s : SV} {n z : Nat} (hL : ∀ y ∈ L, y.Ok) (h : rcGo L 0 SV.zero 0 = (s, n, z)) : s.Good ∧ s.recs.length ≤ n + 1 := by
  have h1 := rcGo_Good L 0 SV.zero 0 zero_Good (fun _ => rfl) (by decide) hL
  rw [h] at h1
  refine ⟨h1.1, ?_⟩
  have h2 : s.r1.length ≤ 1 := by unfold SV.r1; split <;> simp
  have h3 := h1.2
  rw [recs_rest]
  simp only at h3
  omega
/-- All records fit, one behind the other: what they say. -/
def allFit : List JR → Nat → SV → Option SV
  | [], _, s => some s
  | y :: L, k, s => if s.fits y (decide (k = 0)) = true then allFit L (k + 1) (s.says y) else none
theorem allFit_go : ∀ (L : List JR) (k : Nat) (s s' : SV) (z : Nat), allFit L k s = some s' → rcGo L k s z = (s', k + L.length, z + bytesN k L)
  | [], k, s, s', z, h => by
    obtain rfl : s = s' := Option.some.inj h
    rfl
  | y :: L, k, s, s', z, h => by
    unfold allFit at h
    unfold rcGo
    by_cases hf : s.fits y (decide (k = 0)) = true
    · rw [if_pos hf] at h ⊢
      rw [allFit_go L (k + 1) _ s' _ h, List.length_cons, show k + 1 + L.length = k + (L.length + 1) by omega, Nat.add_assoc]
      rfl
    · rw [if_neg hf] at h
      cases h
theorem allFit_app : ∀ (L M : List JR) (k : Nat) (s s1 : SV), allFit L k s = some s1 → allFit (L ++ M) k s = allFit M (k + L.length) s1
  | [], M, k, s, s1, h => by
    obtain rfl : s = s1 := Option.some.inj h
    rfl
  | y :: L, M, k, s, s1, h => by
    unfold allFit at h
    show (if s.fits y (decide (k = 0)) = true then allFit (L ++ M) (k + 1) (s.says y) else none) = _
    by_cases hf : s.fits y (decide (k = 0)) = true
    · rw [if_pos hf] at h ⊢
      rw [allFit_app L M (k + 1) _ s1 h, List.length_cons, show k + 1 + L.length = k + (L.length + 1) by omega]
    · rw [if_neg hf] at h
      cases h
theorem bytesN_encAll : ∀ (L : List JR) (k : Nat), bytesN k L = (encAll k L).length
  | [], _ => rfl
  | y :: L, k => by
    show (y.enc ((k : Int) + 1)).1.length + bytesN (k + 1) L = ((y.enc ((k : Int) + 1)).1 ++ encAll (k + 1) L).length
    rw [bytesN_encAll L (k + 1), List.length_append]
theorem fit2 (s : SV) (a b c : Int) (first : Bool) (h : s.vn < a) : s.fits (recView a b c) first = true ∧ s.says (recView a b c) = { s with vn := a, vp := b, vb := c } := by
  refine ⟨?_, rfl⟩
  show decide (s.vn < a) = true
  exact decide_eq_true h
theorem fit3 (s : SV) (a : Int) (first : Bool) (h : s.vn = a) : s.fits (recTold a) first = true ∧ s.says (recTold a) = { s with ma := a } := by
  refine ⟨?_, rfl⟩
  show decide (a = s.vn) = true
  exact decide_eq_true h.symm
theorem fit_r1 (s : SV) (hs : s.Good) : allFit s.r1 0 SV.zero = some ⟨0, 0, 0, 0, s.st, s.of, s.x, [], s.st⟩ := by
  unfold SV.r1
  have hst := numOk_range hs.st
  by_cases h : s.bare = true
  · rw [if_pos h]
    unfold SV.bare at h
    simp only [Bool.and_eq_true, beq_iff_eq, decide_eq_true_eq] at h
    rw [h.1, h.2.1, empty_str h.2.2]
    rfl
  · rw [if_neg h]
    have e1 : SV.zero.fits (recSave s) (decide (0 = 0)) = true := rfl
    have e2 : SV.zero.says (recSave s) = ⟨0, 0, 0, 0, s.st, s.of, s.x, SV.zero.es.drop (s.st - SV.zero.st).toNat, max SV.zero.co s.st⟩ := rfl
    unfold allFit
    rw [if_pos e1, e2]
    have e3 : SV.zero.es.drop (s.st - SV.zero.st).toNat = [] := by unfold SV.zero; simp
    have e4 : max SV.zero.co s.st = s.st := by have h0 : SV.zero.co = 0 := rfl; rw [h0]; omega
    rw [e3, e4]
    rfl
theorem fit_view (s : SV) (hs : s.Good) (k : Nat) (s1 : SV) (h0 : s1.vn = 0) (h1 : s1.vp = 0) (h2 : s1.vb = 0) (h3 : s1.ma = 0) : allFit (s.r2 ++ s.r3 ++ s.r4) k s1 = some { s1 with vn := s.vn, vp := s.vp, vb := s.vb, ma := s.ma } := by
  have hv := viewB_parts hs.vw
  rcases hv with h | h
  · unfold SV.r2 SV.r3 SV.r4
    rw [if_neg (show ¬ (0 < s.ma ∧ s.ma < s.vn) by omega), if_neg (show ¬ (0 < s.ma ∧ s.ma = s.vn) by omega), h.1, h.2.1, h.2.2.1, show noView 0 0 0 = true from rfl, if_pos rfl, h.2.2.2]
    cases s1
    simp only at h0 h1 h2 h3
    subst h0 h1 h2 h3
    rfl
  · have hn := (vMay_p h.1).1
    have hnv : noView s.vn s.vp s.vb = false := by
      unfold noView
      rw [beq_eq_false_iff_ne.2 (show s.vn ≠ 0 by omega)]
      rfl
    unfold SV.r2 SV.r3 SV.r4
    rw [hnv]
    by_cases ha : 0 < s.ma
    · by_cases hb : s.ma < s.vn
      · rw [if_pos ⟨ha, hb⟩, if_neg (by decide), if_neg (show ¬ (0 < s.ma ∧ s.ma = s.vn) by omega)]
        show allFit [recView s.ma s.vp s.vb, recTold s.ma, recView s.vn s.vp s.vb] k s1 = _
        unfold allFit
        obtain ⟨f1, g1⟩ := fit2 s1 s.ma s.vp s.vb (decide (k = 0)) (by omega)
        rw [if_pos f1, g1]
        unfold allFit
        obtain ⟨f2, g2⟩ := fit3 { s1 with vn := s.ma, vp := s.vp, vb := s.vb } s.ma (decide (k + 1 = 0)) rfl
        rw [if_pos f2, g2]
        unfold allFit
        obtain ⟨f3, g3⟩ := fit2 { s1 with vn := s.ma, vp := s.vp, vb := s.vb, ma := s.ma } s.vn s.vp s.vb (decide (k + 1 + 1 = 0)) hb
        rw [if_pos f3, g3]
        rfl
      · have hab : s.ma = s.vn := by omega
        rw [if_neg (show ¬ (0 < s.ma ∧ s.ma < s.vn) by omega), if_neg (by decide), if_pos ⟨ha, hab⟩]
        show allFit [recView s.vn s.vp s.vb, recTold s.ma] k s1 = _
        unfold allFit
        obtain ⟨f1, g1⟩ := fit2 s1 s.vn s.vp s.vb (decide (k = 0)) (by omega)
        rw [if_pos f1, g1]
        unfold allFit
        obtain ⟨f2, g2⟩ := fit3 { s1 with vn := s.vn, vp := s.vp, vb := s.vb } s.ma (decide (k + 1 = 0)) hab.symm
        rw [if_pos f2, g2]
        rfl
    · have ha0 : s.ma = 0 := by omega
      rw [if_neg (show ¬ (0 < s.ma ∧ s.ma < s.vn) by omega), if_neg (by decide), if_neg (show ¬ (0 < s.ma ∧ s.ma = s.vn) by omega)]
      show allFit [recView s.vn s.vp s.vb] k s1 = _
      unfold allFit
      obtain ⟨f1, g1⟩ := fit2 s1 s.vn s.vp s.vb (decide (k = 0)) (by omega)
      rw [if_pos f1, g1, ha0, ← h3]
      rfl
theorem fit_ents : ∀ (es fs : List S24) (k : Nat) (s1 : SV), s1.es = fs → entsMay es s1.lst s1.its = true → allFit (es.map recEnt) k s1 = some { s1 with es := fs ++ es }
  | [], fs, k, s1, h, _ => by
    subst h
    rw [List.append_nil]
    rfl
  | e :: es, fs, k, s1, h, hm => by
    unfold entsMay at hm
    simp only [Bool.and_eq_true, decide_eq_true_eq] at hm
    obtain ⟨⟨h1, h2, h3⟩, h4⟩ := hm
    rw [List.map_cons]
    unfold allFit
    have f1 : s1.fits (recEnt e) (decide (k = 0)) = true := by
      show (decide (e.f0 = s1.lst + 1) && decide (s1.its ≤ e.f1)) = true
      rw [decide_eq_true h2, decide_eq_true h3]
      rfl
    have g1 : s1.says (recEnt e) = { s1 with es := s1.es ++ [e] } := rfl
    rw [if_pos f1, g1, fit_ents es (fs ++ [e]) (k + 1) { s1 with es := s1.es ++ [e] } (by simp only [h]) (by
      have e1 : SV.lst { s1 with es := s1.es ++ [e] } = s1.lst + 1 := by
        unfold SV.lst
        simp only [List.length_append, List.length_cons, List.length_nil]
        omega
      have e2 : SV.its { s1 with es := s1.es ++ [e] } = e.f1 := by
        unfold SV.its
        simp only [List.getLast?_append, List.getLast?_singleton, Option.some_or]
      rw [e1, e2]
      exact h4)]
    simp only [List.append_assoc, List.cons_append, List.nil_append]
theorem recs_fit (s : SV) (hs : s.Good) : allFit s.recs 0 SV.zero = some s := by
  have hc1 := hs.c1
  have hc2 := hs.c2
  have e : s.recs = s.r1 ++ ((s.r2 ++ s.r3 ++ s.r4) ++ (s.es.map recEnt ++ s.r6)) := by
    unfold SV.recs SV.ra
    simp only [List.append_assoc]
  rw [e, allFit_app _ _ _ _ _ (fit_r1 s hs), allFit_app _ _ _ _ _ (fit_view s hs _ _ rfl rfl rfl rfl)]
  rw [allFit_app _ _ _ _ _ (fit_ents s.es [] _ _ rfl (by
    show entsMay s.es (s.st + (([] : List S24).length : Int)) s.of = true
    rw [List.length_nil, show s.st + ((0 : Nat) : Int) = s.st by omega]
    exact hs.en))]
  unfold SV.r6
  by_cases h : s.st < s.co
  · rw [if_pos h]
    unfold allFit
    have f1 : SV.fits { vn := s.vn, vp := s.vp, vb := s.vb, ma := s.ma, st := s.st, of := s.of, x := s.x, es := [] ++ s.es, co := s.st } (recCom s.co) (decide (0 + s.r1.length + (s.r2 ++ s.r3 ++ s.r4).length + (s.es.map recEnt).length = 0)) = true := by
      show (decide (s.st < s.co) && decide (s.co ≤ s.st + ((s.es.length : Nat) : Int))) = true
      rw [decide_eq_true h, decide_eq_true (show s.co ≤ s.st + ((s.es.length : Nat) : Int) from hc2)]
      rfl
    rw [if_pos f1]
    rfl
  · rw [if_neg h]
    have : s.st = s.co := by omega
    show some _ = some s
    cases s
    simp only at this ⊢
    subst this
    rfl

/-- Encode takes the record, whatever its number. -/
def JR.Fine (y : JR) : Prop := y.x.size ≤ 200000 ∧ (recBody y.kd y.s y.v y.k y.se y.rq y.ops y.vn y.vp y.vb y.st y.of y.x).2 = true
theorem Fine_enc {y : JR} (h : y.Fine) {sq : Int} (h1 : 1 ≤ sq) (h2 : sq ≤ 2147483647) : y.enc sq = (recBytes sq y.kd (recBody y.kd y.s y.v y.k y.se y.rq y.ops y.vn y.vp y.vb y.st y.of y.x).1, 0) := by
  have hx := h.1
  show recEnc sq y.kd y.s y.v y.k y.se y.rq y.ops y.vn y.vp y.vb y.st y.of y.x = _
  unfold recEnc seqOk
  rw [if_neg (by omega), h.2, decide_eq_true h1, decide_eq_true h2]
  rfl
theorem enc_Fine {y : JR} {sq : Int} {r1 : List Int} (h : y.enc sq = (r1, 0)) : y.Fine := by
  obtain ⟨_, h2, _, hx⟩ := recEnc_parts h
  exact ⟨hx, h2⟩
theorem enc_zero {y : JR} {sq : Int} (h : (y.enc sq).2 = 0) : y.Fine := enc_Fine (r1 := (y.enc sq).1) (Prod.ext rfl h)
/-- The code does not hang on the number. -/
theorem enc_code (y : JR) {sq sq' : Int} (h1 : 1 ≤ sq) (h2 : sq ≤ 2147483647) (h3 : 1 ≤ sq') (h4 : sq' ≤ 2147483647) : (y.enc sq).2 = (y.enc sq').2 := by
  show (recEnc sq y.kd y.s y.v y.k y.se y.rq y.ops y.vn y.vp y.vb y.st y.of y.x).2 = (recEnc sq' y.kd y.s y.v y.k y.se y.rq y.ops y.vn y.vp y.vb y.st y.of y.x).2
  unfold recEnc seqOk
  rw [decide_eq_true h1, decide_eq_true h2, decide_eq_true h3, decide_eq_true h4]
  split
  · rfl
  split <;> rfl
theorem noState_nil : noState 0 ⟨#[]⟩ = true := by
  unfold noState
  rw [ByteArray.toList_eq]
  rfl
theorem Fine_save (s : SV) (hs : s.Good) : (recSave s).Fine := by
  refine ⟨hs.xs, ?_⟩
  show (noView 0 0 0 && (blankE 0 0 0 0 0 [] && (numOk s.st && numOk s.of))) = true
  rw [hs.st, hs.of]
  rfl
theorem Fine_view {a b c : Int} (h : vMay a b c = true) : (recView a b c).Fine := by
  refine ⟨Nat.zero_le _, ?_⟩
  show (vMay a b c && (blankE 0 0 0 0 0 [] && ((0 : Int) == 0 && noState 0 ⟨#[]⟩))) = true
  rw [h, noState_nil]
  rfl
theorem Fine_told {a : Int} (h1 : 1 ≤ a) (h2 : a ≤ 2147483647) : (recTold a).Fine := by
  refine ⟨Nat.zero_le _, ?_⟩
  show (nMay a 0 0 && (blankE 0 0 0 0 0 [] && ((0 : Int) == 0 && noState 0 ⟨#[]⟩))) = true
  have : nMay a 0 0 = true := by
    unfold nMay
    rw [decide_eq_true h1, decide_eq_true h2]
    rfl
  rw [this, noState_nil]
  rfl
theorem Fine_ent {e : S24} (h : entOk e.f0 e.f1 e.f2 e.f3 e.f4 e.f5 = true) : (recEnt e).Fine := by
  refine ⟨Nat.zero_le _, ?_⟩
  show (entOk e.f0 e.f1 e.f2 e.f3 e.f4 e.f5 && (noView 0 0 0 && ((0 : Int) == 0 && noState 0 ⟨#[]⟩))) = true
  rw [h, noState_nil]
  rfl
theorem Fine_com {a : Int} (h1 : 0 ≤ a) (h2 : a ≤ 2147483647) : (recCom a).Fine := by
  refine ⟨Nat.zero_le _, ?_⟩
  show (numOk a && (blankE 0 0 0 0 0 [] && (noState 0 ⟨#[]⟩ && noView 0 0 0))) = true
  have : numOk a = true := by
    unfold numOk
    rw [decide_eq_true h1, decide_eq_true h2]
    rfl
  rw [this, noState_nil]
  rfl
theorem vMay_less {a b c d : Int} (h : vMay a b c = true) (h1 : 1 ≤ d) (h2 : d ≤ a) : vMay d b c = true := by
  have hp := vMay_p h
  unfold vMay
  rw [decide_eq_true h1, decide_eq_true (show d ≤ 2147483647 by omega), decide_eq_true hp.2.2.1, decide_eq_true hp.2.2.2.1, decide_eq_true hp.2.2.2.2.1, decide_eq_true hp.2.2.2.2.2.1, bne_iff_ne.2 hp.2.2.2.2.2.2]
  rfl
theorem lst_small (s : SV) (hs : s.Good) : s.lst ≤ 2147483647 := by
  have hst := numOk_range hs.st
  unfold SV.lst
  by_cases h : s.es.length = 0
  · omega
  · obtain ⟨e, he⟩ : ∃ e, s.es[s.es.length - 1]? = some e := ⟨_, List.getElem?_eq_getElem (by omega)⟩
    obtain ⟨g1, g2, _⟩ := entsMay_get _ _ _ hs.en _ e he
    have := entOk_range g1
    omega
theorem recs_Fine (s : SV) (hs : s.Good) : ∀ y ∈ s.recs, y.Fine := by
  have hv := viewB_parts hs.vw
  intro y hy
  unfold SV.recs SV.ra at hy
  simp only [List.mem_append] at hy
  rcases hy with ((((h | h) | h) | h) | h) | h
  · unfold SV.r1 at h
    split at h
    · cases h
    · rw [List.mem_singleton.1 h]; exact Fine_save s hs
  · unfold SV.r2 at h
    split at h
    · rename_i hc
      rcases hv with hv | hv
      · omega
      have hp := vMay_p hv.1
      simp only [List.mem_cons, List.not_mem_nil, or_false] at h
      rcases h with rfl | rfl
      · exact Fine_view (vMay_less hv.1 (by omega) (by omega))
      · exact Fine_told (by omega) (by omega)
    · cases h
  · unfold SV.r3 at h
    split at h
    · cases h
    · rename_i hc
      rw [List.mem_singleton.1 h]
      rcases hv with hv | hv
      · rw [hv.1, hv.2.1, hv.2.2.1] at hc
        exact absurd rfl hc
      · exact Fine_view hv.1
  · unfold SV.r4 at h
    split at h
    · rename_i hc
      rcases hv with hv | hv
      · omega
      have hp := vMay_p hv.1
      rw [List.mem_singleton.1 h]
      exact Fine_told (by omega) (by omega)
    · cases h
  · obtain ⟨e, he, rfl⟩ := List.mem_map.1 h
    obtain ⟨j, hj⟩ := List.getElem?_of_mem he
    exact Fine_ent (entsMay_get _ _ _ hs.en j e hj).1
  · unfold SV.r6 at h
    split at h
    · rename_i hc
      rw [List.mem_singleton.1 h]
      have := lst_small s hs
      have := hs.c2
      have := (numOk_range hs.st).1
      exact Fine_com (by omega) (by omega)
    · cases h
theorem Enc_all : ∀ (L : List JR) (k : Nat), (∀ y ∈ L, y.Fine) → k + L.length ≤ 2147483647 → Enc k L (encAll k L)
  | [], _, _, _ => rfl
  | y :: L, k, h, hk => by
    rw [List.length_cons] at hk
    have e := Fine_enc (h y List.mem_cons_self) (sq := (k : Int) + 1) (by omega) (by omega)
    refine ⟨_, encAll (k + 1) L, e, ?_, Enc_all L (k + 1) (fun x hx => h x (List.mem_cons_of_mem _ hx)) (by omega)⟩
    show (y.enc ((k : Int) + 1)).1 ++ _ = _
    rw [e]
/-- How many bytes a record takes. -/
def JR.wt (y : JR) : Nat := (recBody y.kd y.s y.v y.k y.se y.rq y.ops y.vn y.vp y.vb y.st y.of y.x).1.length + 20
theorem Fine_wt {y : JR} (h : y.Fine) {sq : Int} (h1 : 1 ≤ sq) (h2 : sq ≤ 2147483647) : (y.enc sq).1.length = y.wt := by
  rw [Fine_enc h h1 h2]
  exact recBytes_len _ _ _
theorem enc_wt {y : JR} {sq : Int} {r1 : List Int} (h : y.enc sq = (r1, 0)) : r1.length = y.wt := by
  obtain ⟨h1, _⟩ := recEnc_parts h
  rw [h1]
  exact recBytes_len _ _ _
/-- How many bytes the entries take. -/
def wtE : List S24 → Nat
  | [] => 0
  | e :: es => (recEnt e).wt + wtE es
theorem wtE_app : ∀ (a b : List S24), wtE (a ++ b) = wtE a + wtE b
  | [], b => by show wtE b = 0 + wtE b; omega
  | e :: a, b => by
    show (recEnt e).wt + wtE (a ++ b) = (recEnt e).wt + wtE a + wtE b
    rw [wtE_app a b]
    omega
theorem wtE_drop : ∀ (a : List S24) (n : Nat), wtE (a.drop n) ≤ wtE a
  | [], n => by rw [List.drop_nil]; exact Nat.le_refl _
  | e :: a, 0 => Nat.le_refl _
  | e :: a, n + 1 => by
    rw [List.drop_succ_cons]
    have := wtE_drop a n
    show _ ≤ (recEnt e).wt + wtE a
    omega
theorem says_wt {s : SV} {y : JR} (hy : y.Ok) : wtE (s.says y).es ≤ wtE s.es + y.wt := by
  unfold SV.says
  by_cases e1 : y.kd = 1
  · rw [if_pos e1]
    show wtE (s.es ++ [y.ent]) ≤ _
    rw [wtE_app]
    show wtE s.es + ((recEnt y.ent).wt + 0) ≤ _
    rw [← (hy.k1 e1).1]
    omega
  rw [if_neg e1]
  split
  · show wtE s.es ≤ _; omega
  split
  · show wtE s.es ≤ _; omega
  split
  · exact Nat.zero_le _
  split
  · show wtE (s.es.drop _) ≤ _
    have := wtE_drop s.es (y.st - s.st).toNat
    omega
  · show wtE s.es ≤ _; omega
theorem rcGo_wt : ∀ (L : List JR) (k : Nat) (s : SV) (z : Nat) (d : List Int), Enc k L d → wtE (rcGo L k s z).1.es ≤ wtE s.es + d.length
  | [], k, s, z, d, h => by show wtE s.es ≤ _; omega
  | y :: L, k, s, z, d, h => by
    obtain ⟨r1, d', h1, rfl, h3⟩ := h
    unfold rcGo
    split
    · have h4 := rcGo_wt L (k + 1) (s.says y) (z + (y.enc ((k : Int) + 1)).1.length) d' h3
      have h5 := says_wt (s := s) (enc_Ok h1)
      have h6 := enc_wt h1
      rw [List.length_append]
      omega
    · show wtE s.es ≤ _
      omega
theorem encAll_app : ∀ (L M : List JR) (k : Nat), encAll k (L ++ M) = encAll k L ++ encAll (k + L.length) M
  | [], M, k => rfl
  | y :: L, M, k => by
    show (y.enc ((k : Int) + 1)).1 ++ encAll (k + 1) (L ++ M) = (y.enc ((k : Int) + 1)).1 ++ encAll (k + 1) L ++ encAll (k + (y :: L).length) M
    rw [encAll_app L M (k + 1), List.append_assoc, List.length_cons, show k + 1 + L.length = k + (L.length + 1) by omega]
theorem encAll_ents : ∀ (es : List S24) (k : Nat), (∀ e ∈ es, (recEnt e).Fine) → k + es.length ≤ 2147483647 → (encAll k (es.map recEnt)).length = wtE es
  | [], _, _, _ => rfl
  | e :: es, k, h, hk => by
    rw [List.length_cons] at hk
    show (((recEnt e).enc ((k : Int) + 1)).1 ++ encAll (k + 1) (es.map recEnt)).length = (recEnt e).wt + wtE es
    rw [List.length_append, Fine_wt (h e List.mem_cons_self) (by omega) (by omega), encAll_ents es (k + 1) (fun x hx => h x (List.mem_cons_of_mem _ hx)) (by omega)]
theorem recs_bytes (s : SV) (hs : s.Good) (hn : s.es.length ≤ 1000000) : (encAll 0 s.recs).length ≤ 24000000 + wtE s.es := by
  unfold SV.recs
  rw [encAll_app, encAll_app, List.length_append, List.length_append]
  have h1 := encAll_len s.ra 0
  have h2 := ra_len s
  have h3 := encAll_len s.r6 (0 + (s.ra ++ s.es.map recEnt).length)
  have h4 : s.r6.length ≤ 1 := by unfold SV.r6; split <;> simp
  rw [encAll_ents s.es _ (fun e he => by
    obtain ⟨j, hj⟩ := List.getElem?_of_mem he
    exact Fine_ent (entsMay_get _ _ _ hs.en j e hj).1) (by omega)]
  omega
/-- Compact of what Recover says. -/
theorem good_cpt (s : SV) (hs : s.Good) : s.cpt = (encAll 0 s.recs, s.recs.length, 0) := by
  have := hs.xs
  unfold SV.cpt
  rw [if_neg (by omega), if_pos hs.may]
/-- What JournalShort asks: of a journal of records. -/
theorem short_all {YS : List JR} {D : List Int} {SR : SV} {NR ZR : Nat} (hE : Enc 0 YS D) (hD : D.length ≤ 4100000) (hY : YS.length ≤ 3000) (hR : (SR, NR, ZR) = rcGo YS 0 SV.zero 0) :
    SR.Good ∧ SR.es.length ≤ 3000 ∧ SR.recs.length ≤ NR + 1 ∧ SR.recs.length ≤ 3006 ∧ (encAll 0 SR.recs).length ≤ 28100000 ∧ Enc 0 SR.recs (encAll 0 SR.recs) ∧ rcGo SR.recs 0 SV.zero 0 = (SR, SR.recs.length, (encAll 0 SR.recs).length) := by
  have hok : ∀ y ∈ YS, y.Ok := fun y hy => by
    obtain ⟨j, hj⟩ := List.getElem?_of_mem hy
    obtain ⟨r1, hr⟩ := Enc_get YS 0 D hE j y hj
    exact enc_Ok hr
  obtain ⟨hg, hc⟩ := recs_count hok hR.symm
  have hl : SR.es.length ≤ 3000 := by
    have h1 := rcGo_len YS 0 SV.zero 0
    rw [← hR] at h1
    have h2 : SV.zero.es.length = 0 := rfl
    simp only at h1
    omega
  have hw := rcGo_wt YS 0 SV.zero 0 D hE
  rw [← hR] at hw
  have hz : wtE SV.zero.es = 0 := rfl
  simp only at hw
  have hb := recs_bytes SR hg (by omega)
  have hrl := recs_len SR
  refine ⟨hg, hl, hc, by omega, by omega, Enc_all _ 0 (recs_Fine SR hg) (by omega), ?_⟩
  rw [allFit_go _ _ _ _ _ (recs_fit SR hg), bytesN_encAll, Nat.zero_add, Nat.zero_add]

theorem rcGo_app : ∀ (L M : List JR) (k : Nat) (s s1 : SV) (z : Nat), allFit L k s = some s1 → rcGo (L ++ M) k s z = rcGo M (k + L.length) s1 (z + bytesN k L)
  | [], M, k, s, s1, z, h => by
    obtain rfl : s = s1 := Option.some.inj h
    rfl
  | y :: L, M, k, s, s1, z, h => by
    unfold allFit at h
    show (if s.fits y (decide (k = 0)) = true then rcGo (L ++ M) (k + 1) (s.says y) (z + (y.enc ((k : Int) + 1)).1.length) else (s, k, z)) = _
    by_cases hf : s.fits y (decide (k = 0)) = true
    · rw [if_pos hf] at h ⊢
      rw [rcGo_app L M (k + 1) _ s1 _ h, List.length_cons, show k + 1 + L.length = k + (L.length + 1) by omega, Nat.add_assoc]
      rfl
    · rw [if_neg hf] at h
      cases h
theorem take_fit : ∀ (L : List JR) (k : Nat) (s : SV) (z : Nat), allFit (L.take (rcN L k s)) k s = some (rcGo L k s z).1
  | [], k, s, z => rfl
  | y :: L, k, s, z => by
    unfold rcN rcGo
    by_cases hf : s.fits y (decide (k = 0)) = true
    · rw [if_pos hf, if_pos hf, List.take_succ_cons]
      show (if s.fits y (decide (k = 0)) = true then allFit (L.take (rcN L (k + 1) (s.says y))) (k + 1) (s.says y) else none) = _
      rw [if_pos hf]
      exact take_fit L (k + 1) (s.says y) _
    · rw [if_neg hf, if_neg hf, List.take_zero]
      rfl
theorem Enc_eq : ∀ (L : List JR) (k : Nat) (d : List Int), Enc k L d → d = encAll k L
  | [], k, d, h => h
  | y :: L, k, d, h => by
    obtain ⟨r1, d', h1, rfl, h3⟩ := h
    rw [Enc_eq L (k + 1) d' h3]
    show r1 ++ encAll (k + 1) L = (y.enc ((k : Int) + 1)).1 ++ encAll (k + 1) L
    rw [h1]
/-- Two journals that say the same, both of records that all count. -/
structure Goes (L1 L2 : List JR) (S : SV) : Prop where
  f1 : allFit L1 0 SV.zero = some S
  f2 : allFit L2 0 SV.zero = some S
  g1 : ∀ y ∈ L1, y.Fine
  g2 : ∀ y ∈ L2, y.Fine
  p1 : 0 < L1.length
  p2 : 0 < L2.length
theorem Goes.rc {L1 L2 : List JR} {S : SV} (h : Goes L1 L2 S) (y : JR) : (S.fits y false = true ∧ rcGo (L1 ++ [y]) 0 SV.zero 0 = (S.says y, L1.length + 1, bytesN 0 (L1 ++ [y])) ∧ rcGo (L2 ++ [y]) 0 SV.zero 0 = (S.says y, L2.length + 1, bytesN 0 (L2 ++ [y]))) ∨ (S.fits y false = false ∧ rcGo (L1 ++ [y]) 0 SV.zero 0 = (S, L1.length, bytesN 0 L1) ∧ rcGo (L2 ++ [y]) 0 SV.zero 0 = (S, L2.length, bytesN 0 L2)) := by
  have hp1 := h.p1
  have hp2 := h.p2
  have e1 : decide (0 + L1.length = 0) = false := decide_eq_false (by omega)
  have e2 : decide (0 + L2.length = 0) = false := decide_eq_false (by omega)
  rw [rcGo_app L1 [y] 0 _ S 0 h.f1, rcGo_app L2 [y] 0 _ S 0 h.f2]
  unfold rcGo
  rw [e1, e2]
  cases hf : S.fits y false
  · refine .inr ⟨rfl, ?_, ?_⟩
    · rw [if_neg (by decide), Nat.zero_add, Nat.zero_add]
    · rw [if_neg (by decide), Nat.zero_add, Nat.zero_add]
  · refine .inl ⟨rfl, ?_, ?_⟩
    · rw [if_pos rfl, Nat.zero_add, Nat.zero_add]
      show (S.says y, L1.length + 1, bytesN 0 L1 + (y.enc ((L1.length : Int) + 1)).1.length) = _
      rw [bytesN_snoc, Nat.zero_add]
    · rw [if_pos rfl, Nat.zero_add, Nat.zero_add]
      show (S.says y, L2.length + 1, bytesN 0 L2 + (y.enc ((L2.length : Int) + 1)).1.length) = _
      rw [bytesN_snoc, Nat.zero_add]
theorem Goes.next {L1 L2 : List JR} {S : SV} (h : Goes L1 L2 S) {y : JR} (hy : y.Fine) (hf : S.fits y false = true) : Goes (L1 ++ [y]) (L2 ++ [y]) (S.says y) := by
  have hp1 := h.p1
  have hp2 := h.p2
  have e1 : decide (0 + L1.length = 0) = false := decide_eq_false (by omega)
  have e2 : decide (0 + L2.length = 0) = false := decide_eq_false (by omega)
  refine ⟨?_, ?_, ?_, ?_, by rw [List.length_append]; omega, by rw [List.length_append]; omega⟩
  · rw [allFit_app L1 [y] 0 _ S h.f1]
    unfold allFit
    rw [e1, if_pos hf]
    rfl
  · rw [allFit_app L2 [y] 0 _ S h.f2]
    unfold allFit
    rw [e2, if_pos hf]
    rfl
  · intro x hx
    rcases List.mem_append.1 hx with hx | hx
    · exact h.g1 x hx
    · rw [List.mem_singleton.1 hx]; exact hy
  · intro x hx
    rcases List.mem_append.1 hx with hx | hx
    · exact h.g2 x hx
    · rw [List.mem_singleton.1 hx]; exact hy
theorem goes_start {YS : List JR} {D : List Int} {SR : SV} {NR ZR : Nat} (hE : Enc 0 YS D) (hD : D.length ≤ 4100000) (hY : YS.length ≤ 3000) (hR : (SR, NR, ZR) = rcGo YS 0 SV.zero 0) (hn : 0 < NR) (hk : 0 < SR.recs.length) :
    Goes (YS.take NR) SR.recs SR ∧ D.take ZR = encAll 0 (YS.take NR) ∧ (YS.take NR).length = NR := by
  obtain ⟨h1, h2, h3, h4, h5, h6, h7⟩ := short_all hE hD hY hR
  obtain ⟨e1, e2⟩ := rcGo_eq YS 0 SV.zero 0
  rw [← hR] at e1 e2
  simp only [Nat.zero_add] at e1 e2
  have hle := rcN_le YS 0 SV.zero
  have hlen : (YS.take NR).length = NR := by rw [List.length_take]; omega
  refine ⟨⟨?_, recs_fit SR h1, ?_, recs_Fine SR h1, by omega, hk⟩, ?_, hlen⟩
  · have := take_fit YS 0 SV.zero 0
    rw [← hR, ← e1] at this
    exact this
  · intro y hy
    obtain ⟨j, hj⟩ := List.getElem?_of_mem (List.mem_of_mem_take hy)
    obtain ⟨r1, hr⟩ := Enc_get YS 0 D hE j y hj
    exact enc_Fine hr
  · rw [Enc_eq YS 0 D hE]
    have e3 : encAll 0 YS = encAll 0 (YS.take NR) ++ encAll (0 + (YS.take NR).length) (YS.drop NR) := by rw [← encAll_app, List.take_append_drop]
    rw [e3]
    refine List.take_left' ?_
    rw [← bytesN_encAll, e2, e1]
end Go.Proofs.Ytdbniihjkiecbaa.PW
