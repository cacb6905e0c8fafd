/- Streams: decide, where it takes a body. -/
import Derived.Test.YtnanaojjhmpilaaS4
import Derived.Deep.RegionWith
namespace Go.Proofs.Ytnanaojjhmpilaa.PW
open Go.RowKit Go.Proofs.YtnanaojjhmpilaaW.PrintWords Go.Proofs.YtnanaojjhmpilaaW.PrintLast Go.Proofs.YtnanaojjhmpilaaW.PrintMore
set_option linter.unusedVariables false
set_option linter.unusedSimpArgs false

section
variable {ops : Array Oper} {o : Oper} {a : Act} {Q : Exit → Act → World → Prop} {Kc : Act → World → Prop}
theorem SQ_append_step {α : Type} {P : Program} (d : Kd α) {w0 W : World} (base : Nat) (hw : Region.wanted o (yielded ops a.tmps) = true) (s x : Operand) (t e : TypeId) (z : Value) (bytes : Nat)
    (ho : o.op = .call { callee := .builtin .append, args := #[s, x], argTypes := #[t, t] })
    (ht : P.underlying t = some (.slice e)) (hinfo : (P.info? e).map (fun i => (i.zero, i.size, i.bytes)) = some (some z, d.sz, bytes)) (hz : z.cells.size = d.sz) (hs0 : 0 < d.sz) (hb0 : 0 < bytes)
    (v : Value) (xs : List α) (p : α) (cs : List Value) (ok okp : Nat → Prop) (hs : a.eval s = v) (hx : a.eval x = .slice (some ⟨W.heap.size, 0, none⟩) 1 1) (hp : d.M W base okp p cs) (hokp : ∀ k, okp k → ok k ∧ some k ≠ v.ownBlock) (hfresh : ∀ k, W.heap.size ≤ k → ok k)
    (HO : SQ d e W base (fun k => ok k ∧ ¬ okp k) v xs) (HB : Below base w0 W) (hbase : base ≤ W.heap.size) (hl : (xs.length + 1) * bytes ≤ 140737488355328)
    (h : ∀ v1 w1, SQ d e w1 base ok v1 (xs ++ [p]) → Below base w0 w1 → W.grownBy w1 v.ownBlock → (v1.ownBlock = v.ownBlock ∨ ∃ b, v1.ownBlock = some b ∧ W.heap.size ≤ b) → Kc (a.put o.dst v1) w1) :
    if Region.wanted o (yielded ops a.tmps) = true then Oper.wp P o a (W.alloc (.cells cs.toArray e)) Kc Q else Kc (a.put o.dst undef) (W.alloc (.cells cs.toArray e)) := by
  obtain ⟨v1, w1, hr, h1, h2, h3, h4⟩ := SQ_run (P := P) d base t o.type e z bytes ht hinfo hz hs0 hb0 v xs p cs ok okp hp hokp hfresh HO HB hbase hl
  rw [if_pos hw]
  unfold Oper.wp execOp
  simp only [ho, resolve, invoke, builtin, Sem.run_bind, Sem.run_pure, Result.andThen_ok, List.map_toArray, List.map_cons, List.map_nil, hs, hx, hr]
  exact h v1 w1 h1 h2 h3 h4
end

theorem grown_below {w W : World} (hb : Below w.heap.size w W) (row : Option Nat) : w.grownBy W row := ⟨hb.os, hb.tape, hb.output, hb.size, fun k hk _ => hb.block k hk⟩
theorem body_cut (R : List Int) (k q : Nat) (h : q = k + 14) : ((R.take q).drop 10).take (q - 14) = (R.drop 10).take k := by
  subst h
  rw [List.drop_take, List.take_take]
  congr 1
  omega
def rg61.T11 : Bool × List (List Nat × List Nat) := (true, [([], []), ([], []), ([1], [1]), ([2], [2]), ([3], [3]), ([], []), ([], []), ([6], [6]), ([5, 7], [5, 7]), ([8], [8]), ([9], [9]), ([4, 10, 9], [4, 10]), ([0, 0, 1, 2, 3, 4, 5, 6, 7, 8, 9, 10, 11], [0]), ([12, 0, 1, 2, 3, 4, 5, 6, 7, 8, 9, 10, 11], [12]), ([13, 11, 11, 0, 1, 2, 3, 4, 5, 6, 7, 8, 9, 10, 11], [11, 13])])
def rg61.B11 : List Nat := [0, 0, 2, 6, 14, 0, 0, 64, 224, 480, 992, 2046, 4095, 8191, 16383]
theorem rg61.tab11 : rtab .any (opsOf Try.f61 11) = rg61.T11 := by kernel_rfl
theorem rg61.bits11 : waitsOk rg61.T11.2 rg61.B11 = true := by kernel_rfl
set_option maxHeartbeats 16000000 in
set_option maxRecDepth 100000 in
theorem decide_body (b base : Nat) (f : Value) (A0 : Option Addr) (c0 n kn : Nat) (R : List Int) (fs : List (List Int)) (okf : Nat → Prop) (w : World) (hn : R.length = n) (hr : C8 w A0 n R) (hc : n ≤ c0) (hok : bytesOk R = true) (hm : n ≤ 1000000)
    (hcell : w.cell? ⟨b, 1, none⟩ = some f) (hfz : w.frozen? ⟨b, 1, none⟩ = false) (hq : SQ (Kd.slice 5 (Kd.int .u8)) 22 w base okf f fs) (hfl : fs.length ≤ 1000000) (hbase : base ≤ w.heap.size) (hbf : ∀ k, okf k → k ≠ b) (hnb : dec R = .body kn) :
    Calls Try.prog 61 #[.pointer (some ⟨b, 0, none⟩), .slice A0 n c0] w fun e w' =>
      e = .returned (.int .i64 ((kn + 14 : Nat) : Int)) ∧ ∃ f1 w1, w' = w1.setCell ⟨b, 1, none⟩ f1 ∧ SQ (Kd.slice 5 (Kd.int .u8)) 22 w1 base (fun k => okf k ∨ w.heap.size ≤ k) f1 (fs ++ [(R.drop 10).take kn]) ∧ w.grownBy w1 f.ownBlock := by
  have HRL := Aside0.mk hn
  have HR0 := Aside0.mk hr
  have HC0 := Aside0.mk hc
  have HRO := Aside0.mk hok
  have HMAX := Aside0.mk hm
  have HQ := Aside0.mk (SQ_mono (ok' := fun k => okf k ∧ k < w.heap.size) (SQ_bound hq) (fun k hk => ⟨hk.1, hk.2.2.1⟩))
  have HFL := Aside0.mk (show ∀ k, f.ownBlock = some k → k < w.heap.size from fun k hk => (SQ_ok (SQ_bound hq) k hk).2.2.1)
  have HFB := Aside0.mk (show ∀ k, f.ownBlock = some k → k ≠ b from fun k hk => hbf k (SQ_ok hq k hk))
  have HBS := Aside0.mk hbase
  have HFN := Aside0.mk hfl
  obtain ⟨d1, d2, d3, d4, d5⟩ := dec_body hnb
  rw [hn] at d1 d4
  have HHB := Aside0.mk d3
  have HE := Aside0.mk d5
  have hkn : kn ≤ 1000000 := by omega
  have hwr := wordAt_range R hok 2 (by omega)
  have HX2 := Aside0.mk (show wordAt R 2 = (kn : Int) by omega)
  clear hwr d2
  obtain ⟨q, hq'⟩ : ∃ q : Nat, q = kn + 14 := ⟨_, rfl⟩
  rw [← hq'] at HE
  have hopen : opens R = true := by
    cases ho : opens R with
    | true => rfl
    | false => exfalso; unfold dec at hnb; rw [if_neg (by omega), if_pos ho] at hnb; cases hnb
  have HOP := Aside0.mk hopen
  clear hopen hnb d3 d5
  obtain ⟨ad, hA, hx0⟩ := Kd.at_int HR0.out 0 (by omega) (by omega)
  subst hA
  rw [show ((0 : Int)).toNat = 0 from rfl, Addr.add_zero'] at hx0
  obtain ⟨ad', hA, hx1⟩ := Kd.at_int HR0.out 1 (by omega) (by omega)
  cases hA
  simp only [show (1 : Int).toNat = 1 from rfl, Nat.reduceMul, Nat.reduceEqDiff, Go.Addr.add, ↓reduceIte] at hx1
  have hb01 : rd R 0 = 197 ∧ rd R 1 = 58 := by
    have hopen := HOP.out
    unfold opens at hopen
    rw [HRL.out, decide_eq_false (show ¬ n < 2 by omega)] at hopen
    simpa using hopen
  rw [hb01.1] at hx0
  rw [hb01.2] at hx1
  have HHX := Aside0.mk hx0
  have HHY := Aside0.mk hx1
  clear hb01 hx0 hx1 HOP
  have hql : q ≤ R.length := by omega
  have HQL := Aside0.mk (show (R.take q).length = q by rw [List.length_take]; omega)
  have HQO := Aside0.mk (bytesOk_take HRO.out q)
  have HQC := Aside0.mk (show q ≤ c0 by omega)
  have HQ4 := Aside0.mk (show 14 ≤ q ∧ q ≤ 1000000000 by omega)
  have HQN := Aside0.mk (show q ≤ n by omega)
  have HQX := Aside0.mk (show (kn : Int) + 14 = (q : Int) by omega)
  have HQ' := Aside0.mk hq'
  have wn : wrap64 ((kn : Int) + 14) = (kn : Int) + 14 := by unfold wrap64; omega
  have HP := Aside0.mk (show ((R.take q).drop 10).take (q - 14) = (R.drop 10).take kn by
    exact body_cut R kn q hq')
  have h10 : 10 ≤ n := by omega
  have h14 : ¬ ((n : Int) < (kn : Int) + 14) := by omega
  obtain ⟨hcutt, hCt⟩ := cutt8 (A := some ad) (n := n) (c := c0) (xs := R) q HQN.out HC0.out
  rw [← HQX.out] at hcutt
  obtain ⟨p, hp⟩ : ∃ p, p = (R.drop 10).take kn := ⟨_, rfl⟩
  rw [← hp]
  have HP1 := Aside0.mk (show ((R.take q).drop 10).take (q - 14) = p by rw [hp]; exact HP.out)
  have HPL := Aside0.mk (show p.length ≤ 1000000 by rw [hp, List.length_take]; omega)
  clear hp HP
  obtain ⟨fs1, hfs1⟩ : ∃ l, fs ++ [p] = l := ⟨_, rfl⟩
  rw [hfs1]
  have HF1 := Aside0.mk hfs1
  clear hfs1
  have HCt := Aside0.mk hCt
  have hx0 := HHX.out
  have hx1 := HHY.out
  clear hr hc hok hn hq hbase hfl hbf d1 d4 hq' hm hCt hql HHX HHY
  go_enter Try.func61, Try.ntmps61
  go_wp2_with fail
  refine (head_N (some ad) c0 n R (kn : Int) true _ HRL.out HR0.out HC0.out HRO.out h10 (by have := HMAX.out; omega) HX2.out HHB.out).mono ?_
  rintro e1 w1 ⟨rfl, hd⟩
  have hcell1 := pw_cell_below hd hcell
  have hfz1 : w1.frozen? ⟨b, 1, none⟩ = false := (hd.frozen (World.block_lt_of_cell? w _ hcell)).trans hfz
  have HR1 := Aside0.mk (Kd.C_below HR0.out hd)
  have HB1 := Aside0.mk hd
  have HQ1 := Aside0.mk (SQ_step HQ.out (fun k _ hk => hd.block k hk))
  clear hd hcell hfz HR0 HQ
  go_wp2_with fail
  refine (ends_N (some ad) c0 q (R.take q) true _ HQL.out (HCt.out _ HR1.out) HQC.out HQO.out (by have := HQ4.out; omega) HQ4.out.2 HE.out).mono ?_
  rintro e2 w2 ⟨rfl, hd⟩
  have hcell2 := pw_cell_below hd hcell1
  have hfz2 : w2.frozen? ⟨b, 1, none⟩ = false := (hd.frozen (World.block_lt_of_cell? w1 _ hcell1)).trans hfz1
  have HR2 := Aside0.mk (Kd.C_below HR1.out hd)
  have HB2 := Aside0.mk (below_step HB1.out hd)
  have HQ2 := Aside0.mk (SQ_step HQ1.out (fun k _ hk => hd.block k hk))
  clear hd hcell1 hfz1 HR1 HQ1 HB1
  go_wp2_with fail
  have HQ3 := Aside0.mk (SQ_step (w1 := w2.drew) HQ2.out (fun k _ hk => (below_drew1 (Below.refl _ w2)).block k hk))
  have HR3 := Aside0.mk (Kd.C_drew HR2.out)
  have HB3 := Aside0.mk (below_drew1 HB2.out)
  have hcell3 : w2.drew.cell? ⟨b, 1, none⟩ = some f := by rw [World.cell?_drew]; exact hcell2
  have hfz3 : w2.drew.frozen? ⟨b, 1, none⟩ = false := hfz2
  refine start_ (n := 15) (S := fun w' => w'.cell? ⟨b, 1, none⟩ = some f) (ds := [14]) #[false, false, false, false, false, false, false, false, false, false, false, false, false, false, false] (by kernel_rfl) rfl rfl (hcell3) (fun hHeld => ?_)
  refine with_tabW rg61.tab11 rg61.bits11 (fun HT_ HW_ => ?_)
  refine pure_ (i := 0) (N := some 54) (v := ?_) (a' := ?_) #[true, false, false, false, false, false, false, false, false, false, false, false, false, false, false] rfl rfl (any_of HT_.out (by kernel_rfl)) (fun _ _ _ h => h) (Or.inl ⟨by rfl, ?_⟩) ?_ ?_
  rotate_left
  · intro w'
    go_simp
    with_reducible rfl
  rotate_left
  · simp only [Act.put, List.setIfInBounds_toArray, List.set_cons_zero, List.set_cons_succ, i64_w, i32_w]
    rfl
  refine pure_ (i := 1) (N := some 55) (v := ?_) (a' := ?_) #[true, true, false, false, false, false, false, false, false, false, false, false, false, false, false] rfl rfl (any_of HT_.out (by kernel_rfl)) (fun _ _ _ h => h) (Or.inl ⟨by rfl, ?_⟩) ?_ ?_
  rotate_left
  · intro w'
    go_simp
    with_reducible rfl
  rotate_left
  · simp only [Act.put, List.setIfInBounds_toArray, List.set_cons_zero, List.set_cons_succ, i64_w, i32_w]
    rfl
  refine pure_ (i := 2) (N := some 56) (v := ?_) (a' := ?_) #[true, true, true, false, false, false, false, false, false, false, false, false, false, false, false] rfl rfl (any_of HT_.out (by kernel_rfl)) (fun _ _ _ h => h) (Or.inl ⟨by rfl, ?_⟩) ?_ ?_
  rotate_left
  · intro w'
    go_simp
    with_reducible rfl
  rotate_left
  · simp only [Act.put, List.setIfInBounds_toArray, List.set_cons_zero, List.set_cons_succ, i64_w, i32_w]
    rfl
  refine pure_ (i := 3) (N := some 57) (v := ?_) (a' := ?_) #[true, true, true, true, false, false, false, false, false, false, false, false, false, false, false] rfl rfl (any_of HT_.out (by kernel_rfl)) (fun _ _ _ h => h) (Or.inl ⟨by rfl, ?_⟩) ?_ ?_
  rotate_left
  · intro w'
    go_simp
    with_reducible rfl
  rotate_left
  · simp only [Act.put, List.setIfInBounds_toArray, List.set_cons_zero, List.set_cons_succ, i64_w, i32_w]
    rfl
  refine pure_ (i := 5) (N := some 59) (v := ?_) (a' := ?_) #[true, true, true, true, false, true, false, false, false, false, false, false, false, false, false] rfl rfl (any_of HT_.out (by kernel_rfl)) (fun _ _ _ h => h) (Or.inl ⟨by rfl, ?_⟩) ?_ ?_
  rotate_left
  · intro w'
    go_simp
    with_reducible rfl
  rotate_left
  · simp only [Act.put, List.setIfInBounds_toArray, List.set_cons_zero, List.set_cons_succ, i64_w, i32_w]
    rfl
  refine pure_ (i := 6) (N := some 60) (v := ?_) (a' := ?_) #[true, true, true, true, false, true, true, false, false, false, false, false, false, false, false] rfl rfl (any_of HT_.out (by kernel_rfl)) (fun _ _ _ h => h) (Or.inl ⟨by rfl, ?_⟩) ?_ ?_
  rotate_left
  · intro w'
    go_simp
    with_reducible rfl
  rotate_left
  · simp only [Act.put, List.setIfInBounds_toArray, List.set_cons_zero, List.set_cons_succ, i64_w, i32_w]
    rfl
  refine pure_ (i := 7) (N := some 61) (v := ?_) (a' := ?_) #[true, true, true, true, false, true, true, true, false, false, false, false, false, false, false] rfl rfl (any_of HT_.out (by kernel_rfl)) (fun _ _ _ h => h) (Or.inl ⟨by rfl, ?_⟩) ?_ ?_
  rotate_left
  · intro w'
    go_simp
    with_reducible rfl
  rotate_left
  · simp only [Act.put, List.setIfInBounds_toArray, List.set_cons_zero, List.set_cons_succ, i64_w, i32_w]
    rfl
  refine pure_ (i := 8) (N := some 62) (v := ?_) (a' := ?_) #[true, true, true, true, false, true, true, true, true, false, false, false, false, false, false] rfl rfl (any_of HT_.out (by kernel_rfl)) (fun _ _ _ h => h) (Or.inl ⟨by rfl, ?_⟩) ?_ ?_
  rotate_left
  · intro w'
    go_simp
    with_reducible rfl
  rotate_left
  · simp only [Act.put, List.setIfInBounds_toArray, List.set_cons_zero, List.set_cons_succ, i64_w, i32_w]
    rfl
  refine take_ (i := 4) (N := some 58) (v := ?_) (a' := ?_) #[true, true, true, true, true, true, true, true, true, false, false, false, false, false, false] rfl rfl (take_ofW HT_.out HW_.out (by kernel_rfl)) (fun _ _ _ h => h) (Or.inl ⟨by rfl, ?_⟩) hHeld ?_ ?_
  rotate_left
  · intro w' s0
    go_simp
    with_reducible rfl
  rotate_left
  · simp only [Act.put, List.setIfInBounds_toArray, List.set_cons_zero, List.set_cons_succ, i64_w, i32_w]
    rfl
  refine one_ (i := 9) (N := some 63) #[true, true, true, true, true, true, true, true, true, true, false, false, false, false, false] rfl rfl (one_of HT_.out (by kernel_rfl)) (by decide) (fun K hK => ?_)
  refine goes_ Try.func58 (by kernel_rfl) rfl #[.slice (some ad) q c0] (by rfl) rfl rfl (by simp only [List.map_toArray, List.map_cons, List.map_nil]; rfl) ?_
  with_reducible refine (body_N (some ad) c0 q (R.take q) p _ HQL.out (HCt.out _ HR3.out) HQC.out HQ4.out.1 HQ4.out.2 HP1.out).mono ?_
  rintro e w3 ⟨v3, rfl, hrow, hbl⟩
  refine ⟨_, rfl, ?_⟩
  have hcell4 := pw_cell_below hbl hcell3
  have hfz4 : w3.frozen? ⟨b, 1, none⟩ = false := (hbl.frozen (World.block_lt_of_cell? w2.drew _ hcell3)).trans hfz3
  obtain ⟨A3, c3, rfl⟩ := Kd.R_slice hrow
  have HB4 := Aside0.mk (below_step HB3.out hbl)
  have hnew4 : ∀ k, (Value.slice A3 p.length c3).ownBlock = some k → w.heap.size ≤ k := fun k hk => Nat.le_trans HB3.out.size (Kd.R_base hrow k hk)
  have HNW := Aside0.mk hnew4
  have HQ4' := Aside0.mk (show SQ (Kd.slice 5 (Kd.int .u8)) 22 w3 base (fun k => (okf k ∨ w.heap.size ≤ k) ∧ ¬ (some k = (Value.slice A3 p.length c3).ownBlock)) f fs from
    SQ_step (SQ_mono HQ3.out (fun k hk => ⟨.inl hk.1, fun e => by have := hnew4 k e.symm; have := hk.2; omega⟩)) (fun k _ hk => hbl.block k hk))
  have HNF := Aside0.mk (show ∀ k, some k = (Value.slice A3 p.length c3).ownBlock → (okf k ∨ w.heap.size ≤ k) ∧ some k ≠ f.ownBlock from fun k hk => ⟨.inr (hnew4 k hk.symm), fun e => by
    have h1 := hnew4 k hk.symm
    have h2 := HFL.out k e.symm
    omega⟩)
  have HPR := Aside0.mk (show R8 w3 base (.slice A3 p.length c3) p from Kd.R_lower hrow (Nat.le_trans HBS.out HB3.out.size))
  clear hrow hnew4 hbl
  refine hK.out _ _ (hcell4) (fun hHeld => ?_)
  clear hK K
  refine norm_ (a' := ?_) ?_ ?_
  rotate_left
  · show Act.put _ (some 63) _ = _
    simp only [Act.put, List.setIfInBounds_toArray, List.set_cons_zero, List.set_cons_succ, i64_w, i32_w]
    rfl
  refine one_ (i := 10) (N := some 64) #[true, true, true, true, true, true, true, true, true, true, true, false, false, false, false] rfl rfl (one_of HT_.out (by kernel_rfl)) (by decide) (fun K hK => ?_)
  refine value_ (w1 := ?_) (v := ?_) (by rfl) rfl ?_ ?_
  rotate_left 2
  · go_simp
    constructor
    · rfl
    · rfl
  have hcell5 : (w3.alloc (.cells #[.slice A3 p.length c3] 22)).cell? ⟨b, 1, none⟩ = some f := pw_cell_below (below_alloc (Below.refl _ _) _) hcell4
  refine hK.out _ _ (hcell5) (fun hHeld => ?_)
  clear hK K
  refine norm_ (a' := ?_) ?_ ?_
  rotate_left
  · show Act.put _ (some 64) _ = _
    simp only [Act.put, List.setIfInBounds_toArray, List.set_cons_zero, List.set_cons_succ, i64_w, i32_w]
    rfl
  refine one_ (i := 11) (N := some 65) #[true, true, true, true, true, true, true, true, true, true, true, true, false, false, false] rfl rfl (one_of HT_.out (by kernel_rfl)) (by decide) (fun K hK => ?_)
  refine SQ_append_step (Kd.slice 5 (Kd.int .u8)) (w0 := w) base (by rfl) (.tmp 58) (.tmp 64) 37 22 (.slice none 0 0) 24 rfl Try.underlying37 info22 rfl (by decide) (by omega) f fs p [.slice A3 p.length c3] (fun k => okf k ∨ w.heap.size ≤ k) (fun k => some k = (Value.slice A3 p.length c3).ownBlock) rfl rfl
    (Kd.M_row (R8_ok' HPR.out (fun k_ h => h.symm))) HNF.out (fun k hk => .inr (Nat.le_trans HB4.out.size hk)) HQ4'.out (HB4.out.mono HBS.out) (Nat.le_trans HBS.out HB4.out.size) (by have := HFN.out; omega) ?_
  intro v6 w6 ho6 hb6 hg6 hat6
  rw [HF1.out] at ho6
  obtain ⟨A6, c6, rfl, hl6⟩ := SQ_slice ho6
  have hcell6 : w6.cell? ⟨b, 1, none⟩ = some f := hg6.cell hcell4 (fun e => HFB.out b e.symm rfl)
  have hfz6 : w6.frozen? ⟨b, 1, none⟩ = false := by
    rw [hg6.frozen_far ⟨b, 1, none⟩ (World.block_lt_of_cell? w3 _ hcell4) (fun e => HFB.out b e.symm rfl)]
    exact hfz4
  have HO6 := Aside0.mk ho6
  have HG6 := Aside0.mk ((grown_below HB4.out f.ownBlock).trans hg6)
  clear ho6 hb6 hg6 hat6
  refine hK.out _ _ (hcell6) (fun hHeld => ?_)
  clear hK K
  refine norm_ (a' := ?_) ?_ ?_
  rotate_left
  · show Act.put _ (some 65) _ = _
    simp only [Act.put, List.setIfInBounds_toArray, List.set_cons_zero, List.set_cons_succ, i64_w, i32_w]
    rfl
  refine pure_ (i := 12) (N := some 66) (v := ?_) (a' := ?_) #[true, true, true, true, true, true, true, true, true, true, true, true, true, false, false] rfl rfl (any_of HT_.out (by kernel_rfl)) (fun _ _ _ h => h) (Or.inl ⟨by rfl, ?_⟩) ?_ ?_
  rotate_left
  · intro w'
    go_simp
    with_reducible rfl
  rotate_left
  · simp only [Act.put, List.setIfInBounds_toArray, List.set_cons_zero, List.set_cons_succ, i64_w, i32_w]
    rfl
  refine pure_ (i := 13) (N := some 67) (v := ?_) (a' := ?_) #[true, true, true, true, true, true, true, true, true, true, true, true, true, true, false] rfl rfl (any_of HT_.out (by kernel_rfl)) (fun _ _ _ h => h) (Or.inl ⟨by rfl, ?_⟩) ?_ ?_
  rotate_left
  · intro w'
    go_simp
    with_reducible rfl
  rotate_left
  · simp only [Act.put, List.setIfInBounds_toArray, List.set_cons_zero, List.set_cons_succ, i64_w, i32_w]
    rfl
  refine last_ (i := 14) (N := none) #[true, true, true, true, true, true, true, true, true, true, true, true, true, true, true] rfl rfl (one_of HT_.out (by kernel_rfl)) (by decide) (fun K hK => ?_)
  refine skip_ (w1 := ?_) (by rfl) rfl ?_ ?_
  rotate_left
  · go_simp
    rfl
  refine hK.out _ _ ?_
  clear hK K
  refine done_ (done_of HT_.out (by kernel_rfl)) ?_
  go_wp2
  go_ret
  exact ⟨by first | rfl | simp, _, w6, rfl, HO6.out, HG6.out⟩
end Go.Proofs.Ytnanaojjhmpilaa.PW
