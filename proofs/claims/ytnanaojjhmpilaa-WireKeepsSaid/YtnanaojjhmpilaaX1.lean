/- A queue of rows of one's own: a row that may begin inside its block, whose elements lead to no common block. -/
import Derived.Test.YtnanaojjhmpilaaS2
import Derived.Test.YtnanaojjhmpilaaPWx6
import Derived.Outline
import Derived.Deep.RegionWith
import Derived.RangeFuncNested
import Derived.RangeFuncBound
import Derived.RangeFuncCalls
import Derived.RangeFuncLeaves
import Derived.WalkKit
import Derived.OwnWalkIn
import Derived.TacticsInMore
import Derived.LoopNIn
import Derived.LoopIn
import Derived.Test.YtnanaojjhmpilaaM6
import Derived.Test.YtnanaojjhmpilaaPWx12
import Derived.Test.YtnanaojjhmpilaaPWx2
import Derived.Test.YtnanaojjhmpilaaPWx3
import Derived.Test.YtnanaojjhmpilaaPWx13
namespace Go.Proofs.Ytnanaojjhmpilaa.PW
open Go.RowKit Go.Proofs.YtnanaojjhmpilaaW.PrintWords Go.Proofs.YtnanaojjhmpilaaW.PrintLast Go.Proofs.YtnanaojjhmpilaaW.PrintMore
set_option linter.unusedVariables false

def SQ {α : Type} (d : Kd α) (e : Nat) (w : World) (base : Nat) (ok : Nat → Prop) (v : Value) (xs : List α) : Prop := ∃ f i0, (Kd.tag f d).Q e w base ok v (xs.zipIdx i0)
section
variable {α : Type} {d : Kd α} {e : Nat} {w w1 W : World} {base : Nat} {ok ok' : Nat → Prop} {v : Value} {xs : List α}
theorem SQ_nil (d : Kd α) (e : Nat) (w : World) (base : Nat) (ok : Nat → Prop) : SQ d e w base ok (.slice none 0 0) [] := ⟨fun _ => 0, 0, Kd.Q_nil _ _ _ _ _⟩
theorem SQ_mono (h : SQ d e w base ok v xs) (hok : ∀ k, ok k → ok' k) : SQ d e w base ok' v xs := by
  obtain ⟨f, i0, h⟩ := h
  exact ⟨f, i0, Kd.Q_mono h hok⟩
theorem SQ_step (h : SQ d e w base ok v xs) (hm : ∀ k, ok k → k < w.heap.size → w1.heap[k]? = w.heap[k]?) : SQ d e w1 base ok v xs := by
  obtain ⟨f, i0, h⟩ := h
  exact ⟨f, i0, Kd.Q_step h hm⟩
theorem SQ_bound (h : SQ d e w base ok v xs) : SQ d e w base (fun k => ok k ∧ base ≤ k ∧ k < w.heap.size ∧ ∃ q, q ∈ e :: d.E ∧ ∃ cells, w.heap[k]? = some (.cells cells q (0, 0))) v xs := by
  obtain ⟨f, i0, h⟩ := h
  exact ⟨f, i0, Kd.Q_bound h⟩
theorem SQ_ok (h : SQ d e w base ok v xs) : ∀ k, v.ownBlock = some k → ok k := by
  obtain ⟨f, i0, h⟩ := h
  exact h.1
theorem SQ_slice (h : SQ d e w base ok v xs) : ∃ A c, v = .slice A xs.length c ∧ xs.length ≤ c := by
  obtain ⟨f, i0, h⟩ := h
  obtain ⟨A, c, e1, hl⟩ := Kd.Q_slice h
  rw [List.length_zipIdx] at e1 hl
  exact ⟨A, c, e1, hl⟩
theorem SQ_lower {base' : Nat} (h : SQ d e w base ok v xs) (hb : base' ≤ base) : SQ d e w base' ok v xs := by
  obtain ⟨f, i0, h⟩ := h
  exact ⟨f, i0, Kd.Q_lower h hb⟩
end
theorem Q_tag {α : Type} {d : Kd α} {e base : Nat} {ok : Nat → Prop} {w : World} {v : Value} {f f' : Nat → Nat} {zs : List (α × Nat)} (h : (Kd.tag f d).Q e w base ok v zs) (hf : ∀ k, ok k → k < w.heap.size → f' k = f k) : (Kd.tag f' d).Q e w base ok v zs := by
  obtain ⟨h0, inner, ho, hr⟩ := Kd.Q_bound h
  exact ⟨fun k hk => (h0 k hk).1, inner, ho, hr.1, fun j p hj => d.M_mono (fun k hk => ⟨⟨hk.1.1.1, hk.1.2⟩, (hf k hk.1.1.1 hk.1.1.2.2.1).trans hk.2⟩) (hr.2 j p hj)⟩
theorem zip_snoc' {α : Type} (xs : List α) (p : α) (i0 : Nat) : (xs ++ [p]).zipIdx i0 = xs.zipIdx i0 ++ [(p, i0 + xs.length)] := by rw [List.zipIdx_append]; simp
open Classical in
/-- append(v, p): p's blocks are okp, none of them the queue's. -/
theorem SQ_run {α : Type} {P : Program} (d : Kd α) {w0 W : World} (base : Nat) (t ty e : TypeId) (z : Value) (bytes : Nat)
    (ht : P.underlying t = some (.slice e)) (hinfo : (P.info? e).map (fun i => (i.zero, i.size, i.bytes)) = some (some z, d.sz, bytes)) (hz : z.cells.size = d.sz) (hs0 : 0 < d.sz) (hb0 : 0 < bytes)
    (v : Value) (xs : List α) (p : α) (cs : List Value) (ok okp : Nat → Prop) (hp : d.M W base okp p cs) (hokp : ∀ k, okp k → ok k ∧ some k ≠ v.ownBlock) (hfresh : ∀ k, W.heap.size ≤ k → ok k)
    (HO : SQ d e W base (fun k => ok k ∧ ¬ okp k) v xs) (HB : Below base w0 W) (hbase : base ≤ W.heap.size) (hl : (xs.length + 1) * bytes ≤ 140737488355328) :
    ∃ v1 w1, (Builtin.append_ #[t, t] ty #[v, .slice (some ⟨W.heap.size, 0, none⟩) 1 1]).run P (W.alloc (.cells cs.toArray e)) = .ok v1 w1 ∧ SQ d e w1 base ok v1 (xs ++ [p]) ∧ Below base w0 w1 ∧ W.grownBy w1 v.ownBlock ∧ (v1.ownBlock = v.ownBlock ∨ ∃ b, v1.ownBlock = some b ∧ W.heap.size ≤ b) := by
  obtain ⟨f, i0, h⟩ := HO
  have h' : (Kd.tag (fun k => if okp k then i0 + xs.length else f k) d).Q e W base (fun k => ok k ∧ ¬ okp k) v (xs.zipIdx i0) := Q_tag h (fun k hk _ => if_neg hk.2)
  obtain ⟨v1, w1, hr, h1, h2, h3, h4⟩ := Kd.Q_run (P := P) (Kd.tag (fun k => if okp k then i0 + xs.length else f k) d) base t ty e z bytes ht hinfo hz hs0 hb0 v (xs.zipIdx i0) (p, i0 + xs.length) cs ok okp
    (d.M_mono (fun k hk => ⟨hk, if_pos hk⟩) hp) hokp hfresh (Kd.Q_mono h' (fun _ hk => hk.1)) HB hbase (by rw [List.length_zipIdx]; exact hl)
  rw [← zip_snoc'] at h1
  exact ⟨v1, w1, hr, ⟨_, i0, h1⟩, h2, h3, h4⟩
/-- The head goes out: its blocks are none of the rest's. -/
theorem SQ_pop {α : Type} {d : Kd α} {e : Nat} {W : World} {base : Nat} {ok : Nat → Prop} {A : Option Addr} {n c : Nat} {x : α} {xs : List α} (h : SQ d e W base ok (.slice A n c) (x :: xs)) :
    ∃ (okx : Nat → Prop) (ad : Addr) (cs : List Value), A = some ad ∧ cs.length = d.sz ∧ d.M W base okx x cs ∧ (∀ j u, cs[j]? = some u → W.cell? (ad.add j) = some u) ∧ (∀ k, okx k → ok k ∧ some k ≠ (Value.slice A n c).ownBlock) ∧
      SQ d e W base (fun k => ok k ∧ ¬ okx k) (.slice (if c = 1 then A else A.map (·.add (1 * d.sz))) (n - 1) (c - 1)) xs := by
  obtain ⟨f, i0, h⟩ := h
  have hn := (Kd.Q_reads' h).1
  rw [List.length_zipIdx, List.length_cons] at hn
  have hd := Kd.Q_drop (k := 1) h (by simp)
  obtain ⟨h0, inner, ho, hr⟩ := h
  rw [List.length_zipIdx, List.length_cons, ← hn] at ho
  obtain ⟨ad, hA, hc⟩ := q_cells ho (by omega)
  have hb : (Value.slice (if c = 1 then A else A.map (·.add (1 * d.sz))) (n - 1) (c - 1)).ownBlock = (Value.slice A n c).ownBlock := by
    split
    · cases A <;> rfl
    · cases A with
      | none => rfl
      | some a => simp [Value.ownBlock]; unfold Addr.add; split <;> rfl
  have hM := hr.2 0 (x, i0) (by simp)
  refine ⟨fun k => (ok k ∧ some k ≠ (Value.slice A n c).ownBlock) ∧ f k = i0, ad, (inner.drop (0 * d.sz)).take d.sz, hA, (Kd.tag f d).K_len ((Kd.tag f d).K_of_M hM), hM, fun j u hu => ?_, fun k hk => hk.1, f, i0 + 1, ?_⟩
  · rw [List.getElem?_take] at hu
    split at hu
    · rw [List.getElem?_drop, Nat.zero_mul, Nat.zero_add] at hu
      exact hc j u hu
    · cases hu
  · have e1 : ((x :: xs).zipIdx i0).drop 1 = xs.zipIdx (i0 + 1) := by simp [List.zipIdx_cons]
    rw [e1] at hd
    obtain ⟨h1, inner1, ho1, hr1⟩ := hd
    refine ⟨fun k hk => ⟨h1 k hk, fun hx => hx.1.2 (by rw [← hb]; exact hk.symm)⟩, inner1, ho1, hr1.1, fun j p hj => d.M_mono (fun k hk => ⟨⟨⟨hk.1.1, fun hx => ?_⟩, hk.1.2⟩, hk.2⟩) (hr1.2 j p hj)⟩
    rw [List.getElem?_zipIdx] at hj
    obtain ⟨q, hq, rfl⟩ := Option.map_eq_some_iff.1 hj
    have h3 := hk.2
    have h4 := hx.2
    simp only at h3
    omega
end Go.Proofs.Ytnanaojjhmpilaa.PW
namespace Go.Proofs.Ytnanaojjhmpilaa.PW
open Go.RowKit Go.Proofs.YtnanaojjhmpilaaW.PrintWords Go.Proofs.YtnanaojjhmpilaaW.PrintLast Go.Proofs.YtnanaojjhmpilaaW.PrintMore
set_option linter.unusedVariables false
set_option linter.unusedSimpArgs false

theorem head_N (A : Option Addr) (c n : Nat) (l : List Int) (x : Int) (b : Bool) (w : World) (hn : l.length = n) (hr : C8 w A n l) (hc : n ≤ c) (hok : bytesOk l = true) (h10 : 10 ≤ n) (hm : n ≤ 1000000000) (hx : wordAt l 2 = x) (hb : headB l = b) :
    Calls Try.prog 56 #[.slice A n c] w fun e w' => e = .returned (.tuple #[.int .i64 x, .bool b]) ∧ Below w.heap.size w w' := by
  subst hn
  subst hx
  subst hb
  exact wire_head.calls A c l _ _ w hr hc (by unfold wire_head.f; rw [if_pos ⟨hok, by omega, by omega⟩])
theorem ends_N (A : Option Addr) (c n : Nat) (l : List Int) (b : Bool) (w : World) (hn : l.length = n) (hr : C8 w A n l) (hc : n ≤ c) (hok : bytesOk l = true) (h4 : 4 ≤ n) (hm : n ≤ 1000000000) (hb : endsB l = b) :
    Calls Try.prog 57 #[.slice A n c] w fun e w' => e = .returned (.bool b) ∧ Below w.heap.size w w' := by
  subst hn
  subst hb
  exact wire_ends.calls A c l _ w hr hc (by unfold wire_ends.f; rw [if_pos ⟨hok, by omega, by omega⟩])
theorem body_N (A : Option Addr) (c n : Nat) (l p : List Int) (w : World) (hn : l.length = n) (hr : C8 w A n l) (hc : n ≤ c) (h14 : 14 ≤ n) (hm : n ≤ 1000000000) (hp : (l.drop 10).take (n - 14) = p) :
    Calls Try.prog 58 #[.slice A n c] w fun e w' => ∃ v0_ : Value, e = .returned v0_ ∧ Kd.R (Kd.int .u8) 5 w' w.heap.size (fun _ => True) v0_ p ∧ Below w.heap.size w w' := by
  subst hn
  subst hp
  exact wire_body.calls A c l _ w hr hc (by unfold wire_body.f; rw [if_pos ⟨h14, by omega⟩])

set_option maxHeartbeats 16000000 in
set_option maxRecDepth 100000 in
theorem decide_rest (b : Nat) (A0 : Option Addr) (c0 n sk : Nat) (R : List Int) (w : World) (hn : R.length = n) (hr : C8 w A0 n R) (hc : n ≤ c0) (hok : bytesOk R = true) (hm : n ≤ 1000000) (hsk : sk ≤ 1000000000)
    (hcell : w.cell? ⟨b, 2, none⟩ = some (.int .i64 (sk : Int))) (hfz : w.frozen? ⟨b, 2, none⟩ = false) (hnb : ∀ k, dec R ≠ .body k) :
    Calls Try.prog 61 #[.pointer (some ⟨b, 0, none⟩), .slice A0 n c0] w fun e w' =>
      (dec R = .wait ∧ e = .returned (.int .i64 0) ∧ Below w.heap.size w w') ∨
      (dec R = .skip ∧ e = .returned (.int .i64 1) ∧ ∃ w1, Below w.heap.size w w1 ∧ w' = w1.setCell ⟨b, 2, none⟩ (.int .i64 ((sk + 1 : Nat) : Int))) := by
  have HRL := Aside0.mk hn
  have HR0 := Aside0.mk hr
  have HC0 := Aside0.mk hc
  have HRO := Aside0.mk hok
  have HMAX := Aside0.mk hm
  have HNB := Aside0.mk hnb
  have wsk : wrap64 ((sk : Int) + 1) = ((sk + 1 : Nat) : Int) := by unfold wrap64; omega
  clear hr hc hok hn hnb
  by_cases h00 : n = 0
  · have hd : dec R = .wait := by unfold dec; rw [if_pos (by rw [HRL.out]; exact h00)]
    subst h00
    go_enter Try.func61, Try.ntmps61
    go_wp2
    go_ret
    exact .inl ⟨hd, rfl, Below.refl _ _⟩
  · obtain ⟨ad, hA, hx0⟩ := Kd.at_int HR0.out 0 (by omega) (by omega)
    subst hA
    rw [show ((0 : Int)).toNat = 0 from rfl, Addr.add_zero'] at hx0
    obtain ⟨b0, hb0⟩ : ∃ b, b = rd R 0 := ⟨_, rfl⟩
    rw [← hb0] at hx0
    by_cases h0 : b0 = 197
    · have k0 : (b0 == 197) = true := beq_iff_eq.mpr h0
      have HO0 := Aside0.mk (show rd R 0 = 197 by rw [← hb0, h0])
      clear h0 hb0
      by_cases h1 : n < 2
      · have HD := Aside0.mk (show dec R = .wait by
          unfold dec opens
          rw [HRL.out, if_neg h00, HO0.out, decide_eq_true h1, if_neg (by simp), if_pos (by omega)])
        go_enter Try.func61, Try.ntmps61
        go_wp2
        go_ret
        exact .inl ⟨HD.out, rfl, Below.refl _ _⟩
      · obtain ⟨ad', hA, hx1⟩ := Kd.at_int HR0.out 1 (by omega) (by omega)
        cases hA
        simp only [show (1 : Int).toNat = 1 from rfl, Nat.reduceMul, Nat.reduceEqDiff, Go.Addr.add, ↓reduceIte] at hx1
        obtain ⟨b1, hb1⟩ : ∃ b, b = rd R 1 := ⟨_, rfl⟩
        rw [← hb1] at hx1
        by_cases h3 : b1 = 58
        · have k1 : (b1 == 58) = true := beq_iff_eq.mpr h3
          have HO1 := Aside0.mk (show opens R = true by unfold opens; rw [HO0.out, ← hb1, h3]; simp)
          clear h3 hb1
          by_cases h10 : n < 10
          · have HD := Aside0.mk (show dec R = .wait by
              unfold dec
              rw [HRL.out, if_neg h00, HO1.out, if_neg (by simp), if_pos (by omega)])
            go_enter Try.func61, Try.ntmps61
            go_wp2
            go_ret
            exact .inl ⟨HD.out, rfl, Below.refl _ _⟩
          · have hwr := wordAt_range R HRO.out 2 (by rw [HRL.out]; omega)
            have hd0 : dec R = if headB R = false then .skip else if n < (wordAt R 2).toNat + 14 then .wait else if endsB (R.take ((wordAt R 2).toNat + 14)) = false then .skip else .body (wordAt R 2).toNat := by
              conv => lhs; unfold dec
              rw [HRL.out, if_neg h00, HO1.out, if_neg (by simp), if_neg (by omega)]
            have hhn : headB R = true → wordAt R 2 ≤ 262144 := by
              intro h; unfold headB at h; simp only [Bool.and_eq_true, decide_eq_true_eq] at h; omega
            obtain ⟨x, hx⟩ : ∃ x, wordAt R 2 = x := ⟨_, rfl⟩
            obtain ⟨hb, hhb⟩ : ∃ b, headB R = b := ⟨_, rfl⟩
            rw [hx] at hwr hd0 hhn
            rw [hhb] at hd0 hhn
            have HX2 := Aside0.mk hx
            have HHB := Aside0.mk hhb
            have HD0 := Aside0.mk hd0
            obtain ⟨hx00, hx01⟩ := hwr
            clear hx hhb hd0
            go_enter Try.func61, Try.ntmps61
            go_wp2_with fail
            refine (head_N (some ad) c0 n R x hb _ HRL.out HR0.out HC0.out HRO.out (by omega) (by have := HMAX.out; omega) HX2.out HHB.out).mono ?_
            rintro e1 w1 ⟨rfl, hd⟩
            have hfz1 : w1.frozen? ⟨b, 2, none⟩ = false := (hd.frozen (World.block_lt_of_cell? w _ hcell)).trans hfz
            replace hcell := pw_cell_below hd hcell
            have HR1 := Aside0.mk (Kd.C_below HR0.out hd)
            have HB1 := Aside0.mk hd
            clear hd hfz
            cases hb with
            | false =>
              have HD := Aside0.mk (show dec R = .skip by rw [HD0.out, if_pos rfl])
              go_wp2
              go_ret
              exact .inr ⟨HD.out, rfl, w1, HB1.out, by first | rfl | rw [show ((sk + 1 : Nat) : Int) = (sk : Int) + 1 by omega]⟩
            | true =>
              have hx2 := hhn rfl
              clear hhn
              have wn : wrap64 (x + 14) = x + 14 := by unfold wrap64; omega
              by_cases h14 : (n : Int) < x + 14
              · have HD := Aside0.mk (show dec R = .wait by rw [HD0.out, if_neg (by simp), if_pos (by omega)])
                go_wp2
                go_ret
                exact .inl ⟨HD.out, rfl, HB1.out⟩
              · obtain ⟨q, hq⟩ : ∃ q : Nat, q = x.toNat + 14 := ⟨_, rfl⟩
                have hqx : x + 14 = (q : Int) := by omega
                have hE : endsB (R.take q) = false := by
                  cases hh : endsB (R.take q) with
                  | false => rfl
                  | true => exact absurd (by rw [HD0.out, if_neg (by simp), if_neg (by omega), ← hq, hh, if_neg (by simp)]) (HNB.out x.toNat)
                have HD := Aside0.mk (show dec R = .skip by rw [HD0.out, if_neg (by simp), if_neg (by omega), ← hq, if_pos hE])
                have HE := Aside0.mk hE
                have HQL := Aside0.mk (show (R.take q).length = q by rw [List.length_take, HRL.out]; omega)
                have HQO := Aside0.mk (bytesOk_take HRO.out q)
                have HCT := Aside0.mk ((cutt8 (A := some ad) (n := n) (c := c0) (xs := R) q (by omega) HC0.out).2 w1 HR1.out)
                have HQC := Aside0.mk (show q ≤ c0 by have := HC0.out; omega)
                have HQ4 := Aside0.mk (show 4 ≤ q ∧ q ≤ 1000000000 by have := HMAX.out; omega)
                have HQX := Aside0.mk hqx
                clear hE hq hqx
                go_wp2_with (with_reducible refine stop_slice rfl ?_)
                refine to8w (by go_simp) _ _ rfl rfl rfl (by omega) (by have := HC0.out; omega) ?_
                rw [HQX.out, Int.toNat_natCast]
                go_wp2_with fail
                refine (ends_N (some ad) c0 q (R.take q) false _ HQL.out HCT.out HQC.out HQO.out HQ4.out.1 HQ4.out.2 HE.out).mono ?_
                rintro e2 w2 ⟨rfl, hd⟩
                have hfz2 : w2.frozen? ⟨b, 2, none⟩ = false := (hd.frozen (World.block_lt_of_cell? w1 _ hcell)).trans hfz1
                replace hcell := pw_cell_below hd hcell
                have HB2 := Aside0.mk (below_step HB1.out hd)
                clear hd hfz1
                go_wp2
                go_ret
                exact .inr ⟨HD.out, rfl, w2, HB2.out, by first | rfl | rw [show ((sk + 1 : Nat) : Int) = (sk : Int) + 1 by omega]⟩
        · have k1 : (b1 == 58) = false := beq_eq_false_iff_ne.mpr h3
          have HD := Aside0.mk (show dec R = .skip by
            unfold dec opens
            rw [HRL.out, if_neg h00, ← hb1, decide_eq_false h3, decide_eq_false h1]
            simp)
          clear h3 hb1
          go_enter Try.func61, Try.ntmps61
          go_wp2
          go_ret
          exact .inr ⟨HD.out, rfl, w, Below.refl _ _, by first | rfl | rw [show ((sk + 1 : Nat) : Int) = (sk : Int) + 1 by omega]⟩
    · have k0 : (b0 == 197) = false := beq_eq_false_iff_ne.mpr h0
      have hd : dec R = .skip := by
        unfold dec opens
        rw [HRL.out, if_neg h00, ← hb0, decide_eq_false h0, Bool.false_and, if_pos rfl]
      have HD := Aside0.mk hd
      clear h0 hb0 hd
      go_enter Try.func61, Try.ntmps61
      go_wp2
      go_ret
      exact .inr ⟨HD.out, rfl, w, Below.refl _ _, by first | rfl | rw [show ((sk + 1 : Nat) : Int) = (sk : Int) + 1 by omega]⟩
end Go.Proofs.Ytnanaojjhmpilaa.PW
namespace Go.Proofs.Ytnanaojjhmpilaa.PW
open Go.RowKit Go.Proofs.YtnanaojjhmpilaaW.PrintWords Go.Proofs.YtnanaojjhmpilaaW.PrintLast Go.Proofs.YtnanaojjhmpilaaW.PrintMore
set_option linter.unusedVariables false
set_option linter.unusedSimpArgs false

section
variable {ops : Array Oper} {o : Oper} {a : Act} {Q : Exit → Act → World → Prop} {Kc : Act → World → Prop}
theorem SQ_append_step {α : Type} {P : Program} (d : Kd α) {w0 W : World} (base : Nat) (hw : Region.wanted o (yielded ops a.tmps) = true) (s x : Operand) (t e : TypeId) (z : Value) (bytes : Nat)
    (ho : o.op = .call { callee := .builtin .append, args := #[s, x], argTypes := #[t, t] })
    (ht : P.underlying t = some (.slice e)) (hinfo : (P.info? e).map (fun i => (i.zero, i.size, i.bytes)) = some (some z, d.sz, bytes)) (hz : z.cells.size = d.sz) (hs0 : 0 < d.sz) (hb0 : 0 < bytes)
    (v : Value) (xs : List α) (p : α) (cs : List Value) (ok okp : Nat → Prop) (hs : a.eval s = v) (hx : a.eval x = .slice (some ⟨W.heap.size, 0, none⟩) 1 1) (hp : d.M W base okp p cs) (hokp : ∀ k, okp k → ok k ∧ some k ≠ v.ownBlock) (hfresh : ∀ k, W.heap.size ≤ k → ok k)
    (HO : SQ d e W base (fun k => ok k ∧ ¬ okp k) v xs) (HB : Below base w0 W) (hbase : base ≤ W.heap.size) (hl : (xs.length + 1) * bytes ≤ 140737488355328)
    (h : ∀ v1 w1, SQ d e w1 base ok v1 (xs ++ [p]) → Below base w0 w1 → W.grownBy w1 v.ownBlock → (v1.ownBlock = v.ownBlock ∨ ∃ b, v1.ownBlock = some b ∧ W.heap.size ≤ b) → Kc (a.put o.dst v1) w1) :
    if Region.wanted o (yielded ops a.tmps) = true then Oper.wp P o a (W.alloc (.cells cs.toArray e)) Kc Q else Kc (a.put o.dst undef) (W.alloc (.cells cs.toArray e)) := by
  obtain ⟨v1, w1, hr, h1, h2, h3, h4⟩ := SQ_run (P := P) d base t o.type e z bytes ht hinfo hz hs0 hb0 v xs p cs ok okp hp hokp hfresh HO HB hbase hl
  rw [if_pos hw]
  unfold Oper.wp execOp
  simp only [ho, resolve, invoke, builtin, Sem.run_bind, Sem.run_pure, Result.andThen_ok, List.map_toArray, List.map_cons, List.map_nil, hs, hx, hr]
  exact h v1 w1 h1 h2 h3 h4
end

theorem grown_below {w W : World} (hb : Below w.heap.size w W) (row : Option Nat) : w.grownBy W row := ⟨hb.os, hb.tape, hb.output, hb.size, fun k hk _ => hb.block k hk⟩
theorem body_cut (R : List Int) (k q : Nat) (h : q = k + 14) : ((R.take q).drop 10).take (q - 14) = (R.drop 10).take k := by
  subst h
  rw [List.drop_take, List.take_take]
  congr 1
  omega
def rg61.T11 : Bool × List (List Nat × List Nat) := (true, [([], []), ([], []), ([1], [1]), ([2], [2]), ([3], [3]), ([], []), ([], []), ([6], [6]), ([5, 7], [5, 7]), ([8], [8]), ([9], [9]), ([4, 10, 9], [4, 10]), ([0, 0, 1, 2, 3, 4, 5, 6, 7, 8, 9, 10, 11], [0]), ([12, 0, 1, 2, 3, 4, 5, 6, 7, 8, 9, 10, 11], [12]), ([13, 11, 11, 0, 1, 2, 3, 4, 5, 6, 7, 8, 9, 10, 11], [11, 13])])
def rg61.B11 : List Nat := [0, 0, 2, 6, 14, 0, 0, 64, 224, 480, 992, 2046, 4095, 8191, 16383]
theorem rg61.tab11 : rtab .any (opsOf Try.f61 11) = rg61.T11 := by kernel_rfl
theorem rg61.bits11 : waitsOk rg61.T11.2 rg61.B11 = true := by kernel_rfl
set_option maxHeartbeats 16000000 in
set_option maxRecDepth 100000 in
theorem decide_body (b base : Nat) (f : Value) (A0 : Option Addr) (c0 n kn : Nat) (R : List Int) (fs : List (List Int)) (okf : Nat → Prop) (w : World) (hn : R.length = n) (hr : C8 w A0 n R) (hc : n ≤ c0) (hok : bytesOk R = true) (hm : n ≤ 1000000)
    (hcell : w.cell? ⟨b, 1, none⟩ = some f) (hfz : w.frozen? ⟨b, 1, none⟩ = false) (hq : SQ (Kd.slice 5 (Kd.int .u8)) 22 w base okf f fs) (hfl : fs.length ≤ 1000000) (hbase : base ≤ w.heap.size) (hbf : ∀ k, okf k → k ≠ b) (hnb : dec R = .body kn) :
    Calls Try.prog 61 #[.pointer (some ⟨b, 0, none⟩), .slice A0 n c0] w fun e w' =>
      e = .returned (.int .i64 ((kn + 14 : Nat) : Int)) ∧ ∃ f1 w1, w' = w1.setCell ⟨b, 1, none⟩ f1 ∧ SQ (Kd.slice 5 (Kd.int .u8)) 22 w1 base (fun k => okf k ∨ w.heap.size ≤ k) f1 (fs ++ [(R.drop 10).take kn]) ∧ w.grownBy w1 f.ownBlock := by
  have HRL := Aside0.mk hn
  have HR0 := Aside0.mk hr
  have HC0 := Aside0.mk hc
  have HRO := Aside0.mk hok
  have HMAX := Aside0.mk hm
  have HQ := Aside0.mk (SQ_mono (ok' := fun k => okf k ∧ k < w.heap.size) (SQ_bound hq) (fun k hk => ⟨hk.1, hk.2.2.1⟩))
  have HFL := Aside0.mk (show ∀ k, f.ownBlock = some k → k < w.heap.size from fun k hk => (SQ_ok (SQ_bound hq) k hk).2.2.1)
  have HFB := Aside0.mk (show ∀ k, f.ownBlock = some k → k ≠ b from fun k hk => hbf k (SQ_ok hq k hk))
  have HBS := Aside0.mk hbase
  have HFN := Aside0.mk hfl
  obtain ⟨d1, d2, d3, d4, d5⟩ := dec_body hnb
  rw [hn] at d1 d4
  have HHB := Aside0.mk d3
  have HE := Aside0.mk d5
  have hkn : kn ≤ 1000000 := by omega
  have hwr := wordAt_range R hok 2 (by omega)
  have HX2 := Aside0.mk (show wordAt R 2 = (kn : Int) by omega)
  clear hwr d2
  obtain ⟨q, hq'⟩ : ∃ q : Nat, q = kn + 14 := ⟨_, rfl⟩
  rw [← hq'] at HE
  have hopen : opens R = true := by
    cases ho : opens R with
    | true => rfl
    | false => exfalso; unfold dec at hnb; rw [if_neg (by omega), if_pos ho] at hnb; cases hnb
  have HOP := Aside0.mk hopen
  clear hopen hnb d3 d5
  obtain ⟨ad, hA, hx0⟩ := Kd.at_int HR0.out 0 (by omega) (by omega)
  subst hA
  rw [show ((0 : Int)).toNat = 0 from rfl, Addr.add_zero'] at hx0
  obtain ⟨ad', hA, hx1⟩ := Kd.at_int HR0.out 1 (by omega) (by omega)
  cases hA
  simp only [show (1 : Int).toNat = 1 from rfl, Nat.reduceMul, Nat.reduceEqDiff, Go.Addr.add, ↓reduceIte] at hx1
  have hb01 : rd R 0 = 197 ∧ rd R 1 = 58 := by
    have hopen := HOP.out
    unfold opens at hopen
    rw [HRL.out, decide_eq_false (show ¬ n < 2 by omega)] at hopen
    simpa using hopen
  rw [hb01.1] at hx0
  rw [hb01.2] at hx1
  have HHX := Aside0.mk hx0
  have HHY := Aside0.mk hx1
  clear hb01 hx0 hx1 HOP
  have hql : q ≤ R.length := by omega
  have HQL := Aside0.mk (show (R.take q).length = q by rw [List.length_take]; omega)
  have HQO := Aside0.mk (bytesOk_take HRO.out q)
  have HQC := Aside0.mk (show q ≤ c0 by omega)
  have HQ4 := Aside0.mk (show 14 ≤ q ∧ q ≤ 1000000000 by omega)
  have HQN := Aside0.mk (show q ≤ n by omega)
  have HQX := Aside0.mk (show (kn : Int) + 14 = (q : Int) by omega)
  have HQ' := Aside0.mk hq'
  have wn : wrap64 ((kn : Int) + 14) = (kn : Int) + 14 := by unfold wrap64; omega
  have HP := Aside0.mk (show ((R.take q).drop 10).take (q - 14) = (R.drop 10).take kn by
    exact body_cut R kn q hq')
  have h10 : 10 ≤ n := by omega
  have h14 : ¬ ((n : Int) < (kn : Int) + 14) := by omega
  obtain ⟨hcutt, hCt⟩ := cutt8 (A := some ad) (n := n) (c := c0) (xs := R) q HQN.out HC0.out
  rw [← HQX.out] at hcutt
  obtain ⟨p, hp⟩ : ∃ p, p = (R.drop 10).take kn := ⟨_, rfl⟩
  rw [← hp]
  have HP1 := Aside0.mk (show ((R.take q).drop 10).take (q - 14) = p by rw [hp]; exact HP.out)
  have HPL := Aside0.mk (show p.length ≤ 1000000 by rw [hp, List.length_take]; omega)
  clear hp HP
  obtain ⟨fs1, hfs1⟩ : ∃ l, fs ++ [p] = l := ⟨_, rfl⟩
  rw [hfs1]
  have HF1 := Aside0.mk hfs1
  clear hfs1
  have HCt := Aside0.mk hCt
  have hx0 := HHX.out
  have hx1 := HHY.out
  clear hr hc hok hn hq hbase hfl hbf d1 d4 hq' hm hCt hql HHX HHY
  go_enter Try.func61, Try.ntmps61
  go_wp2_with fail
  refine (head_N (some ad) c0 n R (kn : Int) true _ HRL.out HR0.out HC0.out HRO.out h10 (by have := HMAX.out; omega) HX2.out HHB.out).mono ?_
  rintro e1 w1 ⟨rfl, hd⟩
  have hcell1 := pw_cell_below hd hcell
  have hfz1 : w1.frozen? ⟨b, 1, none⟩ = false := (hd.frozen (World.block_lt_of_cell? w _ hcell)).trans hfz
  have HR1 := Aside0.mk (Kd.C_below HR0.out hd)
  have HB1 := Aside0.mk hd
  have HQ1 := Aside0.mk (SQ_step HQ.out (fun k _ hk => hd.block k hk))
  clear hd hcell hfz HR0 HQ
  go_wp2_with fail
  refine (ends_N (some ad) c0 q (R.take q) true _ HQL.out (HCt.out _ HR1.out) HQC.out HQO.out (by have := HQ4.out; omega) HQ4.out.2 HE.out).mono ?_
  rintro e2 w2 ⟨rfl, hd⟩
  have hcell2 := pw_cell_below hd hcell1
  have hfz2 : w2.frozen? ⟨b, 1, none⟩ = false := (hd.frozen (World.block_lt_of_cell? w1 _ hcell1)).trans hfz1
  have HR2 := Aside0.mk (Kd.C_below HR1.out hd)
  have HB2 := Aside0.mk (below_step HB1.out hd)
  have HQ2 := Aside0.mk (SQ_step HQ1.out (fun k _ hk => hd.block k hk))
  clear hd hcell1 hfz1 HR1 HQ1 HB1
  go_wp2_with fail
  have HQ3 := Aside0.mk (SQ_step (w1 := w2.drew) HQ2.out (fun k _ hk => (below_drew1 (Below.refl _ w2)).block k hk))
  have HR3 := Aside0.mk (Kd.C_drew HR2.out)
  have HB3 := Aside0.mk (below_drew1 HB2.out)
  have hcell3 : w2.drew.cell? ⟨b, 1, none⟩ = some f := by rw [World.cell?_drew]; exact hcell2
  have hfz3 : w2.drew.frozen? ⟨b, 1, none⟩ = false := hfz2
  refine start_ (n := 15) (S := fun w' => w'.cell? ⟨b, 1, none⟩ = some f) (ds := [14]) #[false, false, false, false, false, false, false, false, false, false, false, false, false, false, false] (by kernel_rfl) rfl rfl (hcell3) (fun hHeld => ?_)
  refine with_tabW rg61.tab11 rg61.bits11 (fun HT_ HW_ => ?_)
  refine pure_ (i := 0) (N := some 54) (v := ?_) (a' := ?_) #[true, false, false, false, false, false, false, false, false, false, false, false, false, false, false] rfl rfl (any_of HT_.out (by kernel_rfl)) (fun _ _ _ h => h) (Or.inl ⟨by rfl, ?_⟩) ?_ ?_
  rotate_left
  · intro w'
    go_simp
    with_reducible rfl
  rotate_left
  · simp only [Act.put, List.setIfInBounds_toArray, List.set_cons_zero, List.set_cons_succ, i64_w, i32_w]
    rfl
  refine pure_ (i := 1) (N := some 55) (v := ?_) (a' := ?_) #[true, true, false, false, false, false, false, false, false, false, false, false, false, false, false] rfl rfl (any_of HT_.out (by kernel_rfl)) (fun _ _ _ h => h) (Or.inl ⟨by rfl, ?_⟩) ?_ ?_
  rotate_left
  · intro w'
    go_simp
    with_reducible rfl
  rotate_left
  · simp only [Act.put, List.setIfInBounds_toArray, List.set_cons_zero, List.set_cons_succ, i64_w, i32_w]
    rfl
  refine pure_ (i := 2) (N := some 56) (v := ?_) (a' := ?_) #[true, true, true, false, false, false, false, false, false, false, false, false, false, false, false] rfl rfl (any_of HT_.out (by kernel_rfl)) (fun _ _ _ h => h) (Or.inl ⟨by rfl, ?_⟩) ?_ ?_
  rotate_left
  · intro w'
    go_simp
    with_reducible rfl
  rotate_left
  · simp only [Act.put, List.setIfInBounds_toArray, List.set_cons_zero, List.set_cons_succ, i64_w, i32_w]
    rfl
  refine pure_ (i := 3) (N := some 57) (v := ?_) (a' := ?_) #[true, true, true, true, false, false, false, false, false, false, false, false, false, false, false] rfl rfl (any_of HT_.out (by kernel_rfl)) (fun _ _ _ h => h) (Or.inl ⟨by rfl, ?_⟩) ?_ ?_
  rotate_left
  · intro w'
    go_simp
    with_reducible rfl
  rotate_left
  · simp only [Act.put, List.setIfInBounds_toArray, List.set_cons_zero, List.set_cons_succ, i64_w, i32_w]
    rfl
  refine pure_ (i := 5) (N := some 59) (v := ?_) (a' := ?_) #[true, true, true, true, false, true, false, false, false, false, false, false, false, false, false] rfl rfl (any_of HT_.out (by kernel_rfl)) (fun _ _ _ h => h) (Or.inl ⟨by rfl, ?_⟩) ?_ ?_
  rotate_left
  · intro w'
    go_simp
    with_reducible rfl
  rotate_left
  · simp only [Act.put, List.setIfInBounds_toArray, List.set_cons_zero, List.set_cons_succ, i64_w, i32_w]
    rfl
  refine pure_ (i := 6) (N := some 60) (v := ?_) (a' := ?_) #[true, true, true, true, false, true, true, false, false, false, false, false, false, false, false] rfl rfl (any_of HT_.out (by kernel_rfl)) (fun _ _ _ h => h) (Or.inl ⟨by rfl, ?_⟩) ?_ ?_
  rotate_left
  · intro w'
    go_simp
    with_reducible rfl
  rotate_left
  · simp only [Act.put, List.setIfInBounds_toArray, List.set_cons_zero, List.set_cons_succ, i64_w, i32_w]
    rfl
  refine pure_ (i := 7) (N := some 61) (v := ?_) (a' := ?_) #[true, true, true, true, false, true, true, true, false, false, false, false, false, false, false] rfl rfl (any_of HT_.out (by kernel_rfl)) (fun _ _ _ h => h) (Or.inl ⟨by rfl, ?_⟩) ?_ ?_
  rotate_left
  · intro w'
    go_simp
    with_reducible rfl
  rotate_left
  · simp only [Act.put, List.setIfInBounds_toArray, List.set_cons_zero, List.set_cons_succ, i64_w, i32_w]
    rfl
  refine pure_ (i := 8) (N := some 62) (v := ?_) (a' := ?_) #[true, true, true, true, false, true, true, true, true, false, false, false, false, false, false] rfl rfl (any_of HT_.out (by kernel_rfl)) (fun _ _ _ h => h) (Or.inl ⟨by rfl, ?_⟩) ?_ ?_
  rotate_left
  · intro w'
    go_simp
    with_reducible rfl
  rotate_left
  · simp only [Act.put, List.setIfInBounds_toArray, List.set_cons_zero, List.set_cons_succ, i64_w, i32_w]
    rfl
  refine take_ (i := 4) (N := some 58) (v := ?_) (a' := ?_) #[true, true, true, true, true, true, true, true, true, false, false, false, false, false, false] rfl rfl (take_ofW HT_.out HW_.out (by kernel_rfl)) (fun _ _ _ h => h) (Or.inl ⟨by rfl, ?_⟩) hHeld ?_ ?_
  rotate_left
  · intro w' s0
    go_simp
    with_reducible rfl
  rotate_left
  · simp only [Act.put, List.setIfInBounds_toArray, List.set_cons_zero, List.set_cons_succ, i64_w, i32_w]
    rfl
  refine one_ (i := 9) (N := some 63) #[true, true, true, true, true, true, true, true, true, true, false, false, false, false, false] rfl rfl (one_of HT_.out (by kernel_rfl)) (by decide) (fun K hK => ?_)
  refine goes_ Try.func58 (by kernel_rfl) rfl #[.slice (some ad) q c0] (by rfl) rfl rfl (by simp only [List.map_toArray, List.map_cons, List.map_nil]; rfl) ?_
  with_reducible refine (body_N (some ad) c0 q (R.take q) p _ HQL.out (HCt.out _ HR3.out) HQC.out HQ4.out.1 HQ4.out.2 HP1.out).mono ?_
  rintro e w3 ⟨v3, rfl, hrow, hbl⟩
  refine ⟨_, rfl, ?_⟩
  have hcell4 := pw_cell_below hbl hcell3
  have hfz4 : w3.frozen? ⟨b, 1, none⟩ = false := (hbl.frozen (World.block_lt_of_cell? w2.drew _ hcell3)).trans hfz3
  obtain ⟨A3, c3, rfl⟩ := Kd.R_slice hrow
  have HB4 := Aside0.mk (below_step HB3.out hbl)
  have hnew4 : ∀ k, (Value.slice A3 p.length c3).ownBlock = some k → w.heap.size ≤ k := fun k hk => Nat.le_trans HB3.out.size (Kd.R_base hrow k hk)
  have HNW := Aside0.mk hnew4
  have HQ4' := Aside0.mk (show SQ (Kd.slice 5 (Kd.int .u8)) 22 w3 base (fun k => (okf k ∨ w.heap.size ≤ k) ∧ ¬ (some k = (Value.slice A3 p.length c3).ownBlock)) f fs from
    SQ_step (SQ_mono HQ3.out (fun k hk => ⟨.inl hk.1, fun e => by have := hnew4 k e.symm; have := hk.2; omega⟩)) (fun k _ hk => hbl.block k hk))
  have HNF := Aside0.mk (show ∀ k, some k = (Value.slice A3 p.length c3).ownBlock → (okf k ∨ w.heap.size ≤ k) ∧ some k ≠ f.ownBlock from fun k hk => ⟨.inr (hnew4 k hk.symm), fun e => by
    have h1 := hnew4 k hk.symm
    have h2 := HFL.out k e.symm
    omega⟩)
  have HPR := Aside0.mk (show R8 w3 base (.slice A3 p.length c3) p from Kd.R_lower hrow (Nat.le_trans HBS.out HB3.out.size))
  clear hrow hnew4 hbl
  refine hK.out _ _ (hcell4) (fun hHeld => ?_)
  clear hK K
  refine norm_ (a' := ?_) ?_ ?_
  rotate_left
  · show Act.put _ (some 63) _ = _
    simp only [Act.put, List.setIfInBounds_toArray, List.set_cons_zero, List.set_cons_succ, i64_w, i32_w]
    rfl
  refine one_ (i := 10) (N := some 64) #[true, true, true, true, true, true, true, true, true, true, true, false, false, false, false] rfl rfl (one_of HT_.out (by kernel_rfl)) (by decide) (fun K hK => ?_)
  refine value_ (w1 := ?_) (v := ?_) (by rfl) rfl ?_ ?_
  rotate_left 2
  · go_simp
    constructor
    · rfl
    · rfl
  have hcell5 : (w3.alloc (.cells #[.slice A3 p.length c3] 22)).cell? ⟨b, 1, none⟩ = some f := pw_cell_below (below_alloc (Below.refl _ _) _) hcell4
  refine hK.out _ _ (hcell5) (fun hHeld => ?_)
  clear hK K
  refine norm_ (a' := ?_) ?_ ?_
  rotate_left
  · show Act.put _ (some 64) _ = _
    simp only [Act.put, List.setIfInBounds_toArray, List.set_cons_zero, List.set_cons_succ, i64_w, i32_w]
    rfl
  refine one_ (i := 11) (N := some 65) #[true, true, true, true, true, true, true, true, true, true, true, true, false, false, false] rfl rfl (one_of HT_.out (by kernel_rfl)) (by decide) (fun K hK => ?_)
  refine SQ_append_step (Kd.slice 5 (Kd.int .u8)) (w0 := w) base (by rfl) (.tmp 58) (.tmp 64) 37 22 (.slice none 0 0) 24 rfl Try.underlying37 info22 rfl (by decide) (by omega) f fs p [.slice A3 p.length c3] (fun k => okf k ∨ w.heap.size ≤ k) (fun k => some k = (Value.slice A3 p.length c3).ownBlock) rfl rfl
    (Kd.M_row (R8_ok' HPR.out (fun k_ h => h.symm))) HNF.out (fun k hk => .inr (Nat.le_trans HB4.out.size hk)) HQ4'.out (HB4.out.mono HBS.out) (Nat.le_trans HBS.out HB4.out.size) (by have := HFN.out; omega) ?_
  intro v6 w6 ho6 hb6 hg6 hat6
  rw [HF1.out] at ho6
  obtain ⟨A6, c6, rfl, hl6⟩ := SQ_slice ho6
  have hcell6 : w6.cell? ⟨b, 1, none⟩ = some f := hg6.cell hcell4 (fun e => HFB.out b e.symm rfl)
  have hfz6 : w6.frozen? ⟨b, 1, none⟩ = false := by
    rw [hg6.frozen_far ⟨b, 1, none⟩ (World.block_lt_of_cell? w3 _ hcell4) (fun e => HFB.out b e.symm rfl)]
    exact hfz4
  have HO6 := Aside0.mk ho6
  have HG6 := Aside0.mk ((grown_below HB4.out f.ownBlock).trans hg6)
  clear ho6 hb6 hg6 hat6
  refine hK.out _ _ (hcell6) (fun hHeld => ?_)
  clear hK K
  refine norm_ (a' := ?_) ?_ ?_
  rotate_left
  · show Act.put _ (some 65) _ = _
    simp only [Act.put, List.setIfInBounds_toArray, List.set_cons_zero, List.set_cons_succ, i64_w, i32_w]
    rfl
  refine pure_ (i := 12) (N := some 66) (v := ?_) (a' := ?_) #[true, true, true, true, true, true, true, true, true, true, true, true, true, false, false] rfl rfl (any_of HT_.out (by kernel_rfl)) (fun _ _ _ h => h) (Or.inl ⟨by rfl, ?_⟩) ?_ ?_
  rotate_left
  · intro w'
    go_simp
    with_reducible rfl
  rotate_left
  · simp only [Act.put, List.setIfInBounds_toArray, List.set_cons_zero, List.set_cons_succ, i64_w, i32_w]
    rfl
  refine pure_ (i := 13) (N := some 67) (v := ?_) (a' := ?_) #[true, true, true, true, true, true, true, true, true, true, true, true, true, true, false] rfl rfl (any_of HT_.out (by kernel_rfl)) (fun _ _ _ h => h) (Or.inl ⟨by rfl, ?_⟩) ?_ ?_
  rotate_left
  · intro w'
    go_simp
    with_reducible rfl
  rotate_left
  · simp only [Act.put, List.setIfInBounds_toArray, List.set_cons_zero, List.set_cons_succ, i64_w, i32_w]
    rfl
  refine last_ (i := 14) (N := none) #[true, true, true, true, true, true, true, true, true, true, true, true, true, true, true] rfl rfl (one_of HT_.out (by kernel_rfl)) (by decide) (fun K hK => ?_)
  refine skip_ (w1 := ?_) (by rfl) rfl ?_ ?_
  rotate_left
  · go_simp
    rfl
  refine hK.out _ _ ?_
  clear hK K
  refine done_ (done_of HT_.out (by kernel_rfl)) ?_
  go_wp2
  go_ret
  exact ⟨by first | rfl | simp, _, w6, rfl, HO6.out, HG6.out⟩
end Go.Proofs.Ytnanaojjhmpilaa.PW
namespace Go.Proofs.Ytnanaojjhmpilaa.PW
open Go.RowKit Go.Proofs.YtnanaojjhmpilaaW.PrintWords Go.Proofs.YtnanaojjhmpilaaW.PrintLast Go.Proofs.YtnanaojjhmpilaaW.PrintMore
set_option linter.unusedVariables false
set_option linter.unusedSimpArgs false

/-- All but the blocks of S (and what is new) is as it was. -/
structure Frm (w w' : World) (S : Nat → Prop) : Prop where
  os : w'.os = w.os
  tape : w'.tape = w.tape
  output : w'.output = w.output
  size : w.heap.size ≤ w'.heap.size
  block : ∀ k, k < w.heap.size → ¬ S k → w'.heap[k]? = w.heap[k]?
section
variable {w w1 w2 : World} {S S1 S2 : Nat → Prop}
theorem Frm.refl (w : World) (S : Nat → Prop) : Frm w w S := ⟨rfl, rfl, rfl, Nat.le_refl _, fun _ _ _ => rfl⟩
theorem Frm.mono (h : Frm w w1 S) (hs : ∀ k, S k → k < w.heap.size → S1 k) : Frm w w1 S1 := ⟨h.os, h.tape, h.output, h.size, fun k hk hn => h.block k hk (fun hS => hn (hs k hS hk))⟩
theorem Frm.then_ (h : Frm w w1 S) (k : Frm w1 w2 S1) (hs : ∀ k, S1 k → k < w.heap.size → S k) : Frm w w2 S :=
  ⟨k.os.trans h.os, k.tape.trans h.tape, k.output.trans h.output, Nat.le_trans h.size k.size, fun i hi hn => (k.block i (Nat.lt_of_lt_of_le hi h.size) (fun h1 => hn (hs i h1 hi))).trans (h.block i hi hn)⟩
theorem Frm.of_below (h : Below w.heap.size w w1) (S : Nat → Prop) : Frm w w1 S := ⟨h.os, h.tape, h.output, h.size, fun k hk _ => h.block k hk⟩
theorem Frm.of_grown {row : Option Nat} (h : w.grownBy w1 row) (hs : ∀ k, row = some k → S k) : Frm w w1 S := ⟨h.os, h.tape, h.output, h.size, fun k hk hn => h.block k hk (fun e => hn (hs k e.symm))⟩
theorem Frm.set_ (h : Frm w w1 S) {p : Addr} (hp : S p.block ∨ w.heap.size ≤ p.block) (u : Value) : Frm w (w1.setCell p u) S :=
  ⟨h.os, h.tape, h.output, by simpa [World.setCell] using h.size, fun k hk hn => (Below.heap_setCell w1 p u k (fun e => hp.elim (fun h2 => hn (e ▸ h2)) (fun h2 => by omega))).trans (h.block k hk hn)⟩
theorem Frm.below {B : Nat} (h : Frm w w1 S) (hs : ∀ k, S k → k < w.heap.size → B ≤ k) (hB : B ≤ w.heap.size) : Below B w w1 := ⟨h.os, h.tape, h.output, h.size, fun k hk => h.block k (by omega) (fun h2 => by have := hs k h2 (by omega); omega)⟩
theorem Frm.drew (h : Frm w w1 S) : Frm w w1.drew S := ⟨h.os, h.tape, h.output, h.size, h.block⟩
theorem Frm.alloc (h : Frm w w1 S) (o : Obj) : Frm w (w1.alloc o) S := h.then_ (Frm.of_below (below_alloc (Below.refl _ _) o) (fun _ => False)) (fun _ hk => hk.elim)
theorem Frm.step (h : Frm w w1 S) (k : Below w1.heap.size w1 w2) : Frm w w2 S := h.then_ (Frm.of_below k (fun _ => False)) (fun _ hk => hk.elim)
theorem Frm.blk {g : Nat} {o : Obj} (h : Frm w w1 S) (hb : w.heap[g]? = some o) (hn : ¬ S g) : w1.heap[g]? = some o := (h.block g (blk_lt hb) hn).trans hb
end
section
variable {α : Type} {d : Kd α} {e base : Nat} {ok S : Nat → Prop} {w w1 : World} {v : Value} {xs : List α}
theorem R_frm (h : d.R e w base ok v xs) (hf : Frm w w1 S) (hn : ∀ k, ok k → ¬ S k) : d.R e w1 base ok v xs := Kd.R_step h (fun k hk hlt => hf.block k hlt (hn k hk))
theorem SQ_frm (h : SQ d e w base ok v xs) (hf : Frm w w1 S) (hn : ∀ k, ok k → ¬ S k) : SQ d e w1 base ok v xs := SQ_step h (fun k hk hlt => hf.block k hlt (hn k hk))
end
/-- A stream in block b: the undecided bytes, the bodies that nobody asked for, how many bytes were skipped. -/
def Strm (w : World) (base : Nat) (ok : Nat → Prop) (b : Nat) (op : List Int) (fs : List (List Int)) (sk : Nat) : Prop :=
  base ≤ b ∧ ok b ∧ ∃ vo vf okf, w.heap[b]? = some (.cells #[vo, vf, .int .i64 (sk : Int)] 53 (0, 0)) ∧ Kd.R (Kd.int .u8) 5 w base (fun k => ok k ∧ k ≠ b ∧ ¬ okf k) vo op ∧
    SQ (Kd.slice 5 (Kd.int .u8)) 22 w base okf vf fs ∧ ∀ k, okf k → ok k ∧ k ≠ b
section
variable {w w1 : World} {base b sk : Nat} {ok ok' S : Nat → Prop} {op : List Int} {fs : List (List Int)}
theorem Strm_mono (h : Strm w base ok b op fs sk) (hok : ∀ k, ok k → ok' k) : Strm w base ok' b op fs sk := by
  obtain ⟨h1, h2, vo, vf, okf, h3, h4, h5, h6⟩ := h
  exact ⟨h1, hok b h2, vo, vf, okf, h3, Kd.R_mono h4 (fun k hk => ⟨hok k hk.1, hk.2⟩), h5, fun k hk => ⟨hok k (h6 k hk).1, (h6 k hk).2⟩⟩
theorem Strm_bound (h : Strm w base ok b op fs sk) : Strm w base (fun k => ok k ∧ base ≤ k ∧ k < w.heap.size) b op fs sk := by
  obtain ⟨h1, h2, vo, vf, okf, h3, h4, h5, h6⟩ := h
  exact ⟨h1, ⟨h2, h1, blk_lt h3⟩, vo, vf, _, h3, Kd.R_mono (Kd.R_bound h4) (fun k hk => ⟨⟨hk.1.1, hk.2.1, hk.2.2.1⟩, hk.1.2.1, fun h7 => hk.1.2.2 h7.1⟩), SQ_bound h5, fun k hk => ⟨⟨(h6 k hk.1).1, hk.2.1, hk.2.2.1⟩, (h6 k hk.1).2⟩⟩
theorem Strm_step (h : Strm w base ok b op fs sk) (hm : ∀ k, ok k → k < w.heap.size → w1.heap[k]? = w.heap[k]?) : Strm w1 base ok b op fs sk := by
  obtain ⟨h1, h2, vo, vf, okf, h3, h4, h5, h6⟩ := h
  exact ⟨h1, h2, vo, vf, okf, (hm b h2 (blk_lt h3)).trans h3, Kd.R_step h4 (fun k hk => hm k hk.1), SQ_step h5 (fun k hk => hm k (h6 k hk).1), h6⟩
theorem Strm_frm (h : Strm w base ok b op fs sk) (hf : Frm w w1 S) (hn : ∀ k, ok k → ¬ S k) : Strm w1 base ok b op fs sk := Strm_step h (fun k hk hlt => hf.block k hlt (hn k hk))
theorem Strm_below (h : Strm w base ok b op fs sk) (hf : Below w.heap.size w w1) : Strm w1 base ok b op fs sk := Strm_step h (fun k hk hlt => hf.block k hlt)
end
/-- How far what is decided goes, what comes of it. -/
def adv : Dec → Nat
  | .wait => 0
  | .skip => 1
  | .body k => k + 14
def bodOf (R : List Int) : Dec → List (List Int)
  | .body k => [(R.drop 10).take k]
  | _ => []
def skOf : Dec → Nat
  | .skip => 1
  | _ => 0
theorem told_adv {l : List Int} {k : Nat} {B : List (List Int)} {sk : Nat} (h : Told l k B sk) {D : Dec} (hd : dec (l.drop k) = D) : Told l (k + adv D) (B ++ bodOf (l.drop k) D) (sk + skOf D) := by
  cases D with
  | wait => simpa [adv, bodOf, skOf] using h
  | skip => simpa [adv, bodOf, skOf] using told_skip h hd
  | body n => simpa [adv, bodOf, skOf, Nat.add_assoc] using told_body h hd
theorem adv_le {R : List Int} {D : Dec} (hd : dec R = D) : adv D ≤ R.length := by
  cases D with
  | wait => simp [adv]
  | skip => have := dec_skip hd; simp only [adv]; omega
  | body n => simpa [adv] using (dec_body hd).1
theorem adv_pos {D : Dec} (h : D ≠ .wait) : 0 < adv D := by
  cases D with
  | wait => exact absurd rfl h
  | skip => simp [adv]
  | body n => simp [adv]
theorem bodOf_le (R : List Int) (D : Dec) : (bodOf R D).length + skOf D ≤ adv D := by
  cases D <;> simp [bodOf, skOf, adv]

/-- decide of bytes R: the stream's block holds vo, vf, sk. -/
theorem decide_S (b base : Nat) (vo vf : Value) (A0 : Option Addr) (c0 n sk : Nat) (R : List Int) (fs : List (List Int)) (okf : Nat → Prop) (w : World) (hn : R.length = n) (hr : C8 w A0 n R) (hc : n ≤ c0) (hok : bytesOk R = true) (hm : n ≤ 1000000) (hsk : sk ≤ 1000000000)
    (hb : w.heap[b]? = some (.cells #[vo, vf, .int .i64 (sk : Int)] 53 (0, 0))) (hq : SQ (Kd.slice 5 (Kd.int .u8)) 22 w base okf vf fs) (hfl : fs.length ≤ 1000000) (hbase : base ≤ w.heap.size) (hbf : ∀ k, okf k → k ≠ b) {D : Dec} (hD : dec R = D) :
    Calls Try.prog 61 #[.pointer (some ⟨b, 0, none⟩), .slice A0 n c0] w fun e w' => e = .returned (.int .i64 ((adv D : Nat) : Int)) ∧ ∃ vf1,
      w'.heap[b]? = some (.cells #[vo, vf1, .int .i64 ((sk + skOf D : Nat) : Int)] 53 (0, 0)) ∧ SQ (Kd.slice 5 (Kd.int .u8)) 22 w' base (fun k => okf k ∨ w.heap.size ≤ k) vf1 (fs ++ bodOf R D) ∧ Frm w w' (fun k => k = b ∨ okf k) := by
  have hlt := blk_lt hb
  by_cases hnb : ∀ k, dec R ≠ .body k
  · refine (decide_rest b A0 c0 n sk R w hn hr hc hok hm hsk (blk_cell hb 2) (blk_frozen hb 2) hnb).mono ?_
    rintro e w' (⟨h1, rfl, h3⟩ | ⟨h1, rfl, w1, h3, rfl⟩)
    · obtain rfl : Dec.wait = D := h1.symm.trans hD
      refine ⟨rfl, vf, (h3.block b hlt).trans hb, ?_, Frm.of_below h3 _⟩
      simp only [bodOf, List.append_nil]
      exact SQ_mono (SQ_step hq (fun k _ hk => h3.block k hk)) (fun k hk => .inl hk)
    · obtain rfl : Dec.skip = D := h1.symm.trans hD
      have hb1 := (h3.block b hlt).trans hb
      refine ⟨rfl, vf, by simpa [skOf] using blk_set hb1 2 (.int .i64 ((sk + 1 : Nat) : Int)), ?_, (Frm.of_below h3 _).set_ (.inl (.inl rfl)) _⟩
      simp only [bodOf, List.append_nil]
      exact SQ_mono (SQ_step (SQ_step hq (fun k _ hk => h3.block k hk)) (fun k hk _ => Below.heap_setCell w1 _ _ k (hbf k hk))) (fun k hk => .inl hk)
  · obtain ⟨kn, hk⟩ : ∃ kn, dec R = .body kn := Classical.byContradiction fun h => hnb fun k hk => h ⟨k, hk⟩
    obtain rfl : Dec.body kn = D := hk.symm.trans hD
    refine (decide_body b base vf A0 c0 n kn R fs okf w hn hr hc hok hm (blk_cell hb 1) (blk_frozen hb 1) hq hfl hbase hbf hk).mono ?_
    rintro e w' ⟨rfl, f1, w1, rfl, hq1, hg⟩
    have hb1 := blk_grown hb hg (fun e => hbf b (SQ_ok hq b e.symm) rfl)
    refine ⟨rfl, f1, by simpa [skOf] using blk_set hb1 1 f1, ?_, (Frm.of_grown hg (fun k hk => .inr (SQ_ok hq k hk))).set_ (.inl (.inl rfl)) _⟩
    exact SQ_step hq1 (fun k hk _ => Below.heap_setCell w1 _ _ k (fun e => hk.elim (fun h => hbf k h e) (fun h => by simp only at e; omega)))
/-- copy(d, s) of bytes: its run. -/
theorem copy8_run {W : World} (w0 : World) (base : Nat) (ty : TypeId) {v : Value} {A : Option Addr} {m c : Nat} {xs ys : List Int} (HO : R8 W base v xs) (HR : C8 W A m ys) (HB : Below base w0 W) :
    ∃ w1, (Builtin.copy_ #[22, 22] ty #[v, .slice A m c]).run Try.prog W = .ok (goInt (min m xs.length : Nat)) w1 ∧ R8 w1 base v (ys.take xs.length ++ xs.drop m) ∧ Below base w0 w1 ∧ W.grownBy w1 v.ownBlock := by
  have hO := R8_own HO
  have hR := Kd.reads_of_C (enc := Value.int .u8) (d := (0 : Int)) (h1 := fun _ => rfl) HR
  obtain ⟨hl, hmax, hcell⟩ := hR
  obtain ⟨h1, h2⟩ := hO
  rcases h2 with ⟨rfl, hn⟩ | ⟨g, cap, cur, rfl, hg, hh, hnc, hcap, hsz, hcur⟩
  · obtain rfl : xs = [] := List.eq_nil_of_length_eq_zero hn
    exact ⟨W, by simpa using run_copy_none (P := Try.prog) W 22 22 ty 5 none A 0 0 m c Try.underlying22 info5_size (by simp), by simpa using HO, HB, ⟨rfl, rfl, rfl, Nat.le_refl _, fun _ _ _ => rfl⟩⟩
  · have hlen : ((encs (Value.int .u8) ys).take (min m xs.length)).length = min m xs.length := by rw [List.length_take, encs_length]; omega
    have hcur2 : cur.toList.take xs.length = encs (Value.int .u8) xs := by simpa using hcur
    have e2 : encs (Value.int .u8) (ys.take xs.length ++ xs.drop m) = (encs (Value.int .u8) ys).take xs.length ++ (encs (Value.int .u8) xs).drop m := by simp [encs, List.map_take, List.map_drop]
    have l1 : (encs (Value.int .u8) ys).length = m := by rw [encs_length]; exact hl
    by_cases h0 : min m xs.length = 0
    · have e3 : ys.take xs.length ++ xs.drop m = xs := by
        rcases Nat.eq_zero_or_pos m with h | h
        · subst h; obtain rfl := List.eq_nil_of_length_eq_zero hl; simp
        · obtain rfl : xs = [] := List.eq_nil_of_length_eq_zero (by omega); simp
      refine ⟨W, ?_, by rw [e3]; exact HO, HB, ⟨rfl, rfl, rfl, Nat.le_refl _, fun _ _ _ => rfl⟩⟩
      rw [h0]
      exact run_copy_none (P := Try.prog) W 22 22 ty 5 _ A xs.length cap m c Try.underlying22 info5_size h0
    · obtain ⟨ad, rfl, hc⟩ := hcell (by omega)
      have hrow : (cur.toList.take 0 ++ (encs (Value.int .u8) ys).take (min m xs.length) ++ cur.toList.drop (0 + ((encs (Value.int .u8) ys).take (min m xs.length)).length)).toArray.size = cap * 1 := by
        simp [l1]; omega
      have hrun := run_copy_row (P := Try.prog) W 22 22 ty 5 g 0 xs.length cap ad m c cur 5 ((encs (Value.int .u8) ys).take (min m xs.length)) Try.underlying22 info5_size hh (by rw [hlen]) (by
        intro j u hu
        obtain ⟨hj, hju⟩ := List.getElem?_eq_some_iff.1 hu
        rw [hlen] at hj
        rw [hc j (by omega), ← hju]
        have : j < ys.length := by omega
        simp [encs, this]) (by rw [hlen]; omega) (by
        intro u hu
        have hu' := List.mem_of_mem_take hu
        simp only [encs, List.mem_map] at hu'
        obtain ⟨z, _, rfl⟩ := hu'
        rfl)
      have hset := setRow_heap W g cur (cur.toList.take 0 ++ (encs (Value.int .u8) ys).take (min m xs.length) ++ cur.toList.drop (0 + ((encs (Value.int .u8) ys).take (min m xs.length)).length)).toArray 5 (0, 0) hh
      rw [hlen] at hset hrun
      refine ⟨_, hrun, own_R8 ⟨by simp [encs_length], .inr ⟨g, cap, _, ?_, hg, hset, by simp; omega, hcap, by rw [hlen] at hrow; exact hrow, ?_⟩⟩, below_setRow HB hg _, ⟨rfl, rfl, rfl, by simp [World.setRow], fun k hk hne => setRow_other W g k _ (fun e => hne (by rw [← e]; rfl))⟩⟩
      · congr 1; simp; omega
      · have e1 : (ys.take xs.length ++ xs.drop m).length = xs.length := by simp; omega
        rw [e1, e2, ← hcur2]
        apply List.ext_getElem?
        intro j
        simp only [List.take_zero, List.nil_append, Nat.zero_add, Nat.mul_one, List.getElem?_take, List.getElem?_append, List.getElem?_drop, List.length_take, l1]
        by_cases hj : j < xs.length
        · rw [if_pos hj]
          by_cases hj2 : j < m
          · rw [if_pos (by omega), if_pos (by omega), if_pos (by omega), if_pos (by omega)]
          · rw [if_neg (by omega), if_neg (by omega), if_pos (by omega)]
            congr 1; omega
        · rw [if_neg hj, if_neg (by omega), if_neg (by omega)]
/-- .. as a step of a region that draws its order. -/
theorem copy8_step {ops : Array Oper} {o : Oper} {a : Act} {Q : Exit → Act → World → Prop} {K : Act → World → Prop} {N : Option Tmp} {W : World} (w0 : World) (base : Nat) (hw : Region.wanted o (yielded ops a.tmps) = true) (hN : o.dst = N) (d s : Operand) (ho : o.op = .call { callee := .builtin .copy, args := #[d, s], argTypes := #[22, 22] })
    {v : Value} {A : Option Addr} {m c : Nat} {xs ys : List Int} (hd : a.eval d = v) (hs : a.eval s = .slice A m c) (HO : R8 W base v xs) (HR : C8 W A m ys)
    (HB : Below base w0 W)
    (h : ∀ w1, R8 w1 base v (ys.take xs.length ++ xs.drop m) → Below base w0 w1 → W.grownBy w1 v.ownBlock → K (a.put N (goInt (min m xs.length : Nat))) w1) :
    if Region.wanted o (yielded ops a.tmps) = true then Oper.wp Try.prog o a W K Q else K (a.put N undef) W := by
  obtain ⟨w1, hrun, h1, h2, h3⟩ := copy8_run w0 base o.type HO HR HB
  refine value_ hw hN ?_ (h w1 h1 h2 h3)
  have hrun2 : Sem.run Try.prog (Builtin.copy_ #[22, 22] o.type #[v, Value.slice A m c]) W = Result.ok (goInt ↑(min m xs.length)) w1 := hrun
  simp [execOp, ho, resolve, invoke, builtin, hd, hs, hrun2, Result.andThen]
end Go.Proofs.Ytnanaojjhmpilaa.PW
namespace Go.Proofs.Ytnanaojjhmpilaa.PW
open Go.RowKit Go.Proofs.YtnanaojjhmpilaaW.PrintWords Go.Proofs.YtnanaojjhmpilaaW.PrintLast Go.Proofs.YtnanaojjhmpilaaW.PrintMore
set_option linter.unusedVariables false
set_option linter.unusedSimpArgs false

theorem scan_left_adv (l : List Int) (k : Nat) {D : Dec} (hd : dec (l.drop k) = D) : (scan (l.drop (k + adv D))).2.2 = (scan (l.drop k)).2.2 := by
  cases D with
  | wait => rfl
  | skip => rw [scan_skip hd, List.drop_drop]; rfl
  | body n =>
    rw [scan_body hd]
    simp only [adv, List.drop_drop]
theorem below_of_grown {w w1 : World} {row : Option Nat} {B : Nat} (hg : w.grownBy w1 row) (hB : B ≤ w.heap.size) (h : ∀ k, row = some k → B ≤ k) : Below B w w1 := (Below.refl B w).grown hg hB h
theorem copied {l : List Int} {k m : Nat} (hm : m = l.length - k) : ((l.drop k).take l.length ++ l.drop m).take m = l.drop k := by
  have h1 : (l.drop k).take l.length = l.drop k := List.take_of_length_le (by rw [List.length_drop]; omega)
  rw [h1, List.take_append_of_le_length (by rw [List.length_drop]; omega), List.take_of_length_le (by rw [List.length_drop]; omega)]

theorem own_len (A : Option Addr) (n m c c' : Nat) : (Value.slice A n c).ownBlock = (Value.slice A m c').ownBlock := by cases A <;> rfl
theorem strm_adv {wr w3 : World} {base b sk1 : Nat} {ok okf2 : Nat → Prop} {vo vf3 : Value} {l : List Int} {fs1 : List (List Int)} (hbb : base ≤ b) (hob : ok b) (hb : b < wr.heap.size) (hro : Kd.R (Kd.int .u8) 5 wr base (fun k => ok k ∧ k ≠ b ∧ ¬ okf2 k) vo l)
    (hof : ∀ k, okf2 k → ok k ∧ k ≠ b) (hfresh : ∀ k, wr.heap.size ≤ k → ok k) (hb4 : w3.heap[b]? = some (.cells #[vo, vf3, .int .i64 (sk1 : Int)] 53 (0, 0))) (hq4 : SQ (Kd.slice 5 (Kd.int .u8)) 22 w3 base (fun k => okf2 k ∨ wr.heap.size ≤ k) vf3 fs1) (hf4 : Frm wr w3 (fun k => k = b ∨ okf2 k)) : Strm w3 base ok b l fs1 sk1 :=
  ⟨hbb, hob, vo, vf3, _, hb4, Kd.R_mono (R_frm (Kd.R_bound hro) hf4 (fun k hk h2 => h2.elim hk.1.2.1 hk.1.2.2)) (fun k hk => ⟨hk.1.1, hk.1.2.1, fun h2 => h2.elim hk.1.2.2 (fun h3 => by have := hk.2.2.1; omega)⟩), hq4,
    fun k hk => hk.elim (hof k) (fun h2 => ⟨hfresh k h2, by omega⟩)⟩

def rg39.T6 : Bool × List (List Nat × List Nat) := (true, [([], []), ([0], [0]), ([1], [1]), ([2], [2]), ([], []), ([4], [4]), ([5], [5]), ([6], [6]), ([], []), ([7, 8], [7, 8]), ([3, 9], [3, 9]), ([10, 10, 0, 1, 2, 3, 4, 5, 6, 7, 8, 9, 10], [10])])
def rg39.B6 : List Nat := [0, 1, 3, 7, 0, 16, 48, 112, 0, 496, 1023, 2047]
theorem rg39.tab6 : rtab .any (opsOf Try.f39 6) = rg39.T6 := by kernel_rfl
theorem rg39.bits6 : waitsOk rg39.T6.2 rg39.B6 = true := by kernel_rfl
set_option maxHeartbeats 16000000 in
set_option maxRecDepth 100000 in
theorem feed_M (b base : Nat) (ok : Nat → Prop) (A0 : Option Addr) (c0 n sk : Nat) (X op l : List Int) (fs : List (List Int)) (w : World) (hn : X.length = n) (hr : C8 w A0 n X) (hc : n ≤ c0) (hok : bytesOk l = true)
    (hS : Strm w base ok b op fs sk) (hbase : base ≤ w.heap.size) (hl : op ++ X = l) (hm : l.length ≤ 1000000) (hfl : fs.length + l.length ≤ 1000000) (hsk : sk + l.length ≤ 1000000000) :
    Calls Try.prog 39 #[.pointer (some ⟨b, 0, none⟩), .slice A0 n c0] w fun e w' => (∃ v, e = .returned v) ∧ Strm w' base (fun k => ok k ∨ w.heap.size ≤ k) b (scan l).2.2 (fs ++ (scan l).1) (sk + (scan l).2.1) ∧ Frm w w' ok := by
  have HN := Aside0.mk hn
  have HR0 := Aside0.mk hr
  have HC0 := Aside0.mk hc
  have HOK := Aside0.mk hok
  have HMX := Aside0.mk (And.intro hm (And.intro hfl hsk))
  have HBS := Aside0.mk hbase
  have HL := Aside0.mk hl
  obtain ⟨hb0, hob, vo, vf, okf, hb, hro, hq, hof⟩ := hS
  have HOF := Aside0.mk hof
  have HOB := Aside0.mk hob
  have HBB := Aside0.mk hb0
  have HRO := Aside0.mk hro
  have HQ := Aside0.mk hq
  have HB := Aside0.mk hb
  have hcell0 := blk_cell hb 0
  simp only [List.getElem?_toArray, List.getElem?_cons_zero] at hcell0
  obtain ⟨Ao, co, rfl, hlo, hro'⟩ := Kd.R_reads hro
  have hlen : op.length + n ≤ 1000000 := by rw [← hl, List.length_append, hn] at hm; exact hm
  have HLN := Aside0.mk hlen
  clear hn hr hc hok hm hfl hsk hbase hl hob hof hro hq hro' hlo hlen hb0 hb
  go_enter Try.func39, Try.ntmps39
  go_wp2_with (with_reducible refine stop_append rfl ?_)
  refine app8 (v := .slice Ao op.length co) w base rfl (.tmp 13) (.tmp 14) rfl rfl rfl (Kd.R_mono HRO.out (fun _ _ => trivial)) HR0.out (Below.refl _ _) HBS.out (by have := HLN.out; omega) ?_
  intro v1 w1 ho1 hb1 hg1 hat1
  rw [HL.out] at ho1
  have hbw := blk_lt HB.out
  have hb2 := blk_grown HB.out hg1 (fun e => (HRO.out.1 b e.symm).2.1 rfl)
  have HRL := Aside0.mk (show ∀ k, v1.ownBlock = some k → (ok k ∨ w.heap.size ≤ k) ∧ k ≠ b ∧ ¬ (okf k ∧ k < w.heap.size) from fun k hk => by
    rcases hat1 with h | ⟨b', h, h2⟩
    · have := HRO.out.1 k (h ▸ hk)
      exact ⟨.inl this.1, this.2.1, fun h3 => this.2.2 h3.1⟩
    · have : b' = k := by rw [hk] at h; exact (Option.some.inj h).symm
      subst this
      exact ⟨.inr h2, by omega, fun h3 => by omega⟩)
  have HO1 := Aside0.mk (R8_ok' ho1 HRL.out)
  have HQ1 := Aside0.mk (show SQ (Kd.slice 5 (Kd.int .u8)) 22 w1 base (fun k => okf k ∧ k < w.heap.size) vf fs from
    SQ_mono (SQ_frm (SQ_bound HQ.out) (Frm.of_grown (S := fun k => (Value.slice Ao op.length co).ownBlock = some k) hg1 (fun k hk => hk)) (fun k hk h2 => (HRO.out.1 k h2).2.2 hk.1)) (fun k hk => ⟨hk.1, hk.2.2.1⟩))
  have HF1 := Aside0.mk (show Frm w w1 ok from Frm.of_grown hg1 (fun k hk => (HRO.out.1 k hk).1))
  have HB2 := Aside0.mk hb2
  have hcell1 := blk_cell hb2 0
  have hfz1 := blk_frozen hb2 0
  simp only [List.getElem?_toArray, List.getElem?_cons_zero] at hcell1
  obtain ⟨A1, c1, rfl, _⟩ := Kd.R_reads ho1
  clear ho1 hb1 hg1 hat1 hb2 hcell0
  go_wp2
  obtain ⟨W1, hW1⟩ : ∃ W : World, W = w1.setCell ⟨b, 0, none⟩ (.slice A1 l.length c1) := ⟨_, rfl⟩
  rw [← hW1]
  have HFR := Aside0.mk (show Frm w W1 ok by rw [hW1]; exact HF1.out.set_ (.inl HOB.out) _)
  have HST := Aside0.mk (show Strm W1 base (fun k => ok k ∨ w.heap.size ≤ k) b l fs sk by
    rw [hW1]
    refine ⟨HBB.out, .inl HOB.out, _, vf, (fun k => okf k ∧ k < w.heap.size), by simpa using blk_set HB2.out 0 (.slice A1 l.length c1), Kd.R_far HO1.out (fun k hk => hk.2.1) _, SQ_step HQ1.out (fun k hk _ => Below.heap_setCell w1 _ _ k (HOF.out k hk.1).2), fun k hk => ⟨.inl (HOF.out k hk.1).1, (HOF.out k hk.1).2⟩⟩)
  clear hW1 hcell1 hfz1
  go_loopw [4] (fun v4 wr => ∃ (k : Nat) (B : List (List Int)) (s : Nat), k ≤ l.length ∧ v4 = .int .i64 (k : Int) ∧ B.length + s ≤ k ∧ Aside0 (Told l k B s ∧ (scan (l.drop k)).2.2 = (scan l).2.2) ∧ Aside0 (Strm wr base (fun k => ok k ∨ w.heap.size ≤ k) b l (fs ++ B) (sk + s)) ∧ Aside0 (Frm w wr ok)) (fun v4 _ => l.length - (intOf v4).toNat)
  case atStart => exact ⟨0, [], 0, Nat.zero_le _, rfl, by simp, ⟨told_zero l, by simp⟩, ⟨by simpa using HST.out⟩, HFR⟩
  case round =>
    obtain ⟨k, B, s, hk, rfl, hBs, HT, HS, HF⟩ := hrel
    obtain ⟨_, _, vo2, vf2, okf2, hb3, hro3, hq3, hof3⟩ := HS.out
    obtain ⟨A2, c2, rfl, hlc2, hrd2⟩ := Kd.R_reads hro3
    have HRO3 := Aside0.mk hro3
    have HQ3 := Aside0.mk hq3
    have HOF3 := Aside0.mk hof3
    have HB3 := Aside0.mk hb3
    have HC2 := Aside0.mk hrd2
    have hcell3 := blk_cell hb3 0
    have hfz3 := blk_frozen hb3 0
    simp only [List.getElem?_toArray, List.getElem?_cons_zero] at hcell3
    have HLC := Aside0.mk hlc2
    obtain ⟨D, hD⟩ : ∃ D, dec (l.drop k) = D := ⟨_, rfl⟩
    have HD := Aside0.mk hD
    have hmx := HMX.out.1
    have hkl : (k : Int) ≤ (l.length : Int) := by omega
    clear hro3 hq3 hof3 hb3 hrd2 hD
    go_wp2_with (with_reducible refine stop_slice rfl ?_)
    refine from8 rfl _ _ rfl rfl rfl (by omega) (by omega) HLC.out HC2.out ?_
    intro A7 hr7
    rw [Int.toNat_natCast] at hr7 ⊢
    obtain ⟨m, hm⟩ : ∃ m, m = l.length - k := ⟨_, rfl⟩
    obtain ⟨c7, hc7⟩ : ∃ c, c = c2 - k := ⟨_, rfl⟩
    obtain ⟨q, hq⟩ : ∃ q, q = adv D := ⟨_, rfl⟩
    obtain ⟨R, hR⟩ : ∃ R, R = l.drop k := ⟨_, rfl⟩
    rw [← hR, ← hm] at hr7
    rw [← hm, ← hc7]
    have HR7 := Aside0.mk hr7
    have HMK := Aside0.mk hm
    have HRK := Aside0.mk hR
    have HQA := Aside0.mk hq
    have hqm : q ≤ m := by
      have h1 := adv_le HD.out
      rw [List.length_drop] at h1
      omega
    have hkm : k + m = l.length := by omega
    have hRL : R.length = m := by rw [hR, List.length_drop]; exact hm.symm
    have hRO : bytesOk R = true := by rw [hR]; exact bytesOk_drop HOK.out k
    have hRD : dec R = D := by rw [hR]; exact HD.out
    have HSQ := Aside0.mk (decide_S (D := D) b base (.slice A2 l.length c2) vf2 A7 c7 m (sk + s) R (fs ++ B) okf2 wr hRL hr7 (by omega) hRO (by omega) (by have := HMX.out; omega)
      HB3.out HQ3.out (by have := HMX.out; rw [List.length_append]; omega) (Nat.le_trans HBS.out HF.out.size) (fun k hk => (HOF3.out k hk).2) hRD)
    have HRO := Aside0.mk hRL
    clear hr7 hm hc7 hR hRL hRO hRD
    by_cases hw : D = .wait
    · have kq : ((q : Int) == 0) = true := by rw [hq, hw]; rfl
      have HW := Aside0.mk hw
      clear hq hw
      go_wp2_with fail
      refine HSQ.out.mono ?_
      rintro e w3 ⟨rfl, vf3, hb4, hq4, hf4⟩
      rw [← HQA.out]
      have hS4 := strm_adv HBB.out (.inl HOB.out) (blk_lt HB3.out) HRO3.out HOF3.out (fun k hk => .inr (Nat.le_trans HF.out.size hk)) hb4 hq4 hf4
      obtain ⟨ht1, ht2⟩ := told_wait HT.out.1 (HD.out.trans HW.out)
      have ht3 := HT.out.2
      rw [scan_wait (HD.out.trans HW.out)] at ht3
      rw [HW.out, ht1, ht2] at hS4
      simp only [bodOf, skOf, List.append_nil, Nat.add_zero] at hS4
      obtain ⟨_, _, vo4, vf4, okf4, hb5, hro5, hq5, hof5⟩ := hS4
      obtain ⟨A4, c4, rfl, hlc4, hrd4⟩ := Kd.R_reads hro5
      have HF5 := Aside0.mk (show Frm w w3 ok from HF.out.then_ hf4 (fun k hk hlt => hk.elim (fun e => e ▸ HOB.out) (fun h => (HOF3.out k h).1.elim (fun h => h) (fun h => by omega))))
      have hcell5 := blk_cell hb5 0
      have hfz5 := blk_frozen hb5 0
      simp only [List.getElem?_toArray, List.getElem?_cons_zero] at hcell5
      have HTX := Aside0.mk ht3
      have HB5 := Aside0.mk hb5
      have HRO5 := Aside0.mk hro5
      have HQ5 := Aside0.mk hq5
      have HOF5 := Aside0.mk hof5
      obtain ⟨A6, hcutf, hCf'⟩ := cutf8 (A := A4) (n := l.length) (c := c4) (xs := l) k (by omega) hlc4
      rw [show l.length - k = m by omega] at hcutf hCf'
      have HC5 := Aside0.mk (hCf' w3.drew (Kd.C_drew hrd4))
      clear hb4 hq4 hf4 ht1 ht2 ht3 hb5 hro5 hq5 hof5 hrd4 hCf' HSQ HT HS HF HRO3 HQ3 HOF3 HB3 HC2
      have hcell6 : w3.drew.cell? ⟨b, 0, none⟩ = some (.slice A4 l.length c4) := by rw [World.cell?_drew]; exact hcell5
      have HO6 := Aside0.mk (show R8 w3.drew base (.slice A4 l.length c4) l from Kd.R_mono (Kd.R_drew HRO5.out) (fun _ _ => trivial))
      have HBD := Aside0.mk (show Below base w3.drew w3.drew from Below.refl _ _)
      have HML := Aside0.mk (show m ≤ l.length by omega)
      go_wp2
      refine start_ (n := 12) (S := fun w' => w'.cell? ⟨b, 0, none⟩ = some (.slice A4 l.length c4)) (ds := []) #[false, false, false, false, false, false, false, false, false, false, false, false] (by kernel_rfl) rfl rfl (hcell6) (fun hHeld => ?_)
      refine with_tabW rg39.tab6 rg39.bits6 (fun HT_ HW_ => ?_)
      refine pure_ (i := 0) (N := some 31) (v := ?_) (a' := ?_) #[true, false, false, false, false, false, false, false, false, false, false, false] rfl rfl (any_of HT_.out (by kernel_rfl)) (fun _ _ _ h => h) (Or.inl ⟨by rfl, ?_⟩) ?_ ?_
      rotate_left
      · intro w'
        go_simp
        with_reducible rfl
      rotate_left
      · simp only [Act.put, List.setIfInBounds_toArray, List.set_cons_zero, List.set_cons_succ, i64_w, i32_w]
        rfl
      refine pure_ (i := 1) (N := some 32) (v := ?_) (a' := ?_) #[true, true, false, false, false, false, false, false, false, false, false, false] rfl rfl (any_of HT_.out (by kernel_rfl)) (fun _ _ _ h => h) (Or.inl ⟨by rfl, ?_⟩) ?_ ?_
      rotate_left
      · intro w'
        go_simp
        with_reducible rfl
      rotate_left
      · simp only [Act.put, List.setIfInBounds_toArray, List.set_cons_zero, List.set_cons_succ, i64_w, i32_w]
        rfl
      refine pure_ (i := 2) (N := some 33) (v := ?_) (a' := ?_) #[true, true, true, false, false, false, false, false, false, false, false, false] rfl rfl (any_of HT_.out (by kernel_rfl)) (fun _ _ _ h => h) (Or.inl ⟨by rfl, ?_⟩) ?_ ?_
      rotate_left
      · intro w'
        go_simp
        with_reducible rfl
      rotate_left
      · simp only [Act.put, List.setIfInBounds_toArray, List.set_cons_zero, List.set_cons_succ, i64_w, i32_w]
        rfl
      refine pure_ (i := 4) (N := some 35) (v := ?_) (a' := ?_) #[true, true, true, false, true, false, false, false, false, false, false, false] rfl rfl (any_of HT_.out (by kernel_rfl)) (fun _ _ _ h => h) (Or.inl ⟨by rfl, ?_⟩) ?_ ?_
      rotate_left
      · intro w'
        go_simp
        with_reducible rfl
      rotate_left
      · simp only [Act.put, List.setIfInBounds_toArray, List.set_cons_zero, List.set_cons_succ, i64_w, i32_w]
        rfl
      refine pure_ (i := 5) (N := some 36) (v := ?_) (a' := ?_) #[true, true, true, false, true, true, false, false, false, false, false, false] rfl rfl (any_of HT_.out (by kernel_rfl)) (fun _ _ _ h => h) (Or.inl ⟨by rfl, ?_⟩) ?_ ?_
      rotate_left
      · intro w'
        go_simp
        with_reducible rfl
      rotate_left
      · simp only [Act.put, List.setIfInBounds_toArray, List.set_cons_zero, List.set_cons_succ, i64_w, i32_w]
        rfl
      refine pure_ (i := 6) (N := some 37) (v := ?_) (a' := ?_) #[true, true, true, false, true, true, true, false, false, false, false, false] rfl rfl (any_of HT_.out (by kernel_rfl)) (fun _ _ _ h => h) (Or.inl ⟨by rfl, ?_⟩) ?_ ?_
      rotate_left
      · intro w'
        go_simp
        with_reducible rfl
      rotate_left
      · simp only [Act.put, List.setIfInBounds_toArray, List.set_cons_zero, List.set_cons_succ, i64_w, i32_w]
        rfl
      refine pure_ (i := 8) (N := some 39) (v := ?_) (a' := ?_) #[true, true, true, false, true, true, true, false, true, false, false, false] rfl rfl (any_of HT_.out (by kernel_rfl)) (fun _ _ _ h => h) (Or.inl ⟨by rfl, ?_⟩) ?_ ?_
      rotate_left
      · intro w'
        go_simp
        with_reducible rfl
      rotate_left
      · simp only [Act.put, List.setIfInBounds_toArray, List.set_cons_zero, List.set_cons_succ, i64_w, i32_w]
        rfl
      refine take_ (i := 3) (N := some 34) (v := ?_) (a' := ?_) #[true, true, true, true, true, true, true, false, true, false, false, false] rfl rfl (take_ofW HT_.out HW_.out (by kernel_rfl)) (fun _ _ _ h => h) (Or.inl ⟨by rfl, ?_⟩) hHeld ?_ ?_
      rotate_left
      · intro w' s0
        go_simp
        with_reducible rfl
      rotate_left
      · simp only [Act.put, List.setIfInBounds_toArray, List.set_cons_zero, List.set_cons_succ, i64_w, i32_w]
        rfl
      refine take_ (i := 7) (N := some 38) (v := ?_) (a' := ?_) #[true, true, true, true, true, true, true, true, true, false, false, false] rfl rfl (take_ofW HT_.out HW_.out (by kernel_rfl)) (fun _ _ _ h => h) (Or.inl ⟨by rfl, ?_⟩) hHeld ?_ ?_
      rotate_left
      · intro w' s0
        go_simp
        with_reducible rfl
      rotate_left
      · simp only [Act.put, List.setIfInBounds_toArray, List.set_cons_zero, List.set_cons_succ, i64_w, i32_w]
        rfl
      refine pure_ (i := 9) (N := some 40) (v := ?_) (a' := ?_) #[true, true, true, true, true, true, true, true, true, true, false, false] rfl rfl (any_of HT_.out (by kernel_rfl)) (fun _ _ _ h => h) (Or.inl ⟨by rfl, ?_⟩) ?_ ?_
      rotate_left
      · intro w'
        go_simp
        with_reducible rfl
      rotate_left
      · simp only [Act.put, List.setIfInBounds_toArray, List.set_cons_zero, List.set_cons_succ, i64_w, i32_w]
        rfl
      refine one_ (i := 10) (N := some 41) #[true, true, true, true, true, true, true, true, true, true, true, false] rfl rfl (one_of HT_.out (by kernel_rfl)) (by decide) (fun K hK => ?_)
      refine copy8_step w3.drew base (by rfl) rfl (.tmp 34) (.tmp 40) rfl rfl rfl HO6.out HC5.out HBD.out ?_
      intro w5 ho5 hb5 hg5
      rw [Nat.min_eq_left HML.out]
      have hcell7 : w5.cell? ⟨b, 0, none⟩ = some (.slice A4 l.length c4) := hg5.cell hcell6 (fun e => (HRO5.out.1 b e.symm).2.1 rfl)
      have HO7 := Aside0.mk ho5
      have HG7 := Aside0.mk hg5
      clear ho5 hb5 hg5
      refine hK.out _ _ (hcell7) (fun hHeld => ?_)
      clear hK K
      refine norm_ (a' := ?_) ?_ ?_
      rotate_left
      · show Act.put _ (some 41) _ = _
        simp only [Act.put, List.setIfInBounds_toArray, List.set_cons_zero, List.set_cons_succ, i64_w, i32_w]
        rfl
      refine pure_ (i := 11) (N := some 6) (v := ?_) (a' := ?_) #[true, true, true, true, true, true, true, true, true, true, true, true] rfl rfl (any_of HT_.out (by kernel_rfl)) (fun _ _ _ h => h) (Or.inl ⟨by rfl, ?_⟩) ?_ ?_
      rotate_left
      · intro w'
        go_simp
        with_reducible rfl
      rotate_left
      · simp only [Act.put, List.setIfInBounds_toArray, List.set_cons_zero, List.set_cons_succ, i64_w, i32_w]
        rfl
      refine done_ (done_of HT_.out (by kernel_rfl)) ?_
      have hne7 : ∀ k_, (Value.slice A4 l.length c4).ownBlock = some k_ → k_ ≠ b := fun k_ hk_ => (HRO5.out.1 k_ hk_).2.1
      have hb7 : w5.heap[b]? = some (.cells #[.slice A4 l.length c4, vf4, .int .i64 ((sk + (scan l).2.1 : Nat) : Int)] 53 (0, 0)) := blk_grown (w := w3.drew) HB5.out HG7.out (fun e => hne7 b e.symm rfl)
      have hcell8 := blk_cell hb7 0
      have hfz8 := blk_frozen hb7 0
      simp only [List.getElem?_toArray, List.getElem?_cons_zero] at hcell8
      have HB7 := Aside0.mk hb7
      have HNE := Aside0.mk hne7
      have HMC := Aside0.mk (show m ≤ c4 by omega)
      have HKM := Aside0.mk (show m = l.length - k by omega)
      clear hb7 hne7 hcell5 hfz5 hcell6
      go_wp2_with (with_reducible refine stop_slice rfl ?_)
      refine to8 rfl _ _ rfl rfl rfl (by omega) (by have := HMC.out; omega) ?_
      rw [Int.toNat_natCast]
      go_wp2
      go_end0
      refine ⟨⟨_, rfl⟩, ?_, ?_⟩
      · have hr9 := Kd.R_take HO7.out (m := m) (by rw [List.length_append, List.length_take, List.length_drop, List.length_drop]; omega)
        rw [copied HKM.out, show l.drop k = (scan l).2.2 from HTX.out] at hr9
        refine ⟨HBB.out, .inl HOB.out, .slice A4 m c4, vf4, okf4, by simpa using blk_set HB7.out 0 (.slice A4 m c4), Kd.R_far (R8_ok' hr9 (fun k_ hk_ => HRO5.out.1 k_ ((own_len A4 l.length m c4 c4).trans hk_))) (fun k_ hk_ => hk_.2.1) _, ?_, HOF5.out⟩
        exact SQ_step (SQ_frm (w := w3) (w1 := w5) (S := fun k_ => (Value.slice A4 l.length c4).ownBlock = some k_) HQ5.out (Frm.of_grown (w := w3) ⟨HG7.out.os, HG7.out.tape, HG7.out.output, HG7.out.size, HG7.out.block⟩ (fun k_ hk_ => hk_)) (fun k_ hk_ h2 => (HRO5.out.1 k_ h2).2.2 hk_)) (fun k_ hk_ _ => Below.heap_setCell w5 _ _ k_ (HOF5.out k_ hk_).2)
      · refine Frm.set_ (HF5.out.then_ (w1 := w3) (S1 := fun k_ => (Value.slice A4 l.length c4).ownBlock = some k_) (Frm.of_grown (w := w3) ⟨HG7.out.os, HG7.out.tape, HG7.out.output, HG7.out.size, HG7.out.block⟩ (fun k_ hk_ => hk_)) (fun k_ hk_ hlt => (HRO5.out.1 k_ hk_).1.elim (fun h => h) (fun h => by omega))) (.inl HOB.out) _
    · have hq0 : 0 < q := by rw [hq]; exact adv_pos hw
      have kq : ((q : Int) == 0) = false := by simp; omega
      clear hq hw
      go_wp2_with fail
      refine HSQ.out.mono ?_
      rintro e w3 ⟨rfl, vf3, hb4, hq4, hf4⟩
      rw [← HQA.out]
      go_wp2
      go_roundw
      case rel =>
        refine ⟨k + q, B ++ bodOf R D, s + skOf D, by omega, by go_num, ?_, ?_, ⟨?_⟩, ⟨?_⟩⟩
        · have := bodOf_le R D
          have := HQA.out
          rw [List.length_append]
          omega
        · rw [HQA.out, HRK.out]
          exact ⟨told_adv HT.out.1 HD.out, (scan_left_adv l k HD.out).trans HT.out.2⟩
        · rw [← List.append_assoc, ← Nat.add_assoc]
          exact strm_adv HBB.out (.inl HOB.out) (blk_lt HB3.out) HRO3.out HOF3.out (fun k hk => .inr (Nat.le_trans HF.out.size hk)) hb4 hq4 hf4
        · exact HF.out.then_ hf4 (fun k hk hlt => hk.elim (fun e => e ▸ HOB.out) (fun h => (HOF3.out k h).1.elim (fun h => h) (fun h => by omega)))
      case measure => simp [intOf]; omega
end Go.Proofs.Ytnanaojjhmpilaa.PW
namespace Go.Proofs.Ytnanaojjhmpilaa.PW
open Go.RowKit Go.Proofs.YtnanaojjhmpilaaW.PrintWords Go.Proofs.YtnanaojjhmpilaaW.PrintLast Go.Proofs.YtnanaojjhmpilaaW.PrintMore
set_option linter.unusedVariables false
set_option linter.unusedSimpArgs false

/-- The stream in block b: its bodies can be counted, and the first one taken: Jp of it then. -/
def Pops (b : Nat) (Jp : Value → World → Prop) (W : World) : Prop :=
  ∃ vo A n c sk, W.heap[b]? = some (.cells #[vo, .slice A n c, sk] 53 (0, 0)) ∧ n ≤ c ∧ (0 < n → ∃ ad Ax nx cx, A = some ad ∧ W.cell? ad = some (.slice Ax nx cx) ∧
    Jp (.slice Ax nx cx) (W.setCell ⟨b, 1, none⟩ (.slice (if c = 1 then A else A.map (·.add 1)) (n - 1) (c - 1))))
/-- The stream in block b has no body to hand on. -/
def NoneLeft (b : Nat) (W : World) : Prop := ∃ vo A c sk, W.heap[b]? = some (.cells #[vo, .slice A 0 c, sk] 53 (0, 0))
/-- I speaks of cells, none of them in T, and abides new blocks and the turn of a block from B on that is no cells; what is new, and what it spoke not of, may be barred from then on. -/
def TOwn {σ : Type} (B : Nat) (I : (Nat → Prop) → σ → World → Prop) : Prop :=
  ∀ T s W W' row T', I T s W → W.grownBy W' row → (∀ r, row = some r → B ≤ r ∧ ∃ o : Obj, W.heap[r]? = some o ∧ o.isCells = false) → (∀ k, T' k → T k ∨ (W.heap.size ≤ k ∧ k < W'.heap.size)) → I T' s W'
section
variable {σ : Type} {B B' : Nat} {I : (Nat → Prop) → σ → World → Prop} {T T' : Nat → Prop} {s : σ} {W : World}
theorem TOwn.weak (h : TOwn B I) (hB : B ≤ B') : TOwn B' I := fun T s W W' row T' hs hg hr hT => h T s W W' row T' hs hg (fun r e => ⟨Nat.le_trans hB (hr r e).1, (hr r e).2⟩) hT
theorem TOwn.alloc (h : TOwn B I) (o : Obj) (hs : I T s W) (hT : ∀ k, T' k → T k ∨ k = W.heap.size) : I T' s (W.alloc o) := h T s W _ none T' hs (World.grownBy_alloc W o none) (fun r e => by cases e) (fun k hk => (hT k hk).imp_right (fun e => by rw [World.size_alloc]; omega))
theorem TOwn.drew (h : TOwn B I) (hs : I T s W) : I T s W.drew := h T s W W.drew none T hs ⟨rfl, rfl, rfl, Nat.le_refl _, fun _ _ _ => rfl⟩ (fun r e => by cases e) (fun k hk => .inl hk)
theorem TOwn.less (h : TOwn B I) (hs : I T s W) (hT : ∀ k, T' k → T k) : I T' s W := h T s W W none T' hs ⟨rfl, rfl, rfl, Nat.le_refl _, fun _ _ _ => rfl⟩ (fun r e => by cases e) (fun k hk => .inl (hT k hk))
theorem TOwn.putObj (h : TOwn B I) {l : Nat} {o : Obj} (o' : Obj) (hs : I T s W) (hB : B ≤ l) (hl : W.heap[l]? = some o) (ho : o.isCells = false) : I T s (W.putObj l o') :=
  h T s W _ (some l) T hs (grownBy_putObj' W l o') (fun r e => by cases e; exact ⟨hB, o, hl, ho⟩) (fun k hk => .inl hk)
end
/-- An iterator over the stream in block b: function g, whose captured variable is block Bn. -/
def ItSpec (P : Program) (g Bn b : Nat) (W : World) : Prop :=
  ∀ (σ : Type) (l : Nat) (J : (Nat → Prop) → σ → World → Prop) (Jp : (Nat → Prop) → σ → Value → World → Prop) (Jx : World → Prop) (μ : σ → Nat) (s0 : σ) (T0 : Nat → Prop),
    TOwn W.heap.size J → (∀ x, TOwn W.heap.size (fun T s => Jp T s x)) → OwnFrom W.heap.size (fun (_ : Unit) => Jx) →
    (∀ T s W, J T s W → W.cell? ⟨Bn, 0, none⟩ = some (.pointer (some ⟨b, 0, none⟩))) →
    (∀ T s W, J T s W → Pops b (Jp T s) W) →
    (∀ T s x W1, (∀ k, T0 k → T k) → Jp T s x W1 → YieldAt Fence.wide 0 P l #[x] W1 fun e W' => ((e = .returned (.bool true) ∧ ∃ s', μ s' < μ s ∧ J T s' W') ∨ (e = .returned (.bool false) ∧ Jx W')) ∧ ∀ k, T k → W.heap.size ≤ k → W'.heap[k]? = W1.heap[k]?) →
    J T0 s0 W →
    Calls P g #[.func (.yield l) #[] #[], .pointer (some ⟨Bn, 0, none⟩)] W fun e W' => (∃ v, e = .returned v) ∧ ((∃ s, J T0 s W' ∧ NoneLeft b W') ∨ Jx W')

/-- How the body of a round may be left. -/
def strPost (T : Nat → Prop) (good : World → Prop) (Ix : Code → World → Prop) (W : World) : Exit → Act → World → Prop
  | .normal, _, W' => (∀ k, T k → W'.heap[k]? = W.heap[k]?) ∧ good W'
  | .ret, _, W' => (∀ k, T k → W'.heap[k]? = W.heap[k]?) ∧ Ix .ret W'
  | .exit id, _, W' => (∀ k, T k → W'.heap[k]? = W.heap[k]?) ∧ Ix (.exit id) W'
  | .goto t, _, W' => (∀ k, T k → W'.heap[k]? = W.heap[k]?) ∧ Ix (.goto t) W'
  | .panic _, _, _ => False
  | .outgrown, _, _ => False

theorem OwnFrom.weak {β : Type} {B B' : Nat} {I : β → World → Prop} (h : OwnFrom B I) (hB : B ≤ B') : OwnFrom B' I := fun s W W' row hs hg hr => h s W W' row hs hg (fun r e => ⟨Nat.le_trans hB (hr r e).1, (hr r e).2⟩)
theorem pops_and {b : Nat} {Jp : Value → World → Prop} {W : World} {R : World → Prop} (h : Pops b Jp W) (hR : ∀ v, R (W.setCell ⟨b, 1, none⟩ v)) : Pops b (fun x W' => Jp x W' ∧ R W') W := by
  obtain ⟨vo, A, n, c, sk, h1, h2, h3⟩ := h
  refine ⟨vo, A, n, c, sk, h1, h2, fun h0 => ?_⟩
  obtain ⟨ad, Ax, nx, cx, h4, h5, h6⟩ := h3 h0
  exact ⟨ad, Ax, nx, cx, h4, h5, h6, hR _⟩

variable {P : Program}
/-- The loop over such an iterator, in a frame that is no round. -/
theorem rangeStream {σ : Type} {g : Operand} {ps : Array Tmp} {assign body : Code} {Q : Exit → Act → World → Prop} {a : Act} {w : World} {gf Bn b : Nat}
    (hg : a.eval g = .func (.func gf) #[] #[.pointer (some ⟨Bn, 0, none⟩)]) (eg : ∀ args w, (callFunc gf args).run P w = .ok (.enter gf args) w)
    (hit : ∀ W, ItSpec P gf Bn b W) (hps : ps.size = 1)
    (I : (Nat → Prop) → σ → World → Prop) (Ip : (Nat → Prop) → σ → Value → World → Prop) (Ix : Code → World → Prop) (μ : σ → Nat) (s0 : σ) (T0 : Nat → Prop) (hI : TOwn w.heap.size I) (hIp : ∀ x, TOwn w.heap.size (fun T s => Ip T s x)) (hIx : ∀ c, OwnFrom w.heap.size (fun (_ : Unit) => Ix c)) (h0 : I T0 s0 w)
    (hbox : ∀ T s W, I T s W → W.cell? ⟨Bn, 0, none⟩ = some (.pointer (some ⟨b, 0, none⟩)))
    (hpop : ∀ T s W, I T s W → Pops b (Ip T s) W) (a₁ : Value → Act)
    (hassign : ∀ (l : Nat) (x : Value) (W : World) (K : Act → World → Prop), K (a₁ x) W →
      assign.wpIn (Fence.wide.inRound l) 0 P (Exit.then K (fun _ _ _ => False)) { tmps := (ps.zip #[x]).foldl (fun t (p, v) => t.setIfInBounds p v) a.tmps, defers := [] } W)
    (hbody : ∀ (T : Nat → Prop) (l : Nat) (s : σ) (x : Value) (W : World), (∀ k, T0 k → T k) → T l → w.heap.size ≤ l → (∃ r, W.heap[l]? = some (.loop r)) → Ip T s x W →
      body.wpIn (Fence.wide.inRound l) 0 P (strPost (fun k => T k ∧ w.heap.size ≤ k) (fun W' => ∃ s', μ s' < μ s ∧ I T s' W') Ix W) (a₁ x) W)
    (hdone : ∀ (D : Nat) (s : σ) (W : World), w.heap.size ≤ D → I T0 s W → NoneLeft b W → W.heap[D]? = some (.deferred (some [])) → Q .normal { a with defers := { target := .collected D, args := #[] } :: a.defers } W)
    (hstop : ∀ (D : Nat) (c : Code) (W : World), w.heap.size ≤ D → Ix c W → W.heap[D]? = some (.deferred (some [])) → c.wp P Q { a with defers := { target := .collected D, args := #[] } :: a.defers } W) :
    (Code.rangeFunc g ps assign body).wp P Q a w := by
  refine (wpIn_wide (n := 0)).1 ?_
  refine wpIn_rangeFunc ?_
  intro fn hfn
  show ∃ (l : Nat) (mark : List Deferred) (w₁ : World) (d : Deferred) (w₁' : World) (f : FuncId) (args : Array Value) (w₂ : World),
      (Instr.enterLoop fn a.tmps ps assign body none).run P w = .ok (l, mark) w₁ ∧ _
  obtain ⟨rec, hrec⟩ : ∃ rec : LoopState → Option Code → Loop, rec = fun st pe => { state := st, pending := pe, fn, tmps := a.tmps, params := ps, assign, body, defers := w.heap.size } := ⟨_, rfl⟩
  obtain ⟨W1, hW1⟩ : ∃ W1, (w.alloc (.deferred (some []))).alloc (.loop (rec .ready none)) = W1 := ⟨_, rfl⟩
  have hs1 : W1.heap.size = w.heap.size + 2 := by rw [← hW1]; simp
  have hL1 : W1.heap[w.heap.size + 1]? = some (.loop (rec .ready none)) := by
    rw [← hW1]; have := World.alloc_heap_new (w.alloc (.deferred (some []))) (.loop (rec .ready none)); rwa [World.size_alloc] at this
  have hK1 : W1.heap[w.heap.size]? = some (.deferred (some [])) := by
    rw [← hW1]; exact (Below.heap_alloc _ _ _ (by simp)).trans (World.alloc_heap_new w _)
  obtain ⟨T1, hT1⟩ : ∃ T1 : Nat → Prop, T1 = fun k => T0 k ∨ k = w.heap.size ∨ k = w.heap.size + 1 := ⟨_, rfl⟩
  have hI1 : I T1 s0 W1 := by rw [← hW1, hT1]; exact hI.alloc (T := fun k => T0 k ∨ k = w.heap.size) _ (hI.alloc _ h0 (fun k hk => hk)) (fun k hk => by simp only [World.size_alloc]; rcases hk with h | h | h; exact .inl (.inl h); exact .inl (.inr h); exact .inr h)
  refine ⟨w.heap.size + 1, [{ target := .collected w.heap.size, args := #[] }], W1, { target := .fn (.func gf) #[.pointer (some ⟨Bn, 0, none⟩)], args := #[.func (.yield (w.heap.size + 1)) #[] #[]] }, W1, gf,
    #[.func (.yield (w.heap.size + 1)) #[] #[]] ++ #[.pointer (some ⟨Bn, 0, none⟩)], W1, ?_, ?_, ?_, ?_, fun h => by simp [Fence.wide] at h, ?_⟩
  · rw [← hW1, hrec]; exact run_enterLoop_outer _ _ _ _ _
  · simp only [resolve, hg]
    simp [go_sem]
  · intro f' hf'; trivial
  · simp [invoke, go_sem, eg]
  · have hR : ∀ {A B : World} {row : Option Nat} {k : Nat} {o : Obj}, A.grownBy B row → (∀ r, row = some r → W1.heap.size ≤ r ∧ ∃ o : Obj, A.heap[r]? = some o ∧ o.isCells = false) → k < w.heap.size + 2 → A.heap[k]? = some o → B.heap[k]? = some o :=
      fun hg' hr hk ho => (hg'.block _ (blk_lt ho) (fun e => by have := (hr _ e.symm).1; omega)).trans ho
    have hcell : ∀ {W : World} {k : Nat} {o : Obj} (v : Value), (∃ cs, W.heap[b]? = some (.cells cs 53 (0, 0))) → W.heap[k]? = some o → o.isCells = false → (W.setCell ⟨b, 1, none⟩ v).heap[k]? = some o := by
      rintro W k o v ⟨cs, hb⟩ ho hc
      exact (Below.heap_setCell W _ _ k (fun e => by simp only at e; subst e; rw [ho] at hb; cases hb; cases hc)).trans ho
    refine (callsIn_wide.2 (hit W1 σ (w.heap.size + 1)
      (fun T s W => I T s W ∧ W.heap[w.heap.size + 1]? = some (.loop (rec .ready none)) ∧ W.heap[w.heap.size]? = some (.deferred (some [])))
      (fun T s x W => Ip T s x W ∧ W.heap[w.heap.size + 1]? = some (.loop (rec .ready none)) ∧ W.heap[w.heap.size]? = some (.deferred (some [])))
      (fun W => ∃ c, Ix c W ∧ W.heap[w.heap.size + 1]? = some (.loop (rec .done (some c))) ∧ W.heap[w.heap.size]? = some (.deferred (some []))) μ s0 T1
      (fun T s A B row T' hs hg' hr hT => ⟨TOwn.weak hI (by omega) T s A B row T' hs.1 hg' hr hT, hR hg' hr (by omega) hs.2.1, hR hg' hr (by omega) hs.2.2⟩)
      (fun x T s A B row T' hs hg' hr hT => ⟨TOwn.weak (hIp x) (by omega) T s A B row T' hs.1 hg' hr hT, hR hg' hr (by omega) hs.2.1, hR hg' hr (by omega) hs.2.2⟩)
      (fun s A B row hs hg' hr => by
        obtain ⟨c, hc, hl, hk⟩ := hs
        exact ⟨c, OwnFrom.weak (hIx c) (by omega) () A B row hc hg' hr, hR hg' hr (by omega) hl, hR hg' hr (by omega) hk⟩)
      (fun T s W hs => hbox T s W hs.1)
      (fun T s W hs => by
        have hp := hpop T s W hs.1
        obtain ⟨vo, A, n, c, sk, hb, _⟩ := id hp
        exact pops_and hp (fun v => ⟨hcell v ⟨_, hb⟩ hs.2.1 rfl, hcell v ⟨_, hb⟩ hs.2.2 rfl⟩))
      ?_ ⟨hI1, hL1, hK1⟩)).mono ?_
    · -- ONE ROUND
      rintro T s x W hT0 ⟨hi, hl, hk⟩
      have hTl : T (w.heap.size + 1) := hT0 _ (by rw [hT1]; exact .inr (.inr rfl))
      have hTd : T w.heap.size := hT0 _ (by rw [hT1]; exact .inr (.inl rfl))
      have hTT : ∀ k, T0 k → T k := fun k hk => hT0 k (by rw [hT1]; exact .inl hk)
      have hlt : w.heap.size + 1 < W.heap.size := (Array.getElem?_eq_some_iff.1 hl).1
      have hy := run_yield (P := P) (args := #[x]) hl (by rw [hrec]; simp [hps])
      rw [hrec] at hy
      refine ⟨fn, _, assign, body, hy, roundIn_of_wpIn hfn (hassign _ x W _ ⟨_, run_beginRound hl (by rw [hrec]), ?_⟩)⟩
      have hl2 : (W.putObj (w.heap.size + 1) (.loop { rec .ready none with state := .busy })).heap[w.heap.size + 1]? = some (.loop { rec .ready none with state := .busy }) := World.putObj_heap_same hlt
      have hk2 : (W.putObj (w.heap.size + 1) (.loop { rec .ready none with state := .busy })).heap[w.heap.size]? = some (.deferred (some [])) := (World.putObj_heap_other (by omega)).trans hk
      refine wpIn_mono (hbody T _ s x _ hTT hTl (by omega) ⟨_, hl2⟩ ((hIp x).putObj _ hi (by omega) hl rfl)) ?_
      have fin : ∀ (jump : Option Code) (W3 : World), (∀ k, T k ∧ w.heap.size ≤ k → W3.heap[k]? = (W.putObj (w.heap.size + 1) (.loop { rec .ready none with state := .busy })).heap[k]?) →
          (Instr.endRound (w.heap.size + 1) jump).run P W3 = .ok (.bool jump.isNone) (W3.putObj (w.heap.size + 1) (.loop (rec (if jump.isNone then .ready else .done) jump))) ∧
          W3.heap[w.heap.size + 1]? = some (.loop { rec .ready none with state := .busy }) ∧
          (W3.putObj (w.heap.size + 1) (.loop (rec (if jump.isNone then .ready else .done) jump))).heap[w.heap.size + 1]? = some (.loop (rec (if jump.isNone then .ready else .done) jump)) ∧
          (W3.putObj (w.heap.size + 1) (.loop (rec (if jump.isNone then .ready else .done) jump))).heap[w.heap.size]? = some (.deferred (some [])) ∧
          (∀ k, T k → W1.heap.size ≤ k → (W3.putObj (w.heap.size + 1) (.loop (rec (if jump.isNone then .ready else .done) jump))).heap[k]? = W.heap[k]?) := fun jump W3 hk3 => by
        have hl3 := (hk3 _ ⟨hTl, by omega⟩).trans hl2
        have := run_endRound (P := P) jump hl3
        rw [hrec] at this ⊢
        exact ⟨this, by rw [hrec] at hl3; exact hl3, World.putObj_heap_same (Array.getElem?_eq_some_iff.1 hl3).1, (World.putObj_heap_other (by omega)).trans ((hk3 _ ⟨hTd, Nat.le_refl _⟩).trans hk2), fun k hTk hsz => (World.putObj_heap_other (by omega)).trans ((hk3 k ⟨hTk, by omega⟩).trans (World.putObj_heap_other (by omega)))⟩
      rintro e a3 W3 hp
      cases e with
      | normal =>
        obtain ⟨hk3, s', hm3, hi3⟩ := hp
        obtain ⟨hr, hl3, hl4, hk4, hT4⟩ := fin none W3 hk3
        exact ⟨_, _, hr, .inl ⟨rfl, s', hm3, hI.putObj _ hi3 (by omega) hl3 rfl, hl4, hk4⟩, hT4⟩
      | ret =>
        obtain ⟨hk3, hi3⟩ := hp
        obtain ⟨hr, hl3, hl4, hk4, hT4⟩ := fin (some .ret) W3 hk3
        exact ⟨_, _, hr, .inr ⟨rfl, .ret, (hIx _).putObj (s := ()) _ hi3 (by omega) hl3 rfl, hl4, hk4⟩, hT4⟩
      | exit id =>
        obtain ⟨hk3, hi3⟩ := hp
        obtain ⟨hr, hl3, hl4, hk4, hT4⟩ := fin (some (.exit id)) W3 hk3
        exact ⟨_, _, hr, .inr ⟨rfl, .exit id, (hIx _).putObj (s := ()) _ hi3 (by omega) hl3 rfl, hl4, hk4⟩, hT4⟩
      | goto t =>
        obtain ⟨hk3, hi3⟩ := hp
        obtain ⟨hr, hl3, hl4, hk4, hT4⟩ := fin (some (.goto t)) W3 hk3
        exact ⟨_, _, hr, .inr ⟨rfl, .goto t, (hIx _).putObj (s := ()) _ hi3 (by omega) hl3 rfl, hl4, hk4⟩, hT4⟩
      | panic ch => exact hp.elim
      | outgrown => exact hp.elim
    · -- BEHIND THE ITERATOR
      rintro e W2 ⟨⟨v, rfl⟩, (⟨s, ⟨hi, hl, hk⟩, hn⟩ | ⟨c, hi, hl, hk⟩)⟩
      · refine ⟨none, _, by have := run_endLoop (P := P) hl (by rw [hrec]; simp); rw [hrec] at this; exact this, hdone _ s _ (Nat.le_refl _) (hI.less (hI.putObj _ hi (by omega) hl rfl) (fun k hk => by rw [hT1]; exact .inl hk)) ?_ ((World.putObj_heap_other (by omega)).trans hk)⟩
        obtain ⟨vo, A, c, sk, hb⟩ := hn
        exact ⟨vo, A, c, sk, (World.putObj_heap_other (fun e => by subst e; rw [hl] at hb; cases hb)).trans hb⟩
      · exact ⟨some c, _, by have := run_endLoop (P := P) hl (by rw [hrec]; simp); rw [hrec] at this; exact this, (wpIn_wide (n := 0)).2 (hstop _ c _ (Nat.le_refl _) ((hIx c).putObj (s := ()) _ hi (by omega) hl rfl) ((World.putObj_heap_other (by omega)).trans hk))⟩
end Go.Proofs.Ytnanaojjhmpilaa.PW
namespace Go.Proofs.Ytnanaojjhmpilaa.PW
open Go.RowKit Go.Proofs.YtnanaojjhmpilaaW.PrintWords Go.Proofs.YtnanaojjhmpilaaW.PrintLast Go.Proofs.YtnanaojjhmpilaaW.PrintMore
set_option linter.unusedVariables false
set_option linter.unusedSimpArgs false
attribute [local go_sem] Oper.semAt_some

/-- In a round an operation that is no defer is carried out as everywhere (the wide fence). -/
theorem wpListIn_of {P : Program} {ops : Array Oper} {Q : Exit → Act → World → Prop} {n : Nat} (l₀ : Nat) : ∀ (L : List Oper) (a : Act) (w : World), ¬ LetsOut Q → (∀ o ∈ L, ∀ c, o.op ≠ .defer c) → wpList P ops Q L a w → wpListIn (Fence.wide.inRound l₀) n P ops Q L a w := by
  intro L
  induction L with
  | nil => intro a w _ _ h; exact h
  | cons o L ih =>
    intro a w hno hd h
    have hd' : ∀ o ∈ L, ∀ c, o.op ≠ .defer c := fun o ho => hd o (List.mem_cons_of_mem _ ho)
    unfold wpListIn
    unfold wpList at h
    split
    · rename_i hw
      rw [if_pos hw] at h
      refine ⟨fun _ _ => trivial, ?_⟩
      have hs : o.semAt (Fence.wide.inRound l₀).round a.eval = execOp a.eval o := Oper.semAt_some l₀ _ _ (hd o List.mem_cons_self)
      rw [hs]
      replace h := h.resolve_right (fun h2 => hno h2.2)
      unfold Oper.wp at h
      revert h
      cases hr : (execOp a.eval o).run P w with
      | ok x w' =>
        cases x with
        | value v => intro h; exact ih _ _ hno hd' h
        | skip => intro h; exact ih _ _ hno hd' h
        | defer d => intro h; exact ih _ _ hno hd' h
        | enter f args =>
          intro h
          refine ⟨fun h => by simp [Fence.wide, Fence.inRound] at h, CallsIn.inRound l₀ (callsIn_wide.2 (Calls.mono h ?_))⟩
          rintro (v | c | _) w'' h2
          · exact ih _ _ hno hd' h2
          · exact h2
          · exact h2
        | row r args => intro h; exact ⟨fun h => by simp [Fence.wide, Fence.inRound] at h, fun c cs _ => let ⟨v, w', r, s⟩ := h c cs; ⟨v, w', ih _ _ hno hd' r, stepsIn_wide.2 s⟩⟩
        | _ => intro h; exact h.elim
      | halt e w' =>
        cases e with
        | panic v => intro h; exact h
        | _ => intro h; exact h.elim
    · rename_i hw
      rw [if_neg hw] at h
      exact ⟨fun _ _ => trivial, ih _ _ hno hd' h⟩

/-- One operation that yields a value, under a wide fence. -/
theorem listIn_value {P : Program} {ops : Array Oper} {Q : Exit → Act → World → Prop} {n : Nat} {r : Option Nat} {o : Oper} {rest : List Oper} {a : Act} {W W1 : World} {v : Value} (hgd : o.guard = none) (hnd : ∀ c, o.op ≠ .defer c) (hrun : (execOp a.eval o).run P W = .ok (.value v) W1)
    (h : wpListIn { Fence.wide with round := r } n P ops Q rest (a.put o.dst v) W1) : wpListIn { Fence.wide with round := r } n P ops Q (o :: rest) a W := by
  refine wpListIn_plain hgd fun K hK => ⟨fun _ _ => trivial, ?_⟩
  have hs : o.semAt r a.eval = execOp a.eval o := by
    cases r with
    | none => rfl
    | some l₀ => exact Oper.semAt_some l₀ _ _ hnd
  show o.uponIn _ n P a K Q ((o.semAt r a.eval).run P W)
  rw [hs, hrun]
  exact hK _ _ h
/-- A call of yield, under a wide fence. -/
theorem listIn_yield {P : Program} {ops : Array Oper} {Q : Exit → Act → World → Prop} {r : Option Nat} {o : Oper} {rest : List Oper} {a : Act} {W : World} {R : Ending → World → Prop} {l : Nat} (x y : Operand) (ts : Array TypeId) (hgd : o.guard = none) (ho : o.op = .call { callee := .value x, args := #[y], argTypes := ts })
    (hx : a.eval x = .func (.yield l) #[] #[]) {v : Value} (hy : a.eval y = v) (hY : YieldAt Fence.wide 0 P l #[v] W R)
    (h : ∀ v W', R (.returned v) W' → wpListIn { Fence.wide with round := r } 0 P ops Q rest (a.put o.dst v) W') (hp : ∀ c W', ¬ R (.panicked c) W') (hg : ∀ W', ¬ R .outgrown W') : wpListIn { Fence.wide with round := r } 0 P ops Q (o :: rest) a W := by
  refine wpListIn_plain hgd fun K hK => ⟨fun _ _ => trivial, ?_⟩
  have hs : o.semAt r a.eval = execOp a.eval o := by
    cases r with
    | none => rfl
    | some l₀ => exact Oper.semAt_some l₀ _ _ (by rw [ho]; simp)
  obtain ⟨fn, tmps, assign, body, hrun, hR⟩ := hY
  have hrun2 : (execOp a.eval o).run P W = .ok (.round l fn tmps assign body) W := by
    unfold execOp
    simp [ho, resolve, invoke, hx, hy, Deferred.ofValue, hrun, Sem.run_bind, Result.andThen]
  show o.uponIn _ 0 P a K Q ((o.semAt r a.eval).run P W)
  rw [hs, hrun2]
  refine ⟨fun h => by simp [Fence.wide] at h, RoundIn.mono (F := { Fence.wide with round := r }) hR ?_⟩
  rintro (v | c | _) W' hr
  · exact hK _ _ (h v W' hr)
  · exact (hp _ _ hr).elim
  · exact (hg _ hr).elim

theorem cutf22 {A : Option Addr} {n c : Nat} (hn : 0 < n) : ∃ A', (∀ W : World, (Instr.slice 37 (.slice A n c) (some (.int .i64 1)) none none).run Try.prog W = .ok (.slice A' (n - 1) (c - 1)) W) ∧ A' = if c = 1 then A else A.map (·.add 1) := by
  obtain ⟨i0, hi, hzz⟩ := Option.map_eq_some_iff.1 info22
  simp only [Prod.mk.injEq] at hzz
  have hrun := cut_from (P := Try.prog) 37 22 .i64 Try.underlying37 hi 1 hzz.2.1 A n c 1 (by omega) (by omega)
  exact ⟨_, hrun, rfl⟩
theorem OwnFrom.drew {β : Type} {B : Nat} {I : β → World → Prop} (h : OwnFrom B I) {s : β} {W : World} (hs : I s W) : I s W.drew := h s W W.drew none hs ⟨rfl, rfl, rfl, Nat.le_refl _, fun _ _ _ => rfl⟩ (fun r e => by cases e)

def rg67.T2 : Bool × List (List Nat × List Nat) := (true, [([], []), ([], []), ([1], [1]), ([2], [2]), ([3], [3]), ([4], [4]), ([0, 0, 1, 2, 3, 4, 5], [0]), ([6, 0, 1, 2, 3, 4, 5], [6]), ([7, 5, 0, 1, 2, 3, 4, 5], [5, 7])])
def rg67.B2 : List Nat := [0, 0, 2, 6, 14, 30, 63, 127, 255]
theorem rg67.tab2 : rtab .any (opsOf Try.f67 2) = rg67.T2 := by kernel_rfl
theorem rg67.bits2 : waitsOk rg67.T2.2 rg67.B2 = true := by kernel_rfl
set_option maxHeartbeats 4000000 in
set_option maxRecDepth 100000 in
theorem each1_spec (Bn b : Nat) (W0 : World) : ItSpec Try.prog 67 Bn b W0 := by
  intro σ l J Jp Jx μ s0 T0 hJ hJp hJx hbox hpop hY h0
  have H1 := Aside0.mk hJ
  have H2 := Aside0.mk hbox
  have H3 := Aside0.mk hpop
  have H4 := Aside0.mk hY
  have HZ := Aside0.mk h0
  clear hJ hJp hJx hbox hpop hY h0
  go_enter Try.func67, Try.ntmps67
  go_wp2
  go_loopg [] (μ s0) (fun k wr => ∃ s, μ s = k ∧ Aside0 (J T0 s wr))
  case atStart => exact ⟨s0, rfl, HZ⟩
  case round =>
    obtain ⟨s, hk, HJ⟩ := hrel
    have hJd : J T0 s wr.drew := TOwn.drew H1.out HJ.out
    obtain ⟨vo, A, n, c, sk, hb, hnc, hp⟩ := H3.out T0 s _ hJd
    have hbx : wr.cell? ⟨Bn, 0, none⟩ = some (.pointer (some ⟨b, 0, none⟩)) := H2.out T0 s _ HJ.out
    have hcell : wr.cell? ⟨b, 1, none⟩ = some (.slice A n c) := blk_cell (w := wr) hb 1
    have hfz : wr.frozen? ⟨b, 1, none⟩ = false := blk_frozen (w := wr) hb 1
    have HB := Aside0.mk hb
    have HP := Aside0.mk hp
    have HNC := Aside0.mk hnc
    have HK := Aside0.mk hk
    clear hp hb hJd hnc hk
    by_cases h0 : n = 0
    · subst h0
      go_wp2
      go_end0
      exact ⟨⟨_, rfl⟩, .inl ⟨s, HJ.out, _, _, _, _, HB.out⟩⟩
    · have h0' : 0 < n := by omega
      have h1' : (0 : Int) < (n : Int) := by omega
      obtain ⟨ad, Ax, nx, cx, rfl, hx, hjp⟩ := HP.out h0'
      have hx' : wr.cell? ad = some (.slice Ax nx cx) := hx
      have HX := Aside0.mk hx
      have HJP := Aside0.mk hjp
      obtain ⟨A', hcut, hA'⟩ := cutf22 (A := some ad) (n := n) (c := c) h0'
      have HA := Aside0.mk hA'
      have hbx2 : wr.drew.cell? ⟨Bn, 0, none⟩ = some (.pointer (some ⟨b, 0, none⟩)) := hbx
      have hcell2 : wr.drew.cell? ⟨b, 1, none⟩ = some (.slice (some ad) n c) := hcell
      clear hx hjp hA' h0
      go_wp2
      refine start_ (n := 9) (S := fun w' => w'.cell? ⟨Bn, 0, none⟩ = some (.pointer (some ⟨b, 0, none⟩)) ∧ w'.cell? ⟨b, 1, none⟩ = some (.slice (some ad) n c)) (ds := [8]) #[false, false, false, false, false, false, false, false, false] (by kernel_rfl) rfl rfl ⟨hbx2, hcell2⟩ (fun hHeld => ?_)
      refine with_tabW rg67.tab2 rg67.bits2 (fun HT_ HW_ => ?_)
      refine take_ (i := 0) (N := some 16) (v := ?_) (a' := ?_) #[true, false, false, false, false, false, false, false, false] rfl rfl (take_ofW HT_.out HW_.out (by kernel_rfl)) (fun _ _ _ h => h) (Or.inl ⟨by rfl, ?_⟩) hHeld ?_ ?_
      rotate_left
      · rintro w' ⟨s0, s1⟩
        go_simp
        with_reducible rfl
      rotate_left
      · simp only [Act.put, List.setIfInBounds_toArray, List.set_cons_zero, List.set_cons_succ, i64_w, i32_w]
        rfl
      refine take_ (i := 1) (N := some 17) (v := ?_) (a' := ?_) #[true, true, false, false, false, false, false, false, false] rfl rfl (take_ofW HT_.out HW_.out (by kernel_rfl)) (fun _ _ _ h => h) (Or.inl ⟨by rfl, ?_⟩) hHeld ?_ ?_
      rotate_left
      · rintro w' ⟨s0, s1⟩
        go_simp
        with_reducible rfl
      rotate_left
      · simp only [Act.put, List.setIfInBounds_toArray, List.set_cons_zero, List.set_cons_succ, i64_w, i32_w]
        rfl
      refine pure_ (i := 2) (N := some 18) (v := ?_) (a' := ?_) #[true, true, true, false, false, false, false, false, false] rfl rfl (any_of HT_.out (by kernel_rfl)) (fun _ _ _ h => h) (Or.inl ⟨by rfl, ?_⟩) ?_ ?_
      rotate_left
      · intro w'
        go_simp
        with_reducible rfl
      rotate_left
      · simp only [Act.put, List.setIfInBounds_toArray, List.set_cons_zero, List.set_cons_succ, i64_w, i32_w]
        rfl
      refine pure_ (i := 3) (N := some 19) (v := ?_) (a' := ?_) #[true, true, true, true, false, false, false, false, false] rfl rfl (any_of HT_.out (by kernel_rfl)) (fun _ _ _ h => h) (Or.inl ⟨by rfl, ?_⟩) ?_ ?_
      rotate_left
      · intro w'
        go_simp
        with_reducible rfl
      rotate_left
      · simp only [Act.put, List.setIfInBounds_toArray, List.set_cons_zero, List.set_cons_succ, i64_w, i32_w]
        rfl
      refine take_ (i := 4) (N := some 20) (v := ?_) (a' := ?_) #[true, true, true, true, true, false, false, false, false] rfl rfl (take_ofW HT_.out HW_.out (by kernel_rfl)) (fun _ _ _ h => h) (Or.inl ⟨by rfl, ?_⟩) hHeld ?_ ?_
      rotate_left
      · rintro w' ⟨s0, s1⟩
        go_simp
        with_reducible rfl
      rotate_left
      · simp only [Act.put, List.setIfInBounds_toArray, List.set_cons_zero, List.set_cons_succ, i64_w, i32_w]
        rfl
      refine pure_ (i := 5) (N := some 21) (v := ?_) (a' := ?_) #[true, true, true, true, true, true, false, false, false] rfl rfl (any_of HT_.out (by kernel_rfl)) (fun _ _ _ h => h) (Or.inl ⟨by rfl, ?_⟩) ?_ ?_
      rotate_left
      · intro w'
        go_simp
        with_reducible rfl
      rotate_left
      · simp only [Act.put, List.setIfInBounds_toArray, List.set_cons_zero, List.set_cons_succ, i64_w, i32_w]
        rfl
      refine pure_ (i := 6) (N := some 22) (v := ?_) (a' := ?_) #[true, true, true, true, true, true, true, false, false] rfl rfl (any_of HT_.out (by kernel_rfl)) (fun _ _ _ h => h) (Or.inl ⟨by rfl, ?_⟩) ?_ ?_
      rotate_left
      · intro w'
        go_simp
        with_reducible rfl
      rotate_left
      · simp only [Act.put, List.setIfInBounds_toArray, List.set_cons_zero, List.set_cons_succ, i64_w, i32_w]
        rfl
      refine pure_ (i := 7) (N := some 23) (v := ?_) (a' := ?_) #[true, true, true, true, true, true, true, true, false] rfl rfl (any_of HT_.out (by kernel_rfl)) (fun _ _ _ h => h) (Or.inl ⟨by rfl, ?_⟩) ?_ ?_
      rotate_left
      · intro w'
        go_simp
        with_reducible rfl
      rotate_left
      · simp only [Act.put, List.setIfInBounds_toArray, List.set_cons_zero, List.set_cons_succ, i64_w, i32_w]
        rfl
      refine last_ (i := 8) (N := none) #[true, true, true, true, true, true, true, true, true] rfl rfl (one_of HT_.out (by kernel_rfl)) (by decide) (fun K hK => ?_)
      refine skip_ (w1 := ?_) (by rfl) rfl ?_ ?_
      rotate_left
      · go_simp
        rfl
      refine hK.out _ _ ?_
      clear hK K
      refine done_ (done_of HT_.out (by kernel_rfl)) ?_
      refine ‹∀ (a : Act) (w : World), Code.wp Try.prog _ _ a w → _› _ _ ?_
      refine wp_seq ?_
      refine (wpIn_wide (n := 0)).1 ?_
      refine wpIn_region_lit ?_
      refine listIn_value (r := none) rfl (by simp) (by rfl) ?_
      refine listIn_value (r := none) rfl (by simp) (by rfl) ?_
      refine listIn_yield (r := none) (.tmp 24) (.tmp 25) _ rfl rfl (by rfl) (by rfl) (H4.out T0 s (.slice Ax nx cx) _ (fun _ hk => hk) (by rw [HA.out]; exact HJP.out)) ?_ (by rintro c W' ⟨(⟨h, _⟩ | ⟨h, _⟩), _⟩ <;> cases h) (by rintro W' ⟨(⟨h, _⟩ | ⟨h, _⟩), _⟩ <;> cases h)
      rintro v W' ⟨(⟨h, s', hm, hj'⟩ | ⟨h, hjx⟩), _⟩
      · cases h
        have HJ' := Aside0.mk hj'
        have HM := Aside0.mk hm
        clear hj' hm
        refine listIn_value (r := none) rfl (by simp) (by rfl) ?_
        refine wpListIn_nil ?_
        go_wp2
        go_roundg (μ s')
        case measure => rw [← HK.out]; exact HM.out
        case rel => exact ⟨s', rfl, HJ'⟩
      · cases h
        have HJX := Aside0.mk hjx
        clear hjx
        refine listIn_value (r := none) rfl (by simp) (by rfl) ?_
        refine wpListIn_nil ?_
        go_wp2
        refine bodyPost_ret (results_none rfl _ _ _) rfl ?_
        exact ⟨⟨_, rfl⟩, .inr HJX.out⟩

/-- each (63): a closure over the stream's pointer. -/
theorem each_C (p : Option Addr) (w : World) : Calls Try.prog 63 #[.pointer p] w fun e w' => e = .returned (.func (.func 67) #[] #[.pointer (some ⟨w.heap.size, 0, none⟩)]) ∧ w' = w.alloc (.cells #[.pointer p] 51) := by
  go_enter Try.func63, Try.ntmps63
  go_wp2
  go_ret
  exact ⟨rfl, rfl⟩
/-- Bodies (43). -/
theorem bodies_C (p : Option Addr) (w : World) : Calls Try.prog 43 #[.pointer p] w fun e w' => e = .returned (.func (.func 62) #[] #[.pointer (some ⟨w.heap.size, 0, none⟩)]) ∧ w' = w.alloc (.cells #[.pointer p] 51) := by
  go_enter Try.func43, Try.ntmps43
  go_wp2
  go_ret
  exact ⟨rfl, rfl⟩
set_option maxHeartbeats 4000000 in
set_option maxRecDepth 100000 in
theorem bodies1_spec (Bn b : Nat) (W0 : World) : ItSpec Try.prog 62 Bn b W0 := by
  intro σ l J Jp Jx μ s0 T0 hJ hJp hJx hbox hpop hY h0
  have H0 := Aside0.mk hJ
  have H1 := Aside0.mk hJp
  have H1x := Aside0.mk hJx
  have H2 := Aside0.mk hbox
  have H3 := Aside0.mk hpop
  have H4 := Aside0.mk hY
  have HZ := Aside0.mk h0
  have hbx : W0.cell? ⟨Bn, 0, none⟩ = some (.pointer (some ⟨b, 0, none⟩)) := hbox T0 s0 W0 h0
  have hbx1 : (W0.alloc (.cells #[.func (.yield l) #[] #[]] 33)).cell? ⟨Bn, 0, none⟩ = some (.pointer (some ⟨b, 0, none⟩)) := pw_cell_below (below_alloc (Below.refl _ _) _) hbx
  clear hJ hJp hJx hbox hpop hY h0
  have hsz : (W0.alloc (.cells #[.func (.yield l) #[] #[]] 33)).heap.size = W0.heap.size + 1 := by simp
  have hy0 : ((W0.alloc (.cells #[.func (.yield l) #[] #[]] 33)).alloc (.cells #[.pointer (some ⟨b, 0, none⟩)] 51)).heap[W0.heap.size]? = some (.cells #[.func (.yield l) #[] #[]] 33 (0, 0)) :=
    (Below.heap_alloc _ _ _ (by simp)).trans (World.alloc_heap_new W0 _)
  have hb0 : ((W0.alloc (.cells #[.func (.yield l) #[] #[]] 33)).alloc (.cells #[.pointer (some ⟨b, 0, none⟩)] 51)).heap[W0.heap.size + 1]? = some (.cells #[.pointer (some ⟨b, 0, none⟩)] 51 (0, 0)) := by
    have := World.alloc_heap_new (W0.alloc (.cells #[.func (.yield l) #[] #[]] 33)) (.cells #[.pointer (some ⟨b, 0, none⟩)] 51)
    rwa [hsz] at this
  have HY0 := Aside0.mk hy0
  have HB0 := Aside0.mk hb0
  clear hsz hy0 hb0
  refine (callsIn_wide (n := 0)).1 (callsIn_of_wp_marks Try.func62 rfl trivial ?_)
  refine (wpIn_wide (n := 0)).2 ?_
  simp only [Try.ntmps62, List.size_toArray, List.length_cons, List.length_nil, Nat.reduceAdd, Nat.reduceSub, Array.replicate_succ, Array.replicate_zero, List.push_toArray, List.append_toArray, List.nil_append, List.cons_append]
  go_wp2_with fail
  refine (each_C _ _).mono ?_
  rintro e w1 ⟨rfl, rfl⟩
  go_wp2
  obtain ⟨w2, hw2⟩ : ∃ w2 : World, w2 = (W0.alloc (.cells #[.func (.yield l) #[] #[]] 33)).alloc (.cells #[.pointer (some ⟨b, 0, none⟩)] 51) := ⟨_, rfl⟩
  have hz2 : w2.heap.size = W0.heap.size + 2 := by rw [hw2]; simp
  have hY0 := HY0.out
  have hB0 := HB0.out
  rw [← hw2] at hY0 hB0 ⊢
  refine rangeStream (σ := σ) (gf := 67) (Bn := W0.heap.size + 1) (b := b) rfl (enters_ Try.func67 (by kernel_rfl) rfl) (each1_spec _ b) rfl
    (fun T s W => J T s W ∧ W.heap[W0.heap.size]? = some (.cells #[.func (.yield l) #[] #[]] 33 (0, 0)) ∧ W.heap[W0.heap.size + 1]? = some (.cells #[.pointer (some ⟨b, 0, none⟩)] 51 (0, 0)))
    (fun T s x W => Jp T s x W ∧ W.heap[W0.heap.size]? = some (.cells #[.func (.yield l) #[] #[]] 33 (0, 0)) ∧ W.heap[W0.heap.size + 1]? = some (.cells #[.pointer (some ⟨b, 0, none⟩)] 51 (0, 0)))
    (fun c W => c = .ret ∧ Jx W) μ s0 (fun k => T0 k ∨ k = W0.heap.size ∨ k = W0.heap.size + 1) ?hI ?hIp ?hIx ?h0 ?hbox ?hpop
    (fun x => { tmps := #[.func (.yield l) #[] #[], .pointer (some ⟨Bn, 0, none⟩), .pointer (some ⟨W0.heap.size, 0, none⟩), x, .pointer (some ⟨b, 0, none⟩), .bool false, .pointer (some ⟨b, 0, none⟩), .func (.func 67) #[] #[.pointer (some ⟨W0.heap.size + 1, 0, none⟩)], x, undef, undef, undef, undef], defers := [] }) ?assign ?body ?done ?stop
  case hI => exact fun T s A B row T' hs hg hr hT => ⟨TOwn.weak H0.out (by omega) T s A B row T' hs.1 hg hr hT, blk_grown hs.2.1 hg (fun e => by have := (hr _ e.symm).1; omega), blk_grown hs.2.2 hg (fun e => by have := (hr _ e.symm).1; omega)⟩
  case hIp => exact fun x T s A B row T' hs hg hr hT => ⟨TOwn.weak (H1.out x) (by omega) T s A B row T' hs.1 hg hr hT, blk_grown hs.2.1 hg (fun e => by have := (hr _ e.symm).1; omega), blk_grown hs.2.2 hg (fun e => by have := (hr _ e.symm).1; omega)⟩
  case hIx => exact fun c s A B row hs hg hr => ⟨hs.1, OwnFrom.weak H1x.out (by omega) () A B row hs.2 hg hr⟩
  case h0 =>
    refine ⟨?_, hY0, hB0⟩
    rw [hw2]
    exact H0.out.alloc (T := fun k => T0 k ∨ k = W0.heap.size) _ (H0.out.alloc _ HZ.out (fun k hk => hk)) (fun k hk => by simp only [World.size_alloc]; rcases hk with h | h | h; exact .inl (.inl h); exact .inl (.inr h); exact .inr h)
  case hbox => exact fun T s W hs => blk_cell hs.2.2 0
  case hpop =>
    intro T s W hs
    obtain ⟨vo, A, n, c, sk, hb, _⟩ := id (H3.out T s W hs.1)
    exact pops_and (H3.out T s W hs.1) (fun v => ⟨blk_far hs.2.1 (blk_ne hs.2.1 hb (by decide)) _, blk_far hs.2.2 (blk_ne hs.2.2 hb (by decide)) _⟩)
  case assign =>
    intro l' x W K hK
    gi_wp2
    exact hK
  case body =>
    rintro T l' s x W hT hTl hle _ ⟨hjp, hy, hbn⟩
    obtain ⟨fn, tmps, assign, body, hrun, hR⟩ := H4.out T s x W (fun k hk => hT k (.inl hk)) hjp
    have hcy := blk_cell hy 0
    simp only [List.getElem?_toArray, List.getElem?_cons_zero] at hcy
    have HY := Aside0.mk hy
    have HBN := Aside0.mk hbn
    clear hy hbn
    have hY1 := hT W0.heap.size (.inr (.inl rfl))
    have hB1 := hT (W0.heap.size + 1) (.inr (.inr rfl))
    gi_wp2
    refine ⟨rfl, RoundIn.mono (F := Fence.wide.inRound l') hR ?_⟩
    rintro e W' ⟨(⟨rfl, s', hm, hj⟩ | ⟨rfl, hjx⟩), hTk⟩
    · have HJ := Aside0.mk hj
      have HM := Aside0.mk hm
      have HT := Aside0.mk hTk
      clear hj hm hTk
      gi_wp2
      exact ⟨fun k hk => HT.out k hk.1 (by have := hk.2; omega), s', HM.out, HJ.out, (HT.out _ hY1 (Nat.le_refl _)).trans HY.out, (HT.out _ hB1 (by omega)).trans HBN.out⟩
    · have HJ := Aside0.mk hjx
      have HT := Aside0.mk hTk
      clear hjx hTk
      gi_wp2
      exact ⟨fun k hk => HT.out k hk.1 (by have := hk.2; omega), rfl, HJ.out⟩
  case done =>
    rintro D s W hD ⟨hj, _⟩ hn hdef
    go_wp2
    refine ⟨by simp, .inl ⟨_, _, rfl, run_takeDeferred hdef, ?_⟩⟩
    refine ⟨_, results_none rfl _ _ _, ⟨_, rfl⟩, .inl ⟨s, H0.out.less (H0.out.putObj _ hj (by omega) hdef rfl) (fun k hk => .inl hk), ?_⟩⟩
    obtain ⟨vo, A, c, sk, hb⟩ := hn
    exact ⟨vo, A, c, sk, (World.putObj_heap_other (fun e => by subst e; rw [hdef] at hb; cases hb)).trans hb⟩
  case stop =>
    rintro D c W hD ⟨rfl, hjx⟩ hdef
    go_wp2
    refine ⟨by simp, .inl ⟨_, _, rfl, run_takeDeferred hdef, ?_⟩⟩
    exact ⟨_, results_none rfl _ _ _, ⟨_, rfl⟩, .inr (H1x.out.putObj (s := ()) _ hjx (by omega) hdef rfl)⟩
end Go.Proofs.Ytnanaojjhmpilaa.PW
namespace Go.Proofs.Ytnanaojjhmpilaa.PW
open Go.RowKit Go.Proofs.YtnanaojjhmpilaaW.PrintWords Go.Proofs.YtnanaojjhmpilaaW.PrintLast Go.Proofs.YtnanaojjhmpilaaW.PrintMore
set_option linter.unusedVariables false
set_option linter.unusedSimpArgs false
attribute [local go_sem] Oper.semAt_some

/-- A block of the stream's kinds: its struct, a row of bodies, a row of bytes. -/
def Rowy (w : World) (base k : Nat) : Prop := base ≤ k ∧ ∃ cs q, w.heap[k]? = some (.cells cs q (0, 0)) ∧ (q = 53 ∨ q = 22 ∨ q = 5)
theorem Rowy.lt {w : World} {base k : Nat} (h : Rowy w base k) : k < w.heap.size := by obtain ⟨_, cs, q, h, _⟩ := h; exact blk_lt h
theorem Rowy.ne {w : World} {base k g t : Nat} {cs : Array Value} (h : Rowy w base k) (hg : w.heap[g]? = some (.cells cs t (0, 0))) (ht : t ≠ 53 ∧ t ≠ 22 ∧ t ≠ 5) : k ≠ g := by
  obtain ⟨_, cs', q, h, hq⟩ := h
  rintro rfl
  rw [h] at hg
  injection hg with hg
  injection hg with _ hg
  rcases hq with h | h | h <;> simp_all
theorem R_rowy {w : World} {base : Nat} {ok : Nat → Prop} {v : Value} {l : List Int} (h : Kd.R (Kd.int .u8) 5 w base ok v l) : Kd.R (Kd.int .u8) 5 w base (fun k => ok k ∧ Rowy w base k) v l :=
  Kd.R_mono (Kd.R_bound h) (fun k hk => ⟨hk.1, hk.2.1, by obtain ⟨q, hq, cs, hc⟩ := hk.2.2.2; exact ⟨cs, q, hc, .inr (.inr (by simpa [Kd.int, Kd.scalar] using hq))⟩⟩)
theorem SQ_rowy {w : World} {base : Nat} {ok : Nat → Prop} {v : Value} {fs : List (List Int)} (h : SQ (Kd.slice 5 (Kd.int .u8)) 22 w base ok v fs) : SQ (Kd.slice 5 (Kd.int .u8)) 22 w base (fun k => ok k ∧ Rowy w base k) v fs :=
  SQ_mono (SQ_bound h) (fun k hk => ⟨hk.1, hk.2.1, by obtain ⟨q, hq, cs, hc⟩ := hk.2.2.2; exact ⟨cs, q, hc, .inr (by simpa [Kd.int, Kd.scalar, Kd.slice] using hq)⟩⟩)
theorem Strm_rowy {w : World} {base b sk : Nat} {ok : Nat → Prop} {op : List Int} {fs : List (List Int)} (h : Strm w base ok b op fs sk) : Strm w base (fun k => ok k ∧ Rowy w base k) b op fs sk := by
  obtain ⟨h1, h2, vo, vf, okf, h3, h4, h5, h6⟩ := h
  exact ⟨h1, ⟨h2, h1, _, _, h3, .inl rfl⟩, vo, vf, fun k => okf k ∧ Rowy w base k, h3, Kd.R_mono (R_rowy h4) (fun k hk => ⟨⟨hk.1.1, hk.2⟩, hk.1.2.1, fun h7 => hk.1.2.2 h7.1⟩), SQ_rowy h5, fun k hk => ⟨⟨(h6 k hk.1).1, hk.2⟩, (h6 k hk.1).2⟩⟩
theorem Strm_blk {w : World} {base b sk : Nat} {ok : Nat → Prop} {op : List Int} {fs : List (List Int)} (h : Strm w base ok b op fs sk) : ∃ vo A c, w.heap[b]? = some (.cells #[vo, .slice A fs.length c, .int .i64 (sk : Int)] 53 (0, 0)) ∧ fs.length ≤ c := by
  obtain ⟨h1, h2, vo, vf, okf, h3, h4, h5, h6⟩ := h
  obtain ⟨A, c, rfl, hl⟩ := SQ_slice h5
  exact ⟨vo, A, c, h3, hl⟩
/-- The first body taken out. -/
theorem Strm_pop {w : World} {base b sk : Nat} {ok : Nat → Prop} {op x : List Int} {fs : List (List Int)} (h : Strm w base ok b op (x :: fs) sk) :
    ∃ vo A c okx ad Ax cx, w.heap[b]? = some (.cells #[vo, .slice A (fs.length + 1) c, .int .i64 (sk : Int)] 53 (0, 0)) ∧ fs.length + 1 ≤ c ∧ A = some ad ∧ w.cell? ad = some (.slice Ax x.length cx) ∧ (∀ k, okx k → ok k) ∧
      Strm (w.setCell ⟨b, 1, none⟩ (.slice (if c = 1 then A else A.map (·.add 1)) (fs.length + 1 - 1) (c - 1))) base (fun k => ok k ∧ ¬ okx k) b op fs sk ∧
      Kd.R (Kd.int .u8) 5 (w.setCell ⟨b, 1, none⟩ (.slice (if c = 1 then A else A.map (·.add 1)) (fs.length + 1 - 1) (c - 1))) base okx (.slice Ax x.length cx) x := by
  obtain ⟨h1, h2, vo, vf, okf, h3, h4, h5, h6⟩ := h
  obtain ⟨A, c, rfl, hl⟩ := SQ_slice h5
  obtain ⟨okx, ad, cs, hA, hcs, hM, hc, hox, hq⟩ := SQ_pop h5
  obtain ⟨v, rfl, hr⟩ : ∃ v, cs = [v] ∧ Kd.R (Kd.int .u8) 5 w base okx v x := hM
  obtain ⟨Ax, cx, rfl, _⟩ := Kd.R_reads hr
  have hcell := hc 0 _ (by simp; rfl)
  rw [Addr.add_zero'] at hcell
  refine ⟨vo, A, c, okx, ad, Ax, cx, h3, hl, hA, hcell, fun k hk => (h6 k (hox k hk).1).1, ⟨h1, ⟨h2, fun hb => (h6 b (hox b hb).1).2 rfl⟩, vo, _, (fun k => okf k ∧ ¬ okx k), by simpa using blk_set h3 1 (.slice (if c = 1 then A else A.map (·.add 1)) (fs.length + 1 - 1) (c - 1)), ?_, ?_, fun k hk => ⟨⟨(h6 k hk.1).1, hk.2⟩, (h6 k hk.1).2⟩⟩, Kd.R_far hr (fun k hk => (h6 k (hox k hk).1).2) _⟩
  · exact Kd.R_mono (Kd.R_far h4 (fun k hk => hk.2.1) _) (fun k hk => ⟨⟨hk.1, fun hx => hk.2.2 (hox k hx).1⟩, hk.2.1, fun hx => hk.2.2 hx.1⟩)
  · exact SQ_step hq (fun k hk _ => Below.heap_setCell w _ _ k (h6 k hk.1).2)
/-- Rows of bodies, appended to, in a plain region. -/
theorem SQ_append {α : Type} {ops : Array Oper} {o : Oper} {a : Act} {Q : Exit → Act → World → Prop} {rest : List Oper} {P : Program} (d : Kd α) {w0 W : World} (base : Nat) (hgd : o.guard = none) (s x : Operand) (t e : TypeId) (z : Value) (bytes : Nat)
    (ho : o.op = .call { callee := .builtin .append, args := #[s, x], argTypes := #[t, t] })
    (ht : P.underlying t = some (.slice e)) (hinfo : (P.info? e).map (fun i => (i.zero, i.size, i.bytes)) = some (some z, d.sz, bytes)) (hz : z.cells.size = d.sz) (hs0 : 0 < d.sz) (hb0 : 0 < bytes)
    (v : Value) (xs : List α) (p : α) (cs : List Value) (ok okp : Nat → Prop) (hs : a.eval s = v) (hx : a.eval x = .slice (some ⟨W.heap.size, 0, none⟩) 1 1) (hp : d.M W base okp p cs) (hokp : ∀ k, okp k → ok k ∧ some k ≠ v.ownBlock) (hfresh : ∀ k, W.heap.size ≤ k → ok k)
    (HO : SQ d e W base (fun k => ok k ∧ ¬ okp k) v xs) (HB : Below base w0 W) (hbase : base ≤ W.heap.size) (hl : (xs.length + 1) * bytes ≤ 140737488355328)
    (h : ∀ v1 w1, SQ d e w1 base ok v1 (xs ++ [p]) → Below base w0 w1 → W.grownBy w1 v.ownBlock → (v1.ownBlock = v.ownBlock ∨ ∃ b, v1.ownBlock = some b ∧ W.heap.size ≤ b) → wpList P ops Q rest (a.put o.dst v1) w1) :
    Stop (wpList P ops Q (o :: rest) a (W.alloc (.cells cs.toArray e))) := by
  obtain ⟨v1, w1, hr, h1, h2, h3, h4⟩ := SQ_run (P := P) d base t o.type e z bytes ht hinfo hz hs0 hb0 v xs p cs ok okp hp hokp hfresh HO HB hbase hl
  refine wpList_plain hgd fun K hK => ?_
  unfold Oper.wp execOp
  simp only [ho, resolve, invoke, builtin, Sem.run_bind, Sem.run_pure, Result.andThen_ok, List.map_toArray, List.map_cons, List.map_nil, hs, hx, hr]
  exact hK _ _ (h v1 w1 h1 h2 h3 h4)
/-- A plain region in a round (the wide fence). -/
theorem region_round {P : Program} {id : Nat} {L : List Oper} {Q : Exit → Act → World → Prop} {a : Act} {w : World} (l₀ : Nat) (hno : ¬ LetsOut Q) (hd : ∀ o ∈ L, ∀ c, o.op ≠ .defer c) (h : wpList P L.toArray Q L a w) : (Code.region id L.toArray false).wpIn (Fence.wide.inRound l₀) 0 P Q a w :=
  wpIn_region_lit (wpListIn_of l₀ L a w hno hd h)

/-- While bodies are taken: pre so far, fs2 still in the stream; okx: the body that is on its way. -/
def TkC (w0 : World) (base b B6 B3 Bn : Nat) (ok : Nat → Prop) (op : List Int) (sk : Nat) (most : Int) (T : Nat → Prop) (pre fs2 : List (List Int)) (okx : Nat → Prop) (W : World) : Prop :=
  ∃ v okS okr, Strm W base okS b op fs2 sk ∧ SQ (Kd.slice 5 (Kd.int .u8)) 22 W base okr v pre ∧ W.heap[B6]? = some (.cells #[v] 37 (0, 0)) ∧ W.heap[B3]? = some (.cells #[.int .i64 most] 3 (0, 0)) ∧ W.heap[Bn]? = some (.cells #[.pointer (some ⟨b, 0, none⟩)] 51 (0, 0)) ∧
    (∀ k, okS k → ok k ∧ ¬ okr k ∧ ¬ okx k ∧ Rowy W base k) ∧ (∀ k, okr k → (ok k ∨ w0.heap.size ≤ k) ∧ ¬ okx k ∧ Rowy W base k) ∧ (∀ k, okx k → ok k ∧ Rowy W base k) ∧ (∀ k, T k → ¬ okS k ∧ ¬ okr k ∧ ¬ okx k ∧ k ≠ B6 ∧ k < W.heap.size) ∧ Frm w0 W (fun k => k = b) ∧ ∀ k, v.ownBlock = some k → w0.heap.size ≤ k
section
variable {w0 W W' : World} {base b B6 B3 Bn sk : Nat} {ok okx T T' : Nat → Prop} {op : List Int} {most : Int} {pre fs2 : List (List Int)}
theorem TkC_own (h : TkC w0 base b B6 B3 Bn ok op sk most T pre fs2 okx W) {row : Option Nat} (hg : W.grownBy W' row) (hr : ∀ r, row = some r → w0.heap.size ≤ r ∧ ∃ o : Obj, W.heap[r]? = some o ∧ o.isCells = false) (hT : ∀ k, T' k → T k ∨ (W.heap.size ≤ k ∧ k < W'.heap.size)) :
    TkC w0 base b B6 B3 Bn ok op sk most T' pre fs2 okx W' := by
  obtain ⟨v, okS, okr, h1, h2, h3, h4, h5, h6, h7, h8, h9, h10, h11⟩ := h
  have key : ∀ {k : Nat} {cs : Array Value} {q : TypeId} {m : Nat × Nat}, W.heap[k]? = some (.cells cs q m) → W'.heap[k]? = some (.cells cs q m) := fun {k cs q m} hk =>
    (hg.block k (blk_lt hk) (fun e => by obtain ⟨_, o, ho, hc⟩ := hr k e.symm; rw [hk] at ho; cases ho; cases hc)).trans hk
  have keyr : ∀ {k : Nat}, Rowy W base k → Rowy W' base k := fun {k} hk => by obtain ⟨hb, cs, q, hc, hq⟩ := hk; exact ⟨hb, cs, q, key hc, hq⟩
  have keyk : ∀ {k : Nat}, Rowy W base k → W'.heap[k]? = W.heap[k]? := fun {k} hk => by obtain ⟨hb, cs, q, hc, hq⟩ := hk; rw [key hc, hc]
  refine ⟨v, okS, okr, Strm_step h1 (fun k hk _ => keyk (h6 k hk).2.2.2), SQ_step h2 (fun k hk _ => keyk (h7 k hk).2.2), key h3, key h4, key h5, fun k hk => ⟨(h6 k hk).1, (h6 k hk).2.1, (h6 k hk).2.2.1, keyr (h6 k hk).2.2.2⟩, fun k hk => ⟨(h7 k hk).1, (h7 k hk).2.1, keyr (h7 k hk).2.2⟩, fun k hk => ⟨(h8 k hk).1, keyr (h8 k hk).2⟩, fun k hk => ?_, h10.then_ (Frm.of_grown hg (S := fun k => w0.heap.size ≤ k) (fun k e => (hr k e).1)) (fun k h1 h2 => by omega), h11⟩
  rcases hT k hk with h | h
  · have := h9 k h
    exact ⟨this.1, this.2.1, this.2.2.1, this.2.2.2.1, Nat.lt_of_lt_of_le this.2.2.2.2 hg.size⟩
  · exact ⟨fun hx => by have := (h6 k hx).2.2.2.lt; omega, fun hx => by have := (h7 k hx).2.2.lt; omega, fun hx => by have := (h8 k hx).2.lt; omega, fun e => by have := blk_lt h3; omega, h.2⟩
theorem Rowy.set {W : World} {base k g j : Nat} (h : Rowy W base k) (u : Value) : Rowy (W.setCell ⟨g, j, none⟩ u) base k := by
  obtain ⟨hb, cs', q', hc, hq⟩ := h
  by_cases e : k = g
  · subst e; exact ⟨hb, _, q', blk_set hc j u, hq⟩
  · exact ⟨hb, cs', q', blk_far hc e _, hq⟩
theorem TkC_pop (h : TkC w0 base b B6 B3 Bn ok op sk most T pre fs2 (fun _ => False) W) : Pops b (fun x W' => ∃ hd fs3 okx Ax cx, x = .slice Ax hd.length cx ∧ fs2 = hd :: fs3 ∧ Kd.R (Kd.int .u8) 5 W' base okx x hd ∧ TkC w0 base b B6 B3 Bn ok op sk most T pre fs3 okx W') W := by
  obtain ⟨v, okS, okr, h1, h2, h3, h4, h5, h6, h7, h8, h9, h10, h11⟩ := h
  cases fs2 with
  | nil =>
    obtain ⟨vo, A, c, hb, hl⟩ := Strm_blk h1
    exact ⟨vo, A, 0, c, _, hb, Nat.zero_le _, fun h => absurd h (by omega)⟩
  | cons hd fs3 =>
    obtain ⟨vo, A, c, okx, ad, Ax, cx, hb, hl, hA, hcell, hox, hs, hr⟩ := Strm_pop h1
    have hbS := h1.2.1
    refine ⟨vo, A, fs3.length + 1, c, _, hb, hl, fun _ => ⟨ad, Ax, hd.length, cx, hA, hcell, hd, fs3, okx, Ax, cx, rfl, rfl, hr, v, _, okr, hs, SQ_step h2 (fun k hk _ => Below.heap_setCell W _ _ k (fun e => (h6 b hbS).2.1 (by have e' : k = b := e; rw [← e']; exact hk))),
      blk_far h3 (blk_ne h3 hb (by decide)) _, blk_far h4 (blk_ne h4 hb (by decide)) _, blk_far h5 (blk_ne h5 hb (by decide)) _, fun k hk => ⟨(h6 k hk.1).1, (h6 k hk.1).2.1, hk.2, (h6 k hk.1).2.2.2.set _⟩,
      fun k hk => ⟨(h7 k hk).1, fun hx => (h6 k (hox k hx)).2.1 hk, (h7 k hk).2.2.set _⟩, fun k hk => ⟨(h6 k (hox k hk)).1, (h6 k (hox k hk)).2.2.2.set _⟩,
      fun k hk => ⟨fun hx => (h9 k hk).1 hx.1, (h9 k hk).2.1, fun hx => (h9 k hk).1 (hox k hx), (h9 k hk).2.2.2.1, by simpa [World.setCell] using (h9 k hk).2.2.2.2⟩, h10.set_ (.inl rfl) _, h11⟩⟩
end
end Go.Proofs.Ytnanaojjhmpilaa.PW
namespace Go.Proofs.Ytnanaojjhmpilaa.PW
open Go.RowKit Go.Proofs.YtnanaojjhmpilaaW.PrintWords Go.Proofs.YtnanaojjhmpilaaW.PrintLast Go.Proofs.YtnanaojjhmpilaaW.PrintMore
set_option linter.unusedVariables false
set_option linter.unusedSimpArgs false
attribute [local go_sem] Oper.semAt_some

theorem fun_not_nil (n : Nat) : ∀ W : World, (binOp .eql 63 (.func (.func 62) #[] #[.pointer (some ⟨n, 0, none⟩)]) .nilFunc).run Try.prog W = .ok (.bool false) W := fun W => by kernel_rfl
/-- What is known behind taken: the bodies fs1 in rows of their own, the stream with the rest. -/
def TkPost (w : World) (base b : Nat) (ok : Nat → Prop) (op : List Int) (fs : List (List Int)) (sk : Nat) (most : Int) (e : Ending) (w' : World) : Prop :=
  ∃ v okS okr fs1 fs2, e = .returned (.tuple #[v, .bool true]) ∧ fs = fs1 ++ fs2 ∧ fs1.length = min most.toNat fs.length ∧ SQ (Kd.slice 5 (Kd.int .u8)) 22 w' base okr v fs1 ∧ Strm w' base okS b op fs2 sk ∧
    (∀ k, okS k → ok k ∧ ¬ okr k) ∧ (∀ k, okr k → ok k ∨ w.heap.size ≤ k) ∧ Frm w w' (fun k => k = b)

set_option maxHeartbeats 8000000 in
set_option maxRecDepth 100000 in
theorem taken_C (b base : Nat) (ok : Nat → Prop) (op : List Int) (fs : List (List Int)) (sk : Nat) (most : Int) (w : World) (hS : Strm w base ok b op fs sk) (hbase : base ≤ w.heap.size) (hfl : fs.length ≤ 1000000) :
    Calls Try.prog 42 #[.pointer (some ⟨b, 0, none⟩), .int .i64 most] w (TkPost w base b ok op fs sk most) := by
  have HS := Aside0.mk (Strm_bound hS)
  have HBS := Aside0.mk hbase
  have HFL := Aside0.mk hfl
  obtain ⟨wa, hwa⟩ : ∃ wa, wa = w.alloc (.cells #[.int .i64 most] 3) := ⟨_, rfl⟩
  obtain ⟨wb, hwb⟩ : ∃ wb, wb = wa.alloc (.cells #[.slice none 0 0] 37) := ⟨_, rfl⟩
  obtain ⟨wc, hwc⟩ : ∃ wc, wc = wb.alloc (.cells #[.pointer (some ⟨b, 0, none⟩)] 51) := ⟨_, rfl⟩
  have hza : wa.heap.size = w.heap.size + 1 := by rw [hwa]; simp
  have hzb : wb.heap.size = w.heap.size + 2 := by rw [hwb]; simp [hza]
  have hzc : wc.heap.size = w.heap.size + 3 := by rw [hwc]; simp [hzb]
  have h3a : wa.heap[w.heap.size]? = some (.cells #[.int .i64 most] 3 (0, 0)) := by rw [hwa]; exact World.alloc_heap_new w _
  have h3b : wb.heap[w.heap.size]? = some (.cells #[.int .i64 most] 3 (0, 0)) := by rw [hwb]; exact (Below.heap_alloc _ _ _ (by omega)).trans h3a
  have h3c : wc.heap[w.heap.size]? = some (.cells #[.int .i64 most] 3 (0, 0)) := by rw [hwc]; exact (Below.heap_alloc _ _ _ (by omega)).trans h3b
  have h6b : wb.heap[w.heap.size + 1]? = some (.cells #[.slice none 0 0] 37 (0, 0)) := by rw [hwb, ← hza]; exact World.alloc_heap_new wa _
  have h6c : wc.heap[w.heap.size + 1]? = some (.cells #[.slice none 0 0] 37 (0, 0)) := by rw [hwc]; exact (Below.heap_alloc _ _ _ (by omega)).trans h6b
  have hnc : wc.heap[w.heap.size + 2]? = some (.cells #[.pointer (some ⟨b, 0, none⟩)] 51 (0, 0)) := by rw [hwc, ← hzb]; exact World.alloc_heap_new wb _
  have HFC := Aside0.mk (show Frm w wc (fun k => k = b) by rw [hwc, hwb, hwa]; exact (((Frm.refl _ _).alloc _).alloc _).alloc _)
  have HSC := Aside0.mk (Strm_rowy (Strm_frm (S := fun _ => False) HS.out (by rw [hwc, hwb, hwa]; exact (((Frm.refl _ _).alloc _).alloc _).alloc _ : Frm w wc (fun _ => False)) (fun _ _ h => h)))
  have H3 := Aside0.mk h3c
  have H6 := Aside0.mk h6c
  have HN := Aside0.mk hnc
  have c3 := blk_cell h3c 0
  have c6 := blk_cell h6c 0
  simp only [List.getElem?_toArray, List.getElem?_cons_zero] at c3 c6
  have HWC := Aside0.mk (show wc = (((w.alloc (.cells #[.int .i64 most] 3)).alloc (.cells #[.slice none 0 0] 37)).alloc (.cells #[.pointer (some ⟨b, 0, none⟩)] 51)) by rw [hwc, hwb, hwa])
  have HZB := Aside0.mk (show ((w.alloc (.cells #[.int .i64 most] 3)).alloc (.cells #[.slice none 0 0] 37)).heap.size = w.heap.size + 2 by rw [← hwa, ← hwb]; exact hzb)
  clear h3a h3b h3c h6b h6c hnc hwc hwb hwa hza hzb hS hfl hbase
  have hfn := fun_not_nil (w.heap.size + 2)
  refine (callsIn_wide (n := 0)).1 (callsIn_of_wp_marks Try.func42 rfl trivial ?_)
  refine (wpIn_wide (n := 0)).2 ?_
  simp only [Try.ntmps42, List.size_toArray, List.length_cons, List.length_nil, Nat.reduceAdd, Nat.reduceSub, Array.replicate_succ, Array.replicate_zero, List.push_toArray, List.append_toArray, List.nil_append, List.cons_append]
  go_wp2_with fail
  refine (bodies_C _ _).mono ?_
  rintro e w1 ⟨rfl, rfl⟩
  rw [← HWC.out]
  rw [HZB.out]
  by_cases hm : most ≤ 0
  · go_wp2
    refine ⟨_, results_tmp2 rfl _ _ _, ?_⟩
    refine ⟨_, _, (fun _ => False), [], fs, rfl, rfl, ?_, SQ_nil _ _ _ _ _, HSC.out, fun k hk => ⟨hk.1.1, fun h => h⟩, fun k hk => hk.elim, HFC.out⟩
    have : most.toNat = 0 := by omega
    simp [this]
  · have HM0 := Aside0.mk (show (0 : Int) < most by omega)
    have hmb : decide (most ≤ 0) = false := decide_eq_false hm
    clear hm
    go_wp2
    refine rangeStream (σ := List (List Int)) (gf := 62) (Bn := w.heap.size + 2) (b := b) rfl (enters_ Try.func62 (by kernel_rfl) rfl) (bodies1_spec _ b) rfl
      (fun T pre W => ∃ fs2, fs = pre ++ fs2 ∧ (pre.length : Int) < most ∧ TkC w base b (w.heap.size + 1) w.heap.size (w.heap.size + 2) ok op sk most T pre fs2 (fun _ => False) W)
      (fun T pre x W => ∃ hd fs2 okx Ax cx, x = .slice Ax hd.length cx ∧ fs = pre ++ hd :: fs2 ∧ (pre.length : Int) < most ∧ Kd.R (Kd.int .u8) 5 W base okx x hd ∧ TkC w base b (w.heap.size + 1) w.heap.size (w.heap.size + 2) ok op sk most T pre fs2 okx W)
      (fun c W => c = .exit 0 ∧ ∃ pre fs2, fs = pre ++ fs2 ∧ (pre.length : Int) = most ∧ TkC w base b (w.heap.size + 1) w.heap.size (w.heap.size + 2) ok op sk most (fun _ => False) pre fs2 (fun _ => False) W)
      (fun pre => fs.length - pre.length) [] (fun _ => False) ?hI ?hIp ?hIx ?h0 ?hbox ?hpop
      (fun x => { tmps := #[.pointer (some ⟨b, 0, none⟩), .int .i64 most, undef, .pointer (some ⟨w.heap.size, 0, none⟩), .slice none 0 0, .bool false, .pointer (some ⟨w.heap.size + 1, 0, none⟩), .func (.func 62) #[] #[.pointer (some ⟨w.heap.size + 2, 0, none⟩)], x, .pointer (some ⟨b, 0, none⟩), .func (.func 62) #[] #[.pointer (some ⟨w.heap.size + 2, 0, none⟩)],
        .func (.func 62) #[] #[.pointer (some ⟨w.heap.size + 2, 0, none⟩)], .bool false, .int .i64 most, .bool false, undef, .func (.func 62) #[] #[.pointer (some ⟨w.heap.size + 2, 0, none⟩)], x, undef, undef, undef, undef, undef, undef, undef, undef, undef], defers := [] }) ?assign ?body ?done ?stop
    case hI =>
      rintro T pre A B row T' ⟨fs2, e1, e2, e3⟩ hg hr hT
      exact ⟨fs2, e1, e2, TkC_own e3 hg (fun r e => ⟨Nat.le_trans HFC.out.size (hr r e).1, (hr r e).2⟩) hT⟩
    case hIp =>
      rintro x T pre A B row T' ⟨hd, fs2, okx, Ax, cx, e0, e1, e2, hR, e3⟩ hg hr hT
      refine ⟨hd, fs2, okx, Ax, cx, e0, e1, e2, ?_, TkC_own e3 hg (fun r e => ⟨Nat.le_trans HFC.out.size (hr r e).1, (hr r e).2⟩) hT⟩
      obtain ⟨v, okS, okr, h1, h2, h3, h4, h5, h6, h7, h8, h9, h10, h11⟩ := e3
      refine Kd.R_step hR (fun k hk hlt => hg.block k hlt (fun e => ?_))
      obtain ⟨_, o, ho, hc⟩ := hr k e.symm
      obtain ⟨_, cs, q, hq, _⟩ := (h8 k hk).2
      rw [hq] at ho
      cases ho
      cases hc
    case hIx =>
      rintro c s A B row ⟨e0, pre, fs2, e1, e2, e3⟩ hg hr
      exact ⟨e0, pre, fs2, e1, e2, TkC_own e3 hg (fun r e => ⟨Nat.le_trans HFC.out.size (hr r e).1, (hr r e).2⟩) (fun k hk => hk.elim)⟩
    case h0 =>
      exact ⟨fs, rfl, HM0.out, _, _, (fun _ => False), HSC.out, SQ_nil _ _ _ _ _, H6.out, H3.out, HN.out, fun k hk => ⟨hk.1.1, fun h => h, fun h => h, hk.2⟩, fun k hk => hk.elim, fun k hk => hk.elim, fun k hk => hk.elim, HFC.out, fun k hk => by cases hk⟩
    case hbox =>
      rintro T pre W ⟨fs2, e1, e2, v, okS, okr, h1, h2, h3, h4, h5, _⟩
      exact blk_cell h5 0
    case hpop =>
      rintro T pre W ⟨fs2, e1, e2, e3⟩
      obtain ⟨vo, A, n, c, sk', hb, hl, hp⟩ := TkC_pop e3
      refine ⟨vo, A, n, c, sk', hb, hl, fun h => ?_⟩
      obtain ⟨ad, Ax, nx, cx, h4, h5, hd, fs3, okx, Ax', cx', h6, h7, h8, h9⟩ := hp h
      exact ⟨ad, Ax, nx, cx, h4, h5, hd, fs3, okx, Ax', cx', h6, by rw [e1, h7], e2, h8, h9⟩
    case assign =>
      intro l' x W K hK
      gi_wp2
      exact hK
    case body =>
      rintro T l' pre x W hT hTl hle _ ⟨hd, fs2, okx, Ax, cx, rfl, hfs, hlt, hr, v, okS, okr, h1, h2, h3, h4, h5, h6, h7, h8, h9, h10, h11⟩
      have c6 := blk_cell h3 0
      have z6 := blk_frozen h3 0
      have c3 := blk_cell h4 0
      simp only [List.getElem?_toArray, List.getElem?_cons_zero] at c3 c6
      have hb6 : some (w.heap.size + 1) ≠ v.ownBlock := fun e => ((h7 _ (SQ_ok h2 _ e.symm)).2.2.ne h3 (by decide)) rfl
      obtain ⟨pre1, hpre⟩ : ∃ p, pre ++ [hd] = p := ⟨_, rfl⟩
      have hlen : pre1.length = pre.length + 1 := by rw [← hpre]; simp
      have hfs1 : fs = pre1 ++ fs2 := by rw [hfs, ← hpre]; simp
      have hfl2 : fs.length = pre1.length + fs2.length := by rw [hfs1, List.length_append]
      have FN := Aside0.mk (show pre.length + 1 ≤ 1000000 ∧ fs.length - pre1.length < fs.length - pre.length by have := HFL.out; omega)
      clear hfl2
      have F11 := Aside0.mk h11
      have FTT := Aside0.mk hT
      have F1 := Aside0.mk h1
      have F2 := Aside0.mk h2
      have F3 := Aside0.mk h3
      have F4 := Aside0.mk h4
      have F5 := Aside0.mk h5
      have F6 := Aside0.mk h6
      have F7 := Aside0.mk h7
      have F8 := Aside0.mk h8
      have F9 := Aside0.mk h9
      have F10 := Aside0.mk h10
      have FR := Aside0.mk hr
      have FB6 := Aside0.mk hb6
      have FP := Aside0.mk hpre
      have FL := Aside0.mk hlen
      have FS := Aside0.mk hfs1
      have FT := Aside0.mk hlt
      have FW := Aside0.mk hle
      clear h1 h2 h3 h4 h5 h6 h7 h8 h9 h10 h11 hr hb6 hpre hlen hfs1 hfs hlt hT hTl hle
      refine wpIn_block ?_
      refine wpIn_seq ?_
      refine region_round l' (by rintro ⟨a, w, h⟩; exact h) (by simp) ?_
      go_wp2_with (with_reducible refine stop_append rfl ?_)
      refine SQ_append (Kd.slice 5 (Kd.int .u8)) (w0 := w) base rfl (.tmp 18) (.tmp 20) 37 22 (.slice none 0 0) 24 rfl Try.underlying37 info22 rfl (by decide) (by omega) v pre hd [.slice Ax hd.length cx] (fun k => okr k ∨ okx k ∨ W.heap.size ≤ k) okx rfl rfl
        (Kd.M_row FR.out) (fun k hk => ⟨.inr (.inl hk), fun e => (F7.out k (SQ_ok F2.out k e.symm)).2.1 hk⟩) (fun k hk => .inr (.inr hk)) (SQ_mono F2.out (fun k hk => ⟨.inl hk, (F7.out k hk).2.1⟩))
        (F10.out.below (fun k e _ => e ▸ F1.out.1) HBS.out) (Nat.le_trans HBS.out F10.out.size) (by have := FN.out; omega) ?_
      intro v1 w1 ho hb hg hat
      rw [FP.out] at ho
      obtain ⟨A1, c1, rfl, hl1⟩ := SQ_slice ho
      have hb3 := blk_grown F3.out hg FB6.out
      have c61 := blk_cell hb3 0
      have z61 := blk_frozen hb3 0
      simp only [List.getElem?_toArray, List.getElem?_cons_zero] at c61
      have G1 := Aside0.mk ho
      have G2 := Aside0.mk hg
      have G3 := Aside0.mk hb3
      have G4 := Aside0.mk hat
      clear ho hb hg hb3 hat c6 z6 c3 hl1
      go_wp2
      obtain ⟨W2, hW2⟩ : ∃ W2, W2 = w1.setCell ⟨w.heap.size + 1, 0, none⟩ (.slice A1 pre1.length c1) := ⟨_, rfl⟩
      rw [← hW2]
      have hb4 : W2.heap[w.heap.size + 1]? = some (.cells #[.slice A1 pre1.length c1] 37 (0, 0)) := by rw [hW2]; simpa using blk_set G3.out 0 (.slice A1 pre1.length c1)
      have hkeep : ∀ k, k < W.heap.size → some k ≠ v.ownBlock → k ≠ w.heap.size + 1 → W2.heap[k]? = W.heap[k]? := fun k h1 h2 h3 => by
        rw [hW2]
        exact (Below.heap_setCell w1 _ _ k h3).trans (G2.out.block k h1 h2)
      have hsz : W.heap.size ≤ W2.heap.size := by rw [hW2]; simpa [World.setCell] using G2.out.size
      have hrow2 : ∀ k, Rowy W base k → some k ≠ v.ownBlock → Rowy W2 base k := fun k h1 h2 => by
        have h3 := h1.ne F3.out (by decide)
        have h4 := h1.lt
        obtain ⟨hb, cs, q, hc, hq⟩ := h1
        exact ⟨hb, cs, q, (hkeep k h4 h2 h3).trans hc, hq⟩
      have hown : ∀ k, okS k ∨ okx k → some k ≠ v.ownBlock := fun k hk e => by
        have h1 := SQ_ok F2.out k e.symm
        rcases hk with h | h
        · exact (F6.out k h).2.1 h1
        · exact (F7.out k h1).2.1 h
      have hTK : TkC w base b (w.heap.size + 1) w.heap.size (w.heap.size + 2) ok op sk most T pre1 fs2 (fun _ => False) W2 := by
        refine ⟨_, okS, (fun k => (okr k ∨ okx k ∨ W.heap.size ≤ k) ∧ Rowy w1 base k), Strm_step F1.out (fun k hk hlt => hkeep k hlt (hown k (.inl hk)) ((F6.out k hk).2.2.2.ne F3.out (by decide))), ?_, hb4, ?_, ?_, fun k hk => ⟨(F6.out k hk).1, ?_, fun h => h, hrow2 k (F6.out k hk).2.2.2 (hown k (.inl hk))⟩,
          fun k hk => ⟨?_, fun h => h, by rw [hW2]; exact hk.2.set _⟩, fun k hk => hk.elim, fun k hk => ⟨(F9.out k hk).1, ?_, fun h => h, (F9.out k hk).2.2.2.1, Nat.lt_of_lt_of_le (F9.out k hk).2.2.2.2 hsz⟩, ?_, ?_⟩
        · rw [hW2]
          exact SQ_step (SQ_rowy G1.out) (fun k hk _ => Below.heap_setCell w1 _ _ k (hk.2.ne G3.out (by decide)))
        · exact (hkeep _ (blk_lt F4.out) (fun e => (F7.out _ (SQ_ok F2.out _ e.symm)).2.2.ne F4.out (by decide) rfl) (by omega)).trans F4.out
        · exact (hkeep _ (blk_lt F5.out) (fun e => (F7.out _ (SQ_ok F2.out _ e.symm)).2.2.ne F5.out (by decide) rfl) (by omega)).trans F5.out
        · rintro ⟨h | h | h, _⟩
          · exact (F6.out k hk).2.1 h
          · exact (F6.out k hk).2.2.1 h
          · have := (F6.out k hk).2.2.2.lt
            omega
        · rcases hk.1 with h | h | h
          · exact (F7.out k h).1
          · exact .inl (F8.out k h).1
          · exact .inr (Nat.le_trans F10.out.size h)
        · rintro ⟨h | h | h, _⟩
          · exact (F9.out k hk).2.1 h
          · exact (F9.out k hk).2.2.1 h
          · have := (F9.out k hk).2.2.2.2
            omega
        · rw [hW2]
          exact (F10.out.then_ (Frm.of_grown G2.out (S := fun k => w.heap.size ≤ k) (fun k e => F11.out k e)) (fun k h1 h2 => by omega)).set_ (.inr (by show w.heap.size ≤ w.heap.size + 1; omega)) _
        · intro k hk
          rcases G4.out with h | ⟨b', h, h2⟩
          · exact F11.out k (h ▸ hk)
          · rw [hk] at h
            cases h
            exact Nat.le_trans F10.out.size h2
      have hTkeep : ∀ k, T k → W2.heap[k]? = W.heap[k]? := fun k hk => hkeep k (F9.out k hk).2.2.2.2 (fun e => (F9.out k hk).2.1 (SQ_ok F2.out k e.symm)) (F9.out k hk).2.2.2.1
      have c62 := blk_cell hb4 0
      have c32 : W2.cell? ⟨w.heap.size, 0, none⟩ = some (.int .i64 most) := by
        obtain ⟨_, _, _, _, _, _, h4, _⟩ := hTK
        exact blk_cell h4 0
      simp only [List.getElem?_toArray, List.getElem?_cons_zero] at c62
      have K1 := Aside0.mk hTK
      have K2 := Aside0.mk hTkeep
      have hle1 : (pre1.length : Int) ≤ most := by have := FL.out; have := FT.out; omega
      clear hW2 hb4 hkeep hsz hrow2 hown hTK hTkeep c61 z61
      by_cases hge : most ≤ (pre1.length : Int)
      · have hge' : (pre1.length : Int) = most := by omega
        have K3 := Aside0.mk hge'
        clear hge' hle1
        gi_wp2
        exact ⟨fun k hk => K2.out k hk.1, rfl, pre1, fs2, FS.out, K3.out, TkC_own K1.out (W' := W2) (row := none) ⟨rfl, rfl, rfl, Nat.le_refl _, fun _ _ _ => rfl⟩ (fun r e => by cases e) (fun k hk => hk.elim)⟩
      · have hge' : (pre1.length : Int) < most := by omega
        have K3 := Aside0.mk hge'
        clear hge' hle1
        gi_wp2
        exact ⟨fun k hk => K2.out k hk.1, pre1, FN.out.2, fs2, FS.out, K3.out, K1.out⟩
    case done =>
      rintro D pre W hD ⟨fs2, hfs, hlt, hTK⟩ hn hdef
      have hD' : w.heap.size ≤ D := Nat.le_trans HFC.out.size hD
      have hF2 : fs2 = [] := by
        obtain ⟨v, okS, okr, h1, _⟩ := hTK
        obtain ⟨vo, A, c, hb, _⟩ := Strm_blk h1
        obtain ⟨vo', A', c', sk', hb'⟩ := hn
        rw [hb] at hb'
        injection hb' with hb'
        injection hb' with hb'
        simp only [Array.mk.injEq, List.cons.injEq, Value.slice.injEq] at hb'
        exact List.eq_nil_of_length_eq_zero hb'.2.1.2.1
      have hTK2 := TkC_own (W' := W.putObj D (.deferred none)) hTK (grownBy_putObj' W D _) (fun r e => by cases e; exact ⟨hD', _, hdef, rfl⟩) (T' := fun _ => False) (fun k hk => hk.elim)
      obtain ⟨v, okS, okr, h1, h2, h3, h4, h5, h6, h7, h8, h9, h10, h11⟩ := hTK2
      have hc6 : W.cell? ⟨w.heap.size + 1, 0, none⟩ = some v := by
        have := h3
        rw [World.putObj_heap_other (fun e => by rw [← e] at hdef; obtain ⟨v', _, _, _, _, h3', _⟩ := hTK; rw [h3'] at hdef; cases hdef)] at this
        exact blk_cell this 0
      have K := Aside0.mk (show TkPost w base b ok op fs sk most (.returned (.tuple #[v, .bool true])) (W.putObj D (.deferred none)) from
        ⟨v, okS, okr, pre, fs2, rfl, hfs, by rw [hfs, hF2, List.append_nil]; omega, h2, h1, fun k hk => ⟨(h6 k hk).1, (h6 k hk).2.1⟩, fun k hk => (h7 k hk).1, h10⟩)
      clear h1 h2 h3 h4 h5 h6 h7 h8 h9 h10 h11 hF2 hTK hn hfs
      go_wp2
      refine ⟨by simp, .inl ⟨_, _, rfl, run_takeDeferred hdef, ?_⟩⟩
      exact ⟨_, results_tmp2 (fn := Try.f42) (t := 4) (u := 5) rfl _ _ _, K.out⟩
    case stop =>
      rintro D c W hD ⟨rfl, pre, fs2, hfs, hlt, hTK⟩ hdef
      have hD' : w.heap.size ≤ D := Nat.le_trans HFC.out.size hD
      have hTK2 := TkC_own (W' := W.putObj D (.deferred none)) hTK (grownBy_putObj' W D _) (fun r e => by cases e; exact ⟨hD', _, hdef, rfl⟩) (T' := fun _ => False) (fun k hk => hk.elim)
      obtain ⟨v, okS, okr, h1, h2, h3, h4, h5, h6, h7, h8, h9, h10, h11⟩ := hTK2
      have hc6 : W.cell? ⟨w.heap.size + 1, 0, none⟩ = some v := by
        have := h3
        rw [World.putObj_heap_other (fun e => by rw [← e] at hdef; obtain ⟨v', _, _, _, _, h3', _⟩ := hTK; rw [h3'] at hdef; cases hdef)] at this
        exact blk_cell this 0
      have K := Aside0.mk (show TkPost w base b ok op fs sk most (.returned (.tuple #[v, .bool true])) (W.putObj D (.deferred none)) from
        ⟨v, okS, okr, pre, fs2, rfl, hfs, by rw [hfs, List.length_append]; omega, h2, h1, fun k hk => ⟨(h6 k hk).1, (h6 k hk).2.1⟩, fun k hk => (h7 k hk).1, h10⟩)
      clear h1 h2 h3 h4 h5 h6 h7 h8 h9 h10 h11 hTK hfs
      go_wp2
      refine ⟨by simp, .inl ⟨_, _, rfl, run_takeDeferred hdef, ?_⟩⟩
      exact ⟨_, results_tmp2 (fn := Try.f42) (t := 4) (u := 5) rfl _ _ _, K.out⟩
end Go.Proofs.Ytnanaojjhmpilaa.PW
namespace Go.Proofs.Ytnanaojjhmpilaa.PW
open Go.RowKit Go.Proofs.YtnanaojjhmpilaaW.PrintWords Go.Proofs.YtnanaojjhmpilaaW.PrintLast Go.Proofs.YtnanaojjhmpilaaW.PrintMore
set_option linter.unusedVariables false
set_option linter.unusedSimpArgs false

theorem skipped_C (b sk : Nat) (vo vf : Value) (w : World) (hb : w.heap[b]? = some (.cells #[vo, vf, .int .i64 (sk : Int)] 53 (0, 0))) :
    Calls Try.prog 44 #[.pointer (some ⟨b, 0, none⟩)] w fun e w' => e = .returned (.int .i64 (sk : Int)) ∧ w = w' := by
  have hc := blk_cell hb 2
  simp only [List.getElem?_toArray, List.getElem?_cons_zero, List.getElem?_cons_succ] at hc
  clear hb
  go_enter Try.func44, Try.ntmps44
  go_wp2
  go_ret
  exact ⟨rfl, rfl⟩
/-- The i-th body of a row, and those behind it. -/
theorem tail_pop {W : World} {base : Nat} {okr : Nat → Prop} {ad : Addr} {m c i : Nat} {fs : List (List Int)} (h : SQ (Kd.slice 5 (Kd.int .u8)) 22 W base okr (.slice (some (ad.add i)) (m - i) (c - i)) (fs.drop i)) (hi : i < m) (hl : fs.length = m) (hc : m ≤ c) :
    ∃ okx Ax cx hd, fs[i]? = some hd ∧ W.cell? (ad.add i) = some (.slice Ax hd.length cx) ∧ hd.length ≤ cx ∧ Kd.R (Kd.int .u8) 5 W base okx (.slice Ax hd.length cx) hd ∧ (∀ k, okx k → okr k ∧ k ≠ ad.block) ∧ okr ad.block ∧
      (i + 1 < m → SQ (Kd.slice 5 (Kd.int .u8)) 22 W base (fun k => okr k ∧ ¬ okx k) (.slice (some (ad.add (i + 1))) (m - (i + 1)) (c - (i + 1))) (fs.drop (i + 1))) := by
  have hlt : i < fs.length := by omega
  rw [List.drop_eq_getElem_cons hlt] at h
  obtain ⟨okx, ad', cs, hA, hcs, hM, hcell, hox, hq⟩ := SQ_pop h
  cases hA
  obtain ⟨v, rfl, hr⟩ : ∃ v, cs = [v] ∧ Kd.R (Kd.int .u8) 5 W base okx v fs[i] := hM
  obtain ⟨Ax, cx, rfl, hlx, _⟩ := Kd.R_reads hr
  have hc0 := hcell 0 _ (by simp; rfl)
  rw [Addr.add_zero'] at hc0
  have hblk : (ad.add i).block = ad.block := by unfold Addr.add; split <;> rfl
  refine ⟨okx, Ax, cx, fs[i], List.getElem?_eq_getElem hlt, hc0, hlx, hr, fun k hk => ⟨(hox k hk).1, fun e => (hox k hk).2 ?_⟩, ?_, fun h1 => ?_⟩
  · rw [e, ← hblk]; rfl
  · have := SQ_ok h (ad.add i).block rfl
    rwa [hblk] at this
  · have hne : ¬ (c - i = 1) := by omega
    rw [if_neg hne] at hq
    have e1 : (some (ad.add i)).map (·.add (1 * (Kd.slice 5 (Kd.int .u8)).sz)) = some (ad.add (i + 1)) := by
      show some ((ad.add i).add (1 * 1)) = _
      rw [Go.Addr.add_add]
    rw [e1] at hq
    simpa [Nat.sub_sub] using hq
theorem add_blk (ad : Addr) (i : Nat) : (ad.add i).block = ad.block := by unfold Addr.add; split <;> rfl
theorem want_at {X pre fs1 fs2 : List (List Int)} {got i : Nat} {hd : List Int} (hX : X = pre ++ (fs1 ++ fs2)) (hg : pre.length = got) (hi : fs1[i]? = some hd) : rd_L1 X ((got + i : Nat) : Int) = hd := by
  unfold rd_L1
  have hlt := (List.getElem?_eq_some_iff.1 hi).1
  rw [Int.toNat_natCast, List.getD_eq_getElem?_getD, hX, List.getElem?_append_right (by omega), show got + i - pre.length = i by omega, List.getElem?_append_left hlt, hi]
  rfl
/-- What follows leaves. -/
def FlPost (base b : Nat) (ok : Nat → Prop) (op : List Int) (fs : List (List Int)) (sk got m : Nat) (w : World) (e : Ending) (w' : World) : Prop :=
  e = .returned (.tuple #[.int .i64 ((got + m : Nat) : Int), .bool true]) ∧ (∃ okS, Strm w' base okS b op (fs.drop m) sk ∧ ∀ k, okS k → ok k) ∧ Frm w w' ok

set_option maxHeartbeats 16000000 in
set_option maxRecDepth 100000 in
theorem follows_C (wl : World) (A : Option Addr) (n c : Nat) (ls : List (List Int)) (F : List Int) (b : Nat) (ok : Nat → Prop) (op : List Int) (fs pre : List (List Int)) (sk got : Nat) (most : Int) (w : World)
    (hC : Kd.C (Kd.slice 5 (Kd.int .u8)) wl A n ls) (hn : ls.length = n) (hc : n ≤ c) (hF : ls.flatten = F) (hFo : bytesOk F = true) (hFl : F.length ≤ 1000000) (hn2 : n ≤ 1000000)
    (hB : Below wl.heap.size wl w) (hS : Strm w wl.heap.size ok b op fs sk) (hpre : (scan F).1 = pre ++ fs) (hgot : pre.length = got) (hsk : (scan F).2.1 = sk) :
    Calls Try.prog 40 #[.pointer (some ⟨b, 0, none⟩), .slice A n c, .int .i64 (got : Int), .int .i64 most] w (FlPost wl.heap.size b ok op fs sk got (min most.toNat fs.length) w) := by
  obtain ⟨X, hX⟩ : ∃ X, X = (scan F).1 := ⟨_, rfl⟩
  have hsz := scan_size F.length F (Nat.le_refl _)
  rw [← hX] at hpre hsz
  have hXl : X.length = got + fs.length := by rw [hpre, List.length_append, hgot]
  obtain ⟨N, hN⟩ : ∃ N, N = fs.length := ⟨_, rfl⟩
  rw [← hN] at hXl
  have hXm : X.length ≤ 1000000 := by omega
  have hXS : ∀ v W B ok, Kd.S (Kd.slice 5 (Kd.int .u8)) 22 W B ok v (scan F).1 → Kd.S (Kd.slice 5 (Kd.int .u8)) 22 W B ok v X := fun v W B ok h => by rw [hX]; exact h
  have HC := Aside0.mk hC
  have HN := Aside0.mk hn
  have HCC := Aside0.mk hc
  have HF := Aside0.mk hF
  have HFO := Aside0.mk hFo
  have HFL := Aside0.mk hFl
  have HB := Aside0.mk hB
  have HS := Aside0.mk (Strm_bound hS)
  have HSK := Aside0.mk hsk
  have HXS := Aside0.mk hXS
  have HXL := Aside0.mk hXl
  have HFS := Aside0.mk hN
  have HP := Aside0.mk hpre
  have HG := Aside0.mk hgot
  have hgm : got ≤ 1000000 := by omega
  have hNm : N ≤ 1000000 := by omega
  have HBD := Aside0.mk (show ∀ p ∈ X, p.length ≤ 1000000 from fun p hp => by have := len_mem hp; unfold tot at this; omega)
  have HT := Aside0.mk (show tot ls ≤ 1000000000000 by unfold tot; rw [hF]; omega)
  rw [← hN]
  obtain ⟨M, hM⟩ : ∃ M, M = min most.toNat N := ⟨_, rfl⟩
  rw [← hM]
  have HMM := Aside0.mk hM
  clear hC hn hc hM hF hFo hFl hB hS hsk hXS hpre hgot hX hsz hXl hN
  go_enter Try.func40, Try.ntmps40
  go_wp2_with fail
  refine (joined_N A c n ls F _ HN.out (Kd.C_below HC.out HB.out) HCC.out HT.out (by omega) HF.out).mono ?_
  rintro e1 w1 ⟨v1, rfl, ho, hb⟩
  obtain ⟨A1, c1, rfl, hl1, hC1⟩ := Kd.R_reads ho
  have HC1 := Aside0.mk hC1
  have HB1 := Aside0.mk hb
  have HS1 := Aside0.mk (Strm_below HS.out hb)
  clear ho hb hC1
  go_wp2_with fail
  refine (says_M A1 c1 F.length F _ rfl HC1.out hl1 HFO.out HFL.out).mono ?_
  rintro e2 w2 ⟨v2, rfl, ho, hb⟩
  rw [HSK.out]
  have hoX : Kd.S (Kd.slice 5 (Kd.int .u8)) 22 w2 wl.heap.size (fun k => w.heap.size ≤ k ∧ k < w2.heap.size) v2 X := Kd.S_lower (Kd.S_mono (Kd.S_bound (HXS.out _ _ _ _ ho)) (fun k hk => ⟨Nat.le_trans HB1.out.size hk.2.1, hk.2.2.1⟩)) (Nat.le_trans HB.out.size HB1.out.size)
  obtain ⟨A2, c2, rfl, hl2, _⟩ := Kd.S_reads hoX
  have HW2 := Aside0.mk hoX
  have HB2 := Aside0.mk (below_step HB1.out hb)
  have HS2 := Aside0.mk (Strm_below HS1.out hb)
  clear ho hb hoX HC1 HS1 HB1
  go_wp2_with fail
  refine (taken_C b wl.heap.size _ op fs sk most _ HS2.out (Nat.le_trans HB.out.size HB2.out.size) (by rw [← HFS.out]; exact hNm)).mono ?_
  rintro e3 w3 ⟨v3, okS, okr, fs1, fs2, rfl, hfs, hl3, hq, hs, hS1, hS2, hf⟩
  rw [← HFS.out] at hl3
  obtain ⟨m, hm⟩ : ∃ m, fs1.length = m := ⟨_, rfl⟩
  obtain ⟨A3, c3, rfl, hlc3⟩ := SQ_slice hq
  rw [hm] at hl3 hlc3 hq ⊢
  have hnm : N = m + fs2.length := by rw [HFS.out, hfs, List.length_append, hm]
  have hmN : m ≤ N := by omega
  have hfd : fs.drop m = fs2 := by rw [hfs, ← hm]; simp
  obtain rfl : m = M := by rw [hl3, HMM.out]
  have HM := Aside0.mk hm
  have HFD := Aside0.mk hfd
  have hsub : (X.length : Int) - (got : Int) = (N : Int) := by have := HXL.out; omega
  have HQ3 := Aside0.mk hq
  have HS3 := Aside0.mk hs
  have HD1 := Aside0.mk hS1
  have HD2 := Aside0.mk hS2
  have HF3 := Aside0.mk hf
  have HFS3 := Aside0.mk hfs
  have HL3 := Aside0.mk hl3
  obtain ⟨vo3, A3', c3', hb3, _⟩ := Strm_blk hs
  have HBK := Aside0.mk hb3
  clear hq hs hS1 hS2 hf hfs hb3 hm hfd hnm HMM
  go_wp2_with fail
  refine (skipped_C b sk vo3 (.slice A3' fs2.length c3') _ HBK.out).mono ?_
  rintro e4 w4 ⟨rfl, rfl⟩
  have hbw : b < w.heap.size := by obtain ⟨_, h, _⟩ := HS.out; exact h.2.2
  have HOB := Aside0.mk (show ok b by obtain ⟨_, h, _⟩ := HS.out; exact h.1)
  have HW3 := Aside0.mk (show Kd.S (Kd.slice 5 (Kd.int .u8)) 22 w3 wl.heap.size (fun k => w.heap.size ≤ k ∧ k < w2.heap.size) (.slice A2 X.length c2) X from
    Kd.S_step HW2.out (fun k hk hlt => HF3.out.block k hlt (fun e => by omega)))
  have HFW := Aside0.mk (show Frm w w3 ok from (Frm.of_below HB2.out ok).then_ HF3.out (fun k e _ => e ▸ HOB.out))
  have HA3 := Aside0.mk (show 0 < m → ∃ ad, A3 = some ad from fun h0 => by
    have hq := HQ3.out
    cases hf1 : fs1 with
    | nil => have := HM.out; rw [hf1] at this; simp at this; omega
    | cons x xs =>
      rw [hf1] at hq
      obtain ⟨_, ad, _, hA, _⟩ := SQ_pop hq
      exact ⟨ad, hA⟩)
  have HLC := Aside0.mk hlc3
  have HQ3' := Aside0.mk (show SQ (Kd.slice 5 (Kd.int .u8)) 22 w3 wl.heap.size okr (.slice (A3.map (·.add 0)) (m - 0) (c3 - 0)) (fs1.drop 0) from by
    have : A3.map (·.add 0) = A3 := by cases A3 <;> simp [Addr.add_zero']
    rw [this]; exact HQ3.out)
  clear hlc3
  by_cases q1 : most < 0
  · have q2 : ¬ ((N : Int) ≤ most) := by omega
    have hm0 : m = 0 := by omega
    clear hl3
    subst hm0
    go_wp2
    go_loopw [15] (fun v15 wr => v15 = .int .i64 0 ∧ Aside0 (wr = w3)) (fun _ _ => 0)
    case atStart => exact ⟨rfl, ⟨rfl⟩⟩
    case round =>
      obtain ⟨rfl, HE⟩ := hrel
      go_wp2
      go_ret2
      rw [HE.out]
      exact ⟨by simp, ⟨okS, by rw [HFD.out]; exact HS3.out, fun k hk => (HD1.out k hk).1.1⟩, HFW.out⟩
  · by_cases q2 : (N : Int) ≤ most
    · have hmn : m = N := by omega
      subst hmn
      clear hl3
      have d1 : decide (most < (m : Int)) = false := decide_eq_false (by omega)
      have d2 : decide ((m : Int) < 0) = false := decide_eq_false (by omega)
      go_wp2
      go_loopw [15] (fun v15 wr => ∃ (i : Nat) (okq : Nat → Prop), i ≤ m ∧ v15 = .int .i64 (i : Int) ∧ Aside0 (∀ k, okq k → okr k) ∧ Aside0 (i < m → SQ (Kd.slice 5 (Kd.int .u8)) 22 wr wl.heap.size okq (.slice (A3.map (·.add i)) (m - i) (c3 - i)) (fs1.drop i)) ∧
        Aside0 (Strm wr wl.heap.size okS b op fs2 sk) ∧ Aside0 (Kd.S (Kd.slice 5 (Kd.int .u8)) 22 wr wl.heap.size (fun k => w.heap.size ≤ k ∧ k < w2.heap.size) (.slice A2 X.length c2) X) ∧ Aside0 (Frm w wr ok)) (fun v15 _ => m - (intOf v15).toNat)
      case atStart => exact ⟨0, okr, Nat.zero_le _, rfl, ⟨fun k hk => hk⟩, ⟨fun _ => HQ3'.out⟩, HS3, HW3, HFW⟩
      case round =>
        clear HQ3' HQ3 HS3 HW3 HFW HBK
        obtain ⟨i, okq, hi, rfl, HOQ, HQ, HST, HWT, HFR⟩ := hrel
        by_cases hlt : i < m
        · obtain ⟨ad, rfl⟩ := HA3.out (by omega)
          have hq := HQ.out hlt
          simp only [Option.map_some] at hq
          obtain ⟨okx, Ax, cx, hd, hget, hcell, hlx, hrow, hox, hob, htail⟩ := tail_pop hq hlt HM.out HLC.out
          have hgl : got + i < X.length := by have := HXL.out; omega
          obtain ⟨ad2, A0, c0, rfl, hy, hly, hCy⟩ := at_L1 (Kd.S_reads' HWT.out).2.2 ((got + i : Nat) : Int) (by omega) (by omega)
          rw [Int.toNat_natCast] at hy
          rw [want_at (by rw [HP.out, HFS3.out]) HG.out hget] at hy hly hCy
          have hdl : hd.length ≤ 1000000 := HBD.out hd (by rw [HP.out, HFS3.out]; exact List.mem_append_right _ (List.mem_append_left _ (List.mem_of_getElem? hget)))
          have hw1 : IntKind.i64.wrap ((got : Int) + (i : Int)) = (got : Int) + i := IntWalk.i64_in _ (by omega)
          have hw0 : (0 : Int) ≤ (got : Int) + i := by omega
          have hw2 : ((got : Int) + (i : Int)).toNat = got + i := by omega
          have hw3 : (got : Int) + (i : Int) < (X.length : Int) := by omega
          have I1 := Aside0.mk hrow
          have I2 := Aside0.mk hox
          have I3 := Aside0.mk hob
          have I4 := Aside0.mk htail
          have I5 := Aside0.mk hCy
          have I6 := Aside0.mk (Kd.R_reads' hrow).2.2
          clear hq hrow hox hob htail hCy hget
          go_wp2_with fail
          go_quiet (first | (go_at_call 20; exact Drawn0.quiet (heraldlaw2_same.callsB true 10000000 Ax cx hd.length hd A0 c0 hd.length hd _ (decide_eq_true rfl) rfl rfl (by repeat (first | exact I6.out | apply Kd.C_drewN | apply Kd.C_drew)) hlx (by repeat (first | exact I5.out | apply Kd.C_drewN | apply Kd.C_drew)) hly (by omega) (by omega))))
          obtain ⟨W3, hW3⟩ : ∃ W3 : World, W3 = wr.drewN nq := ⟨_, rfl⟩
          rw [← hW3]
          have J1 := Aside0.mk (show Kd.R (Kd.int .u8) 5 W3 wl.heap.size okx (.slice Ax hd.length cx) hd from hW3 ▸ Kd.R_drewN I1.out nq)
          have J2 := Aside0.mk (show W3.cell? (ad.add i) = some (.slice Ax hd.length cx) from by rw [hW3]; exact hcell)
          have J3 := Aside0.mk (show i + 1 < m → SQ (Kd.slice 5 (Kd.int .u8)) 22 W3 wl.heap.size (fun k => okq k ∧ ¬ okx k) (.slice (some (ad.add (i + 1))) (m - (i + 1)) (c3 - (i + 1))) (fs1.drop (i + 1)) from fun h => by rw [hW3]; exact SQ_step (I4.out h) (fun _ _ _ => rfl))
          have J4 := Aside0.mk (show Strm W3 wl.heap.size okS b op fs2 sk from by rw [hW3]; exact Strm_step HST.out (fun _ _ _ => rfl))
          have J5 := Aside0.mk (show Kd.S (Kd.slice 5 (Kd.int .u8)) 22 W3 wl.heap.size (fun k => w.heap.size ≤ k ∧ k < w2.heap.size) (.slice (some ad2) X.length c2) X from hW3 ▸ Kd.S_drewN HWT.out nq)
          have J6 := Aside0.mk (show Frm w W3 ok from by rw [hW3]; exact ⟨HFR.out.os, HFR.out.tape, HFR.out.output, HFR.out.size, HFR.out.block⟩)
          clear hW3 I1 I4 I5 I6 HQ HST HWT HFR hcell hy hly hw1 hw0 hw2 hw3
          go_wp2
          go_loopw [16] (fun v16 wi => ∃ (k : Nat) (cur : List Int), k ≤ hd.length ∧ v16 = .int .i64 (k : Int) ∧ Aside0 (cur.length = hd.length) ∧ Aside0 (Kd.R (Kd.int .u8) 5 wi wl.heap.size okx (.slice Ax hd.length cx) cur) ∧ Aside0 (wi.cell? (ad.add i) = some (.slice Ax hd.length cx)) ∧
            Aside0 (i + 1 < m → SQ (Kd.slice 5 (Kd.int .u8)) 22 wi wl.heap.size (fun k => okq k ∧ ¬ okx k) (.slice (some (ad.add (i + 1))) (m - (i + 1)) (c3 - (i + 1))) (fs1.drop (i + 1))) ∧
            Aside0 (Strm wi wl.heap.size okS b op fs2 sk) ∧ Aside0 (Kd.S (Kd.slice 5 (Kd.int .u8)) 22 wi wl.heap.size (fun k => w.heap.size ≤ k ∧ k < w2.heap.size) (.slice (some ad2) X.length c2) X) ∧ Aside0 (Frm w wi ok)) (fun v16 _ => hd.length - (intOf v16).toNat)
          case atStart => exact ⟨0, hd, Nat.zero_le _, rfl, ⟨rfl⟩, J1, J2, J3, J4, J5, J6⟩
          case round =>
            clear J1 J2 J3 J4 J5 J6
            obtain ⟨k, cur, hk, rfl, L1, L2, L3, L4, L5, L6, L7⟩ := hrel
            have hcell := L3.out
            by_cases hkl : k < hd.length
            · obtain ⟨g, rfl, hgb, hcg, hfg, hst⟩ := R8_stored (Kd.R_mono L2.out (fun _ _ => trivial)) k hkl
              have hxg := L2.out.1 g rfl
              have hqg := (I2.out g hxg).1
              have hgne := (I2.out g hxg).2
              have hrg := HOQ.out g hqg
              have M1 := Aside0.mk hst
              have M2 := Aside0.mk hxg
              have M3 := Aside0.mk hrg
              have M4 := Aside0.mk hgne
              have M5 := Aside0.mk (show ok g ∨ w.heap.size ≤ g from (HD2.out g hrg).elim (fun h => .inl h.1) (fun h => .inr (Nat.le_trans HB2.out.size h)))
              have M6 := Aside0.mk (show ∀ k, w.heap.size ≤ k ∧ k < w2.heap.size → k ≠ g from fun k hk e => by
                subst e
                rcases HD2.out k hrg with h | h
                · have := h.2.2; omega
                · omega)
              clear hst hxg hqg hgne hrg
              go_wp2
              go_roundw
              case rel =>
                refine ⟨k + 1, cur.set k 238, by omega, by go_num, ⟨by rw [List.length_set]; exact L1.out⟩, ⟨R8_ok' (M1.out 238) (fun k' hk' => L2.out.1 k' hk')⟩, ⟨?_⟩, ⟨fun h => SQ_step (L4.out h) (fun k' hk' _ => Below.heap_setCell wr _ _ k' (fun e => hk'.2 (by have e' : k' = g := e; rw [e']; exact M2.out)))⟩,
                  ⟨Strm_step L5.out (fun k' hk' _ => Below.heap_setCell wr _ _ k' (fun e => (HD1.out k' hk').2 (by have e' : k' = g := e; rw [e']; exact M3.out)))⟩, ⟨Kd.S_step L6.out (fun k' hk' _ => Below.heap_setCell wr _ _ k' (M6.out k' hk'))⟩, ⟨L7.out.set_ M5.out _⟩⟩
                rw [World.cell?_of_block (Below.heap_setCell wr _ _ (ad.add i).block (fun e => M4.out (by have e' : (ad.add i).block = g := e; rw [add_blk] at e'; exact e'.symm)))]
                exact L3.out
              case measure => simp [intOf]; omega
            · have hkk : k = hd.length := by omega
              subst hkk
              go_wp2
              go_roundw
              case rel =>
                exact ⟨i + 1, fun k => okq k ∧ ¬ okx k, by omega, by go_num, ⟨fun k hk => HOQ.out k hk.1⟩, ⟨fun h => L4.out h⟩, L5, L6, L7⟩
              case measure => simp [intOf]; omega
        · have him : i = m := by omega
          subst him
          go_wp2
          go_ret2
          exact ⟨by simp, ⟨okS, by rw [HFD.out]; exact HST.out, fun k hk => (HD1.out k hk).1.1⟩, HFR.out⟩
    · have hmm : (m : Int) = most := by omega
      subst hmm
      clear hl3
      have d1 : decide ((m : Int) < (N : Int)) = true := decide_eq_true (by omega)
      have d2 : decide ((m : Int) < 0) = false := decide_eq_false (by omega)
      go_wp2
      go_loopw [15] (fun v15 wr => ∃ (i : Nat) (okq : Nat → Prop), i ≤ m ∧ v15 = .int .i64 (i : Int) ∧ Aside0 (∀ k, okq k → okr k) ∧ Aside0 (i < m → SQ (Kd.slice 5 (Kd.int .u8)) 22 wr wl.heap.size okq (.slice (A3.map (·.add i)) (m - i) (c3 - i)) (fs1.drop i)) ∧
        Aside0 (Strm wr wl.heap.size okS b op fs2 sk) ∧ Aside0 (Kd.S (Kd.slice 5 (Kd.int .u8)) 22 wr wl.heap.size (fun k => w.heap.size ≤ k ∧ k < w2.heap.size) (.slice A2 X.length c2) X) ∧ Aside0 (Frm w wr ok)) (fun v15 _ => m - (intOf v15).toNat)
      case atStart => exact ⟨0, okr, Nat.zero_le _, rfl, ⟨fun k hk => hk⟩, ⟨fun _ => HQ3'.out⟩, HS3, HW3, HFW⟩
      case round =>
        clear HQ3' HQ3 HS3 HW3 HFW HBK
        obtain ⟨i, okq, hi, rfl, HOQ, HQ, HST, HWT, HFR⟩ := hrel
        by_cases hlt : i < m
        · obtain ⟨ad, rfl⟩ := HA3.out (by omega)
          have hq := HQ.out hlt
          simp only [Option.map_some] at hq
          obtain ⟨okx, Ax, cx, hd, hget, hcell, hlx, hrow, hox, hob, htail⟩ := tail_pop hq hlt HM.out HLC.out
          have hgl : got + i < X.length := by have := HXL.out; omega
          obtain ⟨ad2, A0, c0, rfl, hy, hly, hCy⟩ := at_L1 (Kd.S_reads' HWT.out).2.2 ((got + i : Nat) : Int) (by omega) (by omega)
          rw [Int.toNat_natCast] at hy
          rw [want_at (by rw [HP.out, HFS3.out]) HG.out hget] at hy hly hCy
          have hdl : hd.length ≤ 1000000 := HBD.out hd (by rw [HP.out, HFS3.out]; exact List.mem_append_right _ (List.mem_append_left _ (List.mem_of_getElem? hget)))
          have hw1 : IntKind.i64.wrap ((got : Int) + (i : Int)) = (got : Int) + i := IntWalk.i64_in _ (by omega)
          have hw0 : (0 : Int) ≤ (got : Int) + i := by omega
          have hw2 : ((got : Int) + (i : Int)).toNat = got + i := by omega
          have hw3 : (got : Int) + (i : Int) < (X.length : Int) := by omega
          have I1 := Aside0.mk hrow
          have I2 := Aside0.mk hox
          have I3 := Aside0.mk hob
          have I4 := Aside0.mk htail
          have I5 := Aside0.mk hCy
          have I6 := Aside0.mk (Kd.R_reads' hrow).2.2
          clear hq hrow hox hob htail hCy hget
          go_wp2_with fail
          go_quiet (first | (go_at_call 20; exact Drawn0.quiet (heraldlaw2_same.callsB true 10000000 Ax cx hd.length hd A0 c0 hd.length hd _ (decide_eq_true rfl) rfl rfl (by repeat (first | exact I6.out | apply Kd.C_drewN | apply Kd.C_drew)) hlx (by repeat (first | exact I5.out | apply Kd.C_drewN | apply Kd.C_drew)) hly (by omega) (by omega))))
          obtain ⟨W3, hW3⟩ : ∃ W3 : World, W3 = wr.drewN nq := ⟨_, rfl⟩
          rw [← hW3]
          have J1 := Aside0.mk (show Kd.R (Kd.int .u8) 5 W3 wl.heap.size okx (.slice Ax hd.length cx) hd from hW3 ▸ Kd.R_drewN I1.out nq)
          have J2 := Aside0.mk (show W3.cell? (ad.add i) = some (.slice Ax hd.length cx) from by rw [hW3]; exact hcell)
          have J3 := Aside0.mk (show i + 1 < m → SQ (Kd.slice 5 (Kd.int .u8)) 22 W3 wl.heap.size (fun k => okq k ∧ ¬ okx k) (.slice (some (ad.add (i + 1))) (m - (i + 1)) (c3 - (i + 1))) (fs1.drop (i + 1)) from fun h => by rw [hW3]; exact SQ_step (I4.out h) (fun _ _ _ => rfl))
          have J4 := Aside0.mk (show Strm W3 wl.heap.size okS b op fs2 sk from by rw [hW3]; exact Strm_step HST.out (fun _ _ _ => rfl))
          have J5 := Aside0.mk (show Kd.S (Kd.slice 5 (Kd.int .u8)) 22 W3 wl.heap.size (fun k => w.heap.size ≤ k ∧ k < w2.heap.size) (.slice (some ad2) X.length c2) X from hW3 ▸ Kd.S_drewN HWT.out nq)
          have J6 := Aside0.mk (show Frm w W3 ok from by rw [hW3]; exact ⟨HFR.out.os, HFR.out.tape, HFR.out.output, HFR.out.size, HFR.out.block⟩)
          clear hW3 I1 I4 I5 I6 HQ HST HWT HFR hcell hy hly hw1 hw0 hw2 hw3
          go_wp2
          go_loopw [16] (fun v16 wi => ∃ (k : Nat) (cur : List Int), k ≤ hd.length ∧ v16 = .int .i64 (k : Int) ∧ Aside0 (cur.length = hd.length) ∧ Aside0 (Kd.R (Kd.int .u8) 5 wi wl.heap.size okx (.slice Ax hd.length cx) cur) ∧ Aside0 (wi.cell? (ad.add i) = some (.slice Ax hd.length cx)) ∧
            Aside0 (i + 1 < m → SQ (Kd.slice 5 (Kd.int .u8)) 22 wi wl.heap.size (fun k => okq k ∧ ¬ okx k) (.slice (some (ad.add (i + 1))) (m - (i + 1)) (c3 - (i + 1))) (fs1.drop (i + 1))) ∧
            Aside0 (Strm wi wl.heap.size okS b op fs2 sk) ∧ Aside0 (Kd.S (Kd.slice 5 (Kd.int .u8)) 22 wi wl.heap.size (fun k => w.heap.size ≤ k ∧ k < w2.heap.size) (.slice (some ad2) X.length c2) X) ∧ Aside0 (Frm w wi ok)) (fun v16 _ => hd.length - (intOf v16).toNat)
          case atStart => exact ⟨0, hd, Nat.zero_le _, rfl, ⟨rfl⟩, J1, J2, J3, J4, J5, J6⟩
          case round =>
            clear J1 J2 J3 J4 J5 J6
            obtain ⟨k, cur, hk, rfl, L1, L2, L3, L4, L5, L6, L7⟩ := hrel
            have hcell := L3.out
            by_cases hkl : k < hd.length
            · obtain ⟨g, rfl, hgb, hcg, hfg, hst⟩ := R8_stored (Kd.R_mono L2.out (fun _ _ => trivial)) k hkl
              have hxg := L2.out.1 g rfl
              have hqg := (I2.out g hxg).1
              have hgne := (I2.out g hxg).2
              have hrg := HOQ.out g hqg
              have M1 := Aside0.mk hst
              have M2 := Aside0.mk hxg
              have M3 := Aside0.mk hrg
              have M4 := Aside0.mk hgne
              have M5 := Aside0.mk (show ok g ∨ w.heap.size ≤ g from (HD2.out g hrg).elim (fun h => .inl h.1) (fun h => .inr (Nat.le_trans HB2.out.size h)))
              have M6 := Aside0.mk (show ∀ k, w.heap.size ≤ k ∧ k < w2.heap.size → k ≠ g from fun k hk e => by
                subst e
                rcases HD2.out k hrg with h | h
                · have := h.2.2; omega
                · omega)
              clear hst hxg hqg hgne hrg
              go_wp2
              go_roundw
              case rel =>
                refine ⟨k + 1, cur.set k 238, by omega, by go_num, ⟨by rw [List.length_set]; exact L1.out⟩, ⟨R8_ok' (M1.out 238) (fun k' hk' => L2.out.1 k' hk')⟩, ⟨?_⟩, ⟨fun h => SQ_step (L4.out h) (fun k' hk' _ => Below.heap_setCell wr _ _ k' (fun e => hk'.2 (by have e' : k' = g := e; rw [e']; exact M2.out)))⟩,
                  ⟨Strm_step L5.out (fun k' hk' _ => Below.heap_setCell wr _ _ k' (fun e => (HD1.out k' hk').2 (by have e' : k' = g := e; rw [e']; exact M3.out)))⟩, ⟨Kd.S_step L6.out (fun k' hk' _ => Below.heap_setCell wr _ _ k' (M6.out k' hk'))⟩, ⟨L7.out.set_ M5.out _⟩⟩
                rw [World.cell?_of_block (Below.heap_setCell wr _ _ (ad.add i).block (fun e => M4.out (by have e' : (ad.add i).block = g := e; rw [add_blk] at e'; exact e'.symm)))]
                exact L3.out
              case measure => simp [intOf]; omega
            · have hkk : k = hd.length := by omega
              subst hkk
              go_wp2
              go_roundw
              case rel =>
                exact ⟨i + 1, fun k => okq k ∧ ¬ okx k, by omega, by go_num, ⟨fun k hk => HOQ.out k hk.1⟩, ⟨fun h => L4.out h⟩, L5, L6, L7⟩
              case measure => simp [intOf]; omega
        · have him : i = m := by omega
          subst him
          go_wp2
          go_ret2
          exact ⟨by simp, ⟨okS, by rw [HFD.out]; exact HST.out, fun k hk => (HD1.out k hk).1.1⟩, HFR.out⟩
end Go.Proofs.Ytnanaojjhmpilaa.PW
namespace Go.Proofs.Ytnanaojjhmpilaa.PW
open Go.RowKit Go.Proofs.YtnanaojjhmpilaaW.PrintWords Go.Proofs.YtnanaojjhmpilaaW.PrintLast Go.Proofs.YtnanaojjhmpilaaW.PrintMore
set_option linter.unusedVariables false
set_option linter.unusedSimpArgs false

/-- The stream in block b was fed F; pre has been handed on, fs is found and not yet asked for. -/
def StrmAt (W : World) (base : Nat) (ok : Nat → Prop) (b : Nat) (F : List Int) (pre fs : List (List Int)) : Prop := Strm W base ok b (scan F).2.2 fs (scan F).2.1 ∧ (scan F).1 = pre ++ fs
theorem scan_nil : scan [] = ([], 0, []) := scan_wait rfl
theorem Strm_new {W : World} {base b : Nat} (hb : W.heap[b]? = some (.cells #[.slice none 0 0, .slice none 0 0, .int .i64 0] 53 (0, 0))) (hbase : base ≤ b) : Strm W base (fun k => k = b) b [] [] 0 :=
  ⟨hbase, rfl, .slice none 0 0, .slice none 0 0, fun _ => False, hb, Kd.R_nil _ _ _ _ _, SQ_nil _ _ _ _ _, fun k hk => hk.elim⟩
theorem StrmAt_new {W : World} {base b : Nat} (hb : W.heap[b]? = some (.cells #[.slice none 0 0, .slice none 0 0, .int .i64 0] 53 (0, 0))) (hbase : base ≤ b) : StrmAt W base (fun k => k = b) b [] [] [] := by
  unfold StrmAt
  rw [scan_nil]
  exact ⟨Strm_new hb hbase, rfl⟩
section
variable {W W1 : World} {base b : Nat} {ok ok' S : Nat → Prop} {F : List Int} {pre fs : List (List Int)}
theorem StrmAt_mono (h : StrmAt W base ok b F pre fs) (hok : ∀ k, ok k → ok' k) : StrmAt W base ok' b F pre fs := ⟨Strm_mono h.1 hok, h.2⟩
theorem StrmAt_bound (h : StrmAt W base ok b F pre fs) : StrmAt W base (fun k => ok k ∧ base ≤ k ∧ k < W.heap.size) b F pre fs := ⟨Strm_bound h.1, h.2⟩
theorem StrmAt_frm (h : StrmAt W base ok b F pre fs) (hf : Frm W W1 S) (hn : ∀ k, ok k → ¬ S k) : StrmAt W1 base ok b F pre fs := ⟨Strm_frm h.1 hf hn, h.2⟩
theorem StrmAt_below (h : StrmAt W base ok b F pre fs) (hf : Below W.heap.size W W1) : StrmAt W1 base ok b F pre fs := ⟨Strm_below h.1 hf, h.2⟩
end
/-- What a stream's call writes lies from N on. -/
theorem below_frm {w wr w1 : World} {N : Nat} {S : Nat → Prop} (hb : Below w.heap.size w wr) (hf : Frm wr w1 S) (hS : ∀ k, S k → N ≤ k) (hN : w.heap.size ≤ N) : Below w.heap.size w w1 :=
  hb.trans ⟨hf.os, hf.tape, hf.output, hf.size, fun k hk => hf.block k (Nat.lt_of_lt_of_le hk hb.size) (fun h2 => by have := hS k h2; omega)⟩
theorem R_far_frm {α : Type} {d : Kd α} {e base N : Nat} {W W1 : World} {v : Value} {xs : List α} {S : Nat → Prop} (h : d.R e W base (fun k => k < N) v xs) (hf : Frm W W1 S) (hS : ∀ k, S k → N ≤ k) : d.R e W1 base (fun k => k < N) v xs := R_frm h hf (fun k hk h2 => by have := hS k h2; omega)
theorem scan_fed {F X : List Int} {pre fs : List (List Int)} (h : (scan F).1 = pre ++ fs) : (scan (F ++ X)).1 = pre ++ (fs ++ (scan ((scan F).2.2 ++ X)).1) ∧ (scan (F ++ X)).2.1 = (scan F).2.1 + (scan ((scan F).2.2 ++ X)).2.1 ∧ (scan (F ++ X)).2.2 = (scan ((scan F).2.2 ++ X)).2.2 := by
  rw [scan_append F.length F X (Nat.le_refl _)]
  exact ⟨by rw [h, List.append_assoc], rfl, rfl⟩
theorem scan_left_ok {F : List Int} (h : bytesOk F = true) : bytesOk (scan F).2.2 = true := by
  obtain ⟨_, k, hk⟩ := scan_left F.length F (Nat.le_refl _)
  rw [hk]
  exact bytesOk_drop h k
theorem scan_lens (F : List Int) : (scan F).1.length + (scan F).2.1 + (scan F).2.2.length ≤ F.length := by
  have := scan_size F.length F (Nat.le_refl _)
  omega
theorem feedAt (b base : Nat) (ok : Nat → Prop) (A0 : Option Addr) (c0 n : Nat) (X F : List Int) (pre fs : List (List Int)) (w : World) (hn : X.length = n) (hr : C8 w A0 n X) (hc : n ≤ c0) (hokF : bytesOk F = true) (hokX : bytesOk X = true)
    (hS : StrmAt w base ok b F pre fs) (hbase : base ≤ w.heap.size) (hm : F.length + n ≤ 400000) :
    Calls Try.prog 39 #[.pointer (some ⟨b, 0, none⟩), .slice A0 n c0] w fun e w' => (∃ v, e = .returned v) ∧ (∃ fs', StrmAt w' base (fun k => ok k ∨ w.heap.size ≤ k) b (F ++ X) pre fs') ∧ Frm w w' ok := by
  have hl := scan_lens F
  have hfs : fs.length ≤ (scan F).1.length := by rw [hS.2, List.length_append]; omega
  refine (feed_M b base ok A0 c0 n (scan F).2.1 X (scan F).2.2 ((scan F).2.2 ++ X) fs w hn hr hc (bytesOk_append (scan_left_ok hokF) hokX) hS.1 hbase rfl (by rw [List.length_append]; omega) (by rw [List.length_append]; omega) (by rw [List.length_append]; omega)).mono ?_
  rintro e w' ⟨h1, h2, h3⟩
  obtain ⟨e1, e2, e3⟩ := scan_fed (X := X) hS.2
  refine ⟨h1, ⟨_, ?_, e1⟩, h3⟩
  rw [e2, e3]
  exact h2
theorem followsAt (wl : World) (A : Option Addr) (n c : Nat) (ls : List (List Int)) (F : List Int) (b : Nat) (ok : Nat → Prop) (pre fs : List (List Int)) (got : Nat) (most : Int) (w : World)
    (hC : Kd.C (Kd.slice 5 (Kd.int .u8)) wl A n ls) (hn : ls.length = n) (hc : n ≤ c) (hF : ls.flatten = F) (hFo : bytesOk F = true) (hFl : F.length ≤ 1000000) (hn2 : n ≤ 1000000)
    (hB : Below wl.heap.size wl w) (hS : StrmAt w wl.heap.size ok b F pre fs) (hgot : pre.length = got) :
    Calls Try.prog 40 #[.pointer (some ⟨b, 0, none⟩), .slice A n c, .int .i64 (got : Int), .int .i64 most] w fun e w' => ∃ pre' fs' okS got', e = .returned (.tuple #[.int .i64 ((got' : Nat) : Int), .bool true]) ∧ pre'.length = got' ∧ got' = got + min most.toNat fs.length ∧ StrmAt w' wl.heap.size okS b F pre' fs' ∧ (∀ k, okS k → ok k) ∧ Frm w w' ok := by
  refine (follows_C wl A n c ls F b ok _ fs pre _ got most w hC hn hc hF hFo hFl hn2 hB hS.1 hS.2 hgot rfl).mono ?_
  rintro e w' ⟨h1, ⟨okS, h2, h3⟩, h4⟩
  refine ⟨pre ++ fs.take (min most.toNat fs.length), fs.drop (min most.toNat fs.length), okS, _, h1, ?_, rfl, ⟨h2, ?_⟩, h3, h4⟩
  · rw [List.length_append, List.length_take, hgot]; omega
  · rw [hS.2, List.append_assoc, List.take_append_drop]
theorem cutt37 {A : Option Addr} {n c : Nat} (j : Nat) (hj : j ≤ n) (hc : n ≤ c) :
    (∀ W : World, (Instr.slice 37 (.slice A n c) none (some (.int .i64 (j : Int))) none).run Try.prog W = .ok (.slice A j c) W) := by
  obtain ⟨i0, hi, hzz⟩ := Option.map_eq_some_iff.1 info22
  have hrun := cut_to (P := Try.prog) 37 22 .i64 Try.underlying37 hi A n c (j : Int) (by omega) (by omega) hc
  exact fun W => by have := hrun W; rw [Int.toNat_natCast] at this; exact this
/-- Frame([]byte("a")). -/
theorem frame_a (W : World) : Calls Try.prog 31 #[.slice (some ⟨W.heap.size + 1, 0, none⟩) 1 1] ((W.alloc (.cells #[.int .u8 97] 5 (1, 2))).alloc (.cells #[.slice (some ⟨W.heap.size, 0, none⟩) 1 1] 22)) fun e w' =>
    ∃ v, e = .returned (.tuple #[v, .int .i64 0]) ∧ Kd.R (Kd.int .u8) 5 w' W.heap.size (fun _ => True) v (frameOf [97]) ∧ Below W.heap.size W w' := by
  have hC7 : C8 (W.alloc (.cells #[.int .u8 97] 5 (1, 2))) (some ⟨W.heap.size, 0, none⟩) 1 [97] := C_lit W [97] (1, 2) (by decide)
  have hrows := C_rows (W.alloc (.cells #[.int .u8 97] 5 (1, 2))) [.slice (some ⟨W.heap.size, 0, none⟩) 1 1] [[97]] rfl (by decide) (by
    intro j p hj
    match j with
    | 0 => simp at hj; subst hj; exact ⟨_, 1, rfl, by decide, hC7⟩
    | j + 1 => simp at hj)
  rw [size_alloc1] at hrows
  refine (frame_N (some ⟨W.heap.size + 1, 0, none⟩) 1 1 [[97]] (frameOf [97]) _ rfl hrows (by decide) (by decide) rfl).mono ?_
  rintro e w' ⟨v, rfl, h1, h2⟩
  exact ⟨v, rfl, Kd.R_lower h1 (by simp; omega), below_step (below_alloc (below_alloc (Below.refl _ _) _) _) h2⟩
theorem dec_frame (x t : List Int) (hx : bytesOk x = true) (h : x.length ≤ 262144) : dec (frameOf x ++ t) = .body x.length := by
  have hlen := frameOf_length x
  have hw := frameOf_word2 x t h
  have hl : 14 ≤ (frameOf x ++ t).length := by rw [List.length_append, hlen]; omega
  have hh := frameOf_headB x t h
  have ho : opens (frameOf x ++ t) = true := by
    unfold headB at hh
    simp only [Bool.and_eq_true] at hh
    unfold opens
    rw [hh.1.1.1, hh.1.1.2]
    simp
  unfold dec
  rw [if_neg (by omega), ho, if_neg (by simp), if_neg (by omega), hh, if_neg (by simp), hw, Int.toNat_natCast, if_neg (by rw [List.length_append, hlen]; omega), List.take_append_of_le_length (by omega), List.take_of_length_le (by omega), frameOf_endsB x hx, if_neg (by simp)]
theorem scan_frame (x t : List Int) (hx : bytesOk x = true) (h : x.length ≤ 262144) : scan (frameOf x ++ t) = (x :: (scan t).1, (scan t).2.1, (scan t).2.2) := by
  have hlen := frameOf_length x
  have hb := frameOf_body x
  rw [hlen, show x.length + 14 - 14 = x.length by omega] at hb
  rw [scan_body (dec_frame x t hx h), List.drop_append_of_le_length (l₁ := frameOf x) (by omega), List.drop_append_of_le_length (l₁ := frameOf x) (by omega), List.take_append_of_le_length (by rw [List.length_drop]; omega), hb, List.drop_of_length_le (l := frameOf x) (by omega), List.nil_append]
theorem takenAt (b base : Nat) (ok : Nat → Prop) (F : List Int) (pre fs : List (List Int)) (most : Int) (w : World) (hS : StrmAt w base ok b F pre fs) (hbase : base ≤ w.heap.size) (hF : F.length ≤ 1000000) :
    Calls Try.prog 42 #[.pointer (some ⟨b, 0, none⟩), .int .i64 most] w fun e w' => ∃ v okS okr fs1 fs2, e = .returned (.tuple #[v, .bool true]) ∧ fs = fs1 ++ fs2 ∧ fs1.length = min most.toNat fs.length ∧ SQ (Kd.slice 5 (Kd.int .u8)) 22 w' base okr v fs1 ∧
      StrmAt w' base okS b F (pre ++ fs1) fs2 ∧ (∀ k, okS k → ok k ∧ ¬ okr k) ∧ (∀ k, okr k → ok k ∨ w.heap.size ≤ k) ∧ Frm w w' (fun k => k = b) := by
  have h1 := scan_lens F
  have h2 : fs.length ≤ (scan F).1.length := by rw [hS.2, List.length_append]; omega
  refine (taken_C b base ok _ fs _ most w hS.1 hbase (by omega)).mono ?_
  rintro e w' ⟨v, okS, okr, fs1, fs2, h1, h2, h3, h4, h5, h6, h7, h8⟩
  exact ⟨v, okS, okr, fs1, fs2, h1, h2, h3, h4, ⟨h5, by rw [hS.2, h2, List.append_assoc]⟩, h6, h7, h8⟩
end Go.Proofs.Ytnanaojjhmpilaa.PW
namespace Go.Proofs.Ytnanaojjhmpilaa.PW
open Go.RowKit Go.Proofs.YtnanaojjhmpilaaW.PrintWords Go.Proofs.YtnanaojjhmpilaaW.PrintLast Go.Proofs.YtnanaojjhmpilaaW.PrintMore
set_option linter.unusedVariables false
set_option linter.unusedSimpArgs false

theorem add0 (g i : Nat) : (⟨g, 0, none⟩ : Addr).add i = ⟨g, i, none⟩ := by unfold Addr.add; split <;> simp_all
section
variable {W w1 : World} {base e sz n m : Nat} {v v0 v1 : Value} {xs ys X Y : List Value}
theorem own_base' (h : W.ownsRow base e sz v n xs) : ∀ k, v.ownBlock = some k → base ≤ k ∧ k < W.heap.size := h.lt
theorem own_step (h : W.ownsRow base e sz v n xs) (hm : ∀ k, v.ownBlock = some k → w1.heap[k]? = W.heap[k]?) : w1.ownsRow base e sz v n xs := by
  refine ⟨h.1, ?_⟩
  rcases h.2 with h2 | ⟨g, cap, cur, rfl, h3, h4, h5⟩
  · exact .inl h2
  · exact .inr ⟨g, cap, cur, rfl, h3, (hm g rfl).trans h4, h5⟩
theorem own_type (h : W.ownsRow base e sz v n xs) : ∀ k, v.ownBlock = some k → ∃ cells, W.heap[k]? = some (.cells cells e (0, 0)) := by
  intro k hk
  rcases h.2 with ⟨rfl, _⟩ | ⟨g, cap, cur, rfl, h3, h4, h5⟩
  · simp [Value.ownBlock] at hk
  · cases hk
    exact ⟨cur, h4⟩
theorem own_form (h : W.ownsRow base e sz v n xs) : ∃ A c, v = .slice A n c ∧ n ≤ c := by
  rcases h.2 with ⟨rfl, rfl⟩ | ⟨g, cap, cur, rfl, h3, h4, h5, h6, h7⟩
  · exact ⟨none, 0, rfl, Nat.le_refl _⟩
  · exact ⟨_, _, rfl, h5⟩
theorem own_some (h : W.ownsRow base e sz v n xs) (hn : 0 < n) : ∃ g c cur, v = .slice (some ⟨g, 0, none⟩) n c ∧ n ≤ c ∧ base ≤ g ∧ W.heap[g]? = some (.cells cur e (0, 0)) ∧ n * sz ≤ cur.size := by
  rcases h.2 with ⟨rfl, rfl⟩ | ⟨g, cap, cur, rfl, h3, h4, h5, h6, h7, h8⟩
  · omega
  · exact ⟨g, cap, cur, rfl, h5, h3, h4, by rw [h7]; exact Nat.mul_le_mul_right _ h5⟩
theorem own_cell {g c : Nat} (h : W.ownsRow base e sz (.slice (some ⟨g, 0, none⟩) n c) n xs) {j : Nat} {u : Value} (hj : xs[j]? = some u) : W.cell? ⟨g, j, none⟩ = some u := by
  have := h.cells (g := g) rfl j u hj
  rw [add0] at this
  exact this
/-- A shorter slice of the same block. -/
theorem own_prefix {g c : Nat} (h : W.ownsRow base e sz (.slice (some ⟨g, 0, none⟩) m c) m (xs ++ ys)) (hn : xs.length = n * sz) (hnm : n ≤ m) : W.ownsRow base e sz (.slice (some ⟨g, 0, none⟩) n c) n xs := by
  refine ⟨hn, ?_⟩
  rcases h.2 with ⟨h1, _⟩ | ⟨g', cap, cur, h1, h3, h4, h5, h6, h7, h8⟩
  · cases h1
  · cases h1
    refine .inr ⟨g, c, cur, rfl, h3, h4, Nat.le_trans hnm h5, h6, h7, ?_⟩
    have h9 : cur.toList.take (n * sz) = (cur.toList.take (m * sz)).take (n * sz) := by
      rw [List.take_take, Nat.min_eq_left (Nat.mul_le_mul_right _ hnm)]
    rw [h9, h8, ← hn, List.take_left]
/-- Some cells of a row written over. -/
theorem own_put {g c i : Nat} {seg r : List Value} (h : W.ownsRow base e sz (.slice (some ⟨g, 0, none⟩) n c) n (xs ++ r ++ ys)) (hi : xs.length = i) (hr : r.length = seg.length) : (W.setCells g i seg).ownsRow base e sz (.slice (some ⟨g, 0, none⟩) n c) n (xs ++ seg ++ ys) := by
  refine ⟨by rw [← h.1]; simp [hr], ?_⟩
  have hl := h.1
  rcases h.2 with ⟨h1, _⟩ | ⟨g', cap, cur, h1, h3, h4, h5, h6, h7, h8⟩
  · cases h1
  · cases h1
    have hle : n * sz ≤ cur.size := by rw [h7]; exact Nat.mul_le_mul_right _ h5
    have hfit : i + seg.length ≤ n * sz := by rw [← hl, ← hi, ← hr]; simp [Nat.add_assoc]
    obtain ⟨cur', k1, k2, k3⟩ := setCells_row seg i W cur h4 (by omega)
    refine .inr ⟨g, c, cur', rfl, h3, k1, h5, h6, by rw [k2]; exact h7, ?_⟩
    have hcur : cur.toList = (xs ++ r ++ ys) ++ cur.toList.drop (n * sz) := by rw [← h8, List.take_append_drop]
    have ht : cur.toList.take i = xs := by
      rw [hcur, ← hi, List.append_assoc, List.append_assoc, List.take_left]
    have hd : cur.toList.drop (i + seg.length) = ys ++ cur.toList.drop (n * sz) := by
      have : i + seg.length = (xs ++ r).length := by rw [List.length_append, hi, hr]
      conv => lhs; rw [hcur, this, List.append_assoc, List.drop_left]
    rw [k3, ht, hd, ← List.append_assoc, List.take_append_of_le_length (by simp; have := hl; simp at this; omega)]
    rw [List.take_of_length_le (by have := hl; simp at this ⊢; omega)]
end
section
variable {P : Program} (w : World)
/-- An append of one element: the row, and whether it was moved. -/
theorem append_two (base : Nat) (t ty e : TypeId) (i : TypeInfo) (z : Value) (size bytes : Nat) (ht : P.underlying t = some (.slice e)) (hi : P.info? e = some i) (hz : i.zero = some z)
    (hsize : i.size = size) (hby : i.bytes = bytes) (hzs : z.cells.size = size) (hsz : 0 < size)
    (v : Value) (n : Nat) (xs : List Value) (hown : w.ownsRow base e size v n xs)
    (a : Addr) (c : Nat) (news : List Value) (hl : news.length = 1 * size) (hnews : ∀ j u, news[j]? = some u → w.cell? (a.add j) = some u) (h1 : ∀ u ∈ news, u.oneCell' = true)
    (h63 : n + 1 ≤ maxLen) (hbytes : (n + 1) * bytes ≤ 140737488355328) (hbase : base ≤ w.heap.size) :
    ∃ v' w', (Builtin.append_ #[t, t] ty #[v, .slice (some a) 1 c]).run P w = .ok v' w' ∧ w'.ownsRow base e size v' (n + 1) (xs ++ news) ∧ w.grownBy w' v.ownBlock ∧
      ((∃ g cap, v = .slice (some ⟨g, 0, none⟩) n cap ∧ v' = .slice (some ⟨g, 0, none⟩) (n + 1) cap) ∨ (v'.ownBlock = some w.heap.size ∧ w.grownBy w' none)) := by
  obtain ⟨v', w', hr, h2, h3, h4, h5⟩ := run_append_own_at (P := P) w base t ty e i z size bytes ht hi hz hsize hby hzs hsz v n xs hown a 1 c news hl hnews h1 h63 hbytes hbase
  refine ⟨v', w', hr, h2, h3, ?_⟩
  have hsmall : n + 1 ≤ 9223372036854775807 := by simp only [maxLen] at h63; omega
  subst hsize
  subst hby
  rcases hown.2 with ⟨rfl, rfl⟩ | ⟨g, cap, cur, rfl, hbg, hg, hnc, hcm, hcs, htake⟩
  · have hr2 := run_append_nil (P := P) w t ty e i z ht hi hz a 1 c news hl hnews (by omega) (by omega) (by omega)
    rw [hr] at hr2
    injection hr2 with e1 e2
    exact .inr ⟨by rw [e1]; rfl, by rw [e2]; exact ⟨rfl, rfl, rfl, by simp, fun k hk _ => heap_alloc_old w.drew _ hk⟩⟩
  · by_cases hroom : n + 1 ≤ cap
    · have hfit : n * i.size + news.length ≤ cur.size := by rw [hl, hcs, ← Nat.add_mul]; exact Nat.mul_le_mul_right _ hroom
      have hr2 := run_append_room (P := P) w t ty e i ht hi g n cap cur hg a 1 c news hl hnews h1 hroom hfit
      rw [hr] at hr2
      injection hr2 with e1 e2
      exact .inl ⟨g, cap, rfl, e1⟩
    · have holds : ∀ j u, xs[j]? = some u → w.cell? ((⟨g, 0, none⟩ : Addr).add j) = some u := hown.cells (g := g) rfl
      have hr2 := run_append_grow (P := P) w t ty e i z ht hi hz ⟨g, 0, none⟩ n cap xs hown.1 holds a 1 c news hl hnews (by omega) (by omega) (growslice_fits (by omega) hbytes)
      rw [hr] at hr2
      injection hr2 with e1 e2
      exact .inr ⟨by rw [e1]; rfl, by rw [e2]; exact ⟨rfl, rfl, rfl, by simp, fun k hk _ => heap_alloc_old w.drew _ hk⟩⟩
end
/-- The elder slice behind an append to a longer one of the same row. -/
theorem keep_elder {W w1 : World} {base e sz n0 m m1 : Nat} {v0 g g1 : Value} {X0 Y Z : List Value} (hsz : 0 < sz) (h0 : W.ownsRow base e sz v0 n0 X0) (hg : W.ownsRow base e sz g m (X0 ++ Y)) (h1 : w1.ownsRow base e sz g1 m1 (X0 ++ Z)) (hnm : n0 ≤ m1)
    (hgr : W.grownBy w1 g.ownBlock) (hat : (∃ b cap, g = .slice (some ⟨b, 0, none⟩) m cap ∧ g1 = .slice (some ⟨b, 0, none⟩) m1 cap) ∨ W.grownBy w1 none) : w1.ownsRow base e sz v0 n0 X0 := by
  rcases h0.2 with ⟨rfl, rfl⟩ | ⟨b, cap, cur, rfl, k3, k4, k5, k6, k7, k8⟩
  · exact ⟨h0.1, .inl ⟨rfl, rfl⟩⟩
  · rcases hat with ⟨b2, cap2, rfl, rfl⟩ | hat
    · by_cases hb : b2 = b
      · subst hb
        rcases hg.2 with ⟨h9, _⟩ | ⟨b', cap', cur', h9, q3, q4, q5, q6, q7, q8⟩
        · cases h9
        · cases h9
          rw [k4] at q4
          cases q4
          have hcap : cap = cap2 := Nat.eq_of_mul_eq_mul_right hsz (k7.symm.trans q7)
          subst hcap
          exact own_prefix h1 h0.1 hnm
      · exact own_step h0 (fun k hk => by cases hk; exact hgr.block b (blk_lt k4) (fun e => hb (by have e : some b = some b2 := e; exact (Option.some.inj e).symm)))
    · exact own_step h0 (fun k hk => by cases hk; exact hat.block b (blk_lt k4) (by simp))
section
variable {P : Program} {ops : Array Oper} {rest : List Oper} {o : Oper} {a : Act} {Q : Exit → Act → World → Prop}
/-- append(v, x): x of several cells in a new block; told whether the row was moved. -/
theorem own_append {W : World} (base : Nat) (hgd : o.guard = none) (s x : Operand) (t e : TypeId) (z : Value) (size bytes : Nat)
    (ho : o.op = .call { callee := .builtin .append, args := #[s, x], argTypes := #[t, t] })
    (ht : P.underlying t = some (.slice e)) (hinfo : (P.info? e).map (fun i => (i.zero, i.size, i.bytes)) = some (some z, size, bytes)) (hz : z.cells.size = size) (hs0 : 0 < size) (hb0 : 0 < bytes)
    (v : Value) (n : Nat) (xs ys : List Value) (hs : a.eval s = v) (hx : a.eval x = .slice (some ⟨W.heap.size, 0, none⟩) 1 1) (hys : ys.length = size) (h1 : ∀ u ∈ ys, u.oneCell' = true)
    (HO : W.ownsRow base e size v n xs) (hbase : base ≤ W.heap.size) (hl : (n + 1) * bytes ≤ 140737488355328)
    (h : ∀ v1 w1, w1.ownsRow base e size v1 (n + 1) (xs ++ ys) → W.grownBy w1 v.ownBlock → ((∃ g cap, v = .slice (some ⟨g, 0, none⟩) n cap ∧ v1 = .slice (some ⟨g, 0, none⟩) (n + 1) cap) ∨ ((∃ b, v1.ownBlock = some b ∧ W.heap.size ≤ b) ∧ W.grownBy w1 none)) → wpList P ops Q rest (a.put o.dst v1) w1) :
    wpList P ops Q (o :: rest) a (W.alloc (.cells ys.toArray e)) := by
  obtain ⟨i0, hi, hzz⟩ := Option.map_eq_some_iff.1 hinfo
  simp only [Prod.mk.injEq] at hzz
  obtain ⟨hz0, hz1, hz2⟩ := hzz
  have hlen : n + 1 ≤ 140737488355328 := Nat.le_trans (Nat.le_mul_of_pos_right _ hb0) hl
  obtain ⟨v1, w1, hr, hown, hg, hat⟩ := append_two (P := P) (W.alloc (.cells ys.toArray e)) base t o.type e i0 z size bytes ht hi hz0 hz1 hz2 hz hs0 v n xs (HO.alloc _) ⟨W.heap.size, 0, none⟩ 1 ys (by rw [hys]; simp)
    (by simpa using World.news_of_block (cs := ys.toArray) (t := e) (fr := (0, 0)) (heap_alloc_new W (.cells ys.toArray e))) h1 (by simp only [maxLen]; omega) hl (by simp; omega)
  refine wpList_plain hgd fun K hK => ?_
  unfold Oper.wp execOp
  simp only [ho, resolve, invoke, builtin, Sem.run_bind, Sem.run_pure, Result.andThen_ok, List.map_toArray, List.map_cons, List.map_nil, hs, hx, hr]
  refine hK _ _ (h v1 w1 hown (World.grownBy.trans (World.grownBy_alloc W _ _) hg) ?_)
  rcases hat with hat | ⟨hat, hat2⟩
  · exact .inl hat
  · exact .inr ⟨⟨_, hat, by simp⟩, World.grownBy.trans (World.grownBy_alloc W _ _) hat2⟩
end
end Go.Proofs.Ytnanaojjhmpilaa.PW
namespace Go.Proofs.Ytnanaojjhmpilaa.PW
open Go.RowKit Go.Proofs.YtnanaojjhmpilaaW.PrintWords Go.Proofs.YtnanaojjhmpilaaW.PrintLast Go.Proofs.YtnanaojjhmpilaaW.PrintMore
set_option linter.unusedVariables false
set_option linter.unusedSimpArgs false

theorem Frm.drewN {w w1 : World} {S : Nat → Prop} (h : Frm w w1 S) (n : Nat) : Frm w (w1.drewN n) S := ⟨h.os, h.tape, h.output, h.size, h.block⟩
theorem Frm.cell_ {w w1 : World} (h : Frm w w1 (fun _ => False)) {p : Addr} {v : Value} (hc : w.cell? p = some v) : w1.cell? p = some v :=
  pw_cell_below (Frm.below h (fun _ hk => hk.elim) (Nat.le_refl _)) hc
/-- The k-th mark of list n. -/
def stv (n k : Int) : Int := (Int.tmod (wrap64 ((wrap64 ((wrap64 ((wrap64 ((Int.tmod n 241) * 53)) + (wrap64 ((wrap64 ((Int.tmod k 241) * (Int.tmod k 241))) * 7)))) + (wrap64 ((Int.tmod k 241) * 29)))) + 5)) 241) % 256
theorem stain_C (n k : Int) (w : World) : Calls Try.prog 64 #[.int .i64 n, .int .i64 k] w fun e w' => e = .returned (.int .u8 (stv n k)) ∧ Drawn0 w w' := heraldlaw2_stain.calls n k (stv n k) w rfl
/-- The first i marks of list n. -/
def stl (n : Int) (i : Nat) : List Value := (List.range i).map fun (k : Nat) => Value.int .u8 (stv n (k : Int))
theorem stl_len (n : Int) (i : Nat) : (stl n i).length = i := by simp [stl]
theorem stl_succ (n : Int) (i : Nat) : stl n (i + 1) = stl n i ++ [.int .u8 (stv n (i : Int))] := by
  unfold stl
  rw [List.range_succ, List.map_append]
  rfl
theorem stl_get (n : Int) {i k : Nat} (h : k < i) : (stl n i)[k]? = some (.int .u8 (stv n (k : Int))) := by
  unfold stl
  rw [List.getElem?_map, List.getElem?_range h]
  rfl
/-- No two have a block in common. -/
def Dist (vs : List Value) : Prop := ∀ (i j : Nat) (u v : Value), vs[i]? = some u → vs[j]? = some v → i ≠ j → ∀ b, u.ownBlock = some b → v.ownBlock ≠ some b
/-- A list of bytes of one's own. -/
def Raw8 (W : World) (base : Nat) (v : Value) : Prop := ∃ n xs, n ≤ 40000 ∧ W.ownsRow base 5 1 v n xs
/-- It is full of its marks. -/
def Mk8 (W : World) (base : Nat) (nn : Nat → Int) (j : Nat) (v : Value) : Prop := ∃ n, n ≤ 40000 ∧ W.ownsRow base 5 1 v n (stl (nn j) n)
def typed (W : World) (t : Nat) (q : Nat) : Prop := ∃ cells, W.heap[q]? = some (.cells cells t (0, 0))
def blocks (vs : List Value) (q : Nat) : Prop := ∃ (j : Nat) (v : Value), vs[j]? = some v ∧ v.ownBlock = some q
section
variable {W W' : World} {base : Nat} {v : Value} {nn : Nat → Int} {j : Nat}
theorem typed_ne {t t' q : Nat} (h : typed W t q) (h' : typed W t' q) : t = t' := by
  obtain ⟨c, h⟩ := h
  obtain ⟨c', h'⟩ := h'
  rw [h] at h'
  cases h'
  rfl
theorem Raw8.step (h : Raw8 W base v) (hm : ∀ k, v.ownBlock = some k → W'.heap[k]? = W.heap[k]?) : Raw8 W' base v := by
  obtain ⟨n, xs, h1, h2⟩ := h
  exact ⟨n, xs, h1, own_step h2 hm⟩
theorem Mk8.step (h : Mk8 W base nn j v) (hm : ∀ k, v.ownBlock = some k → W'.heap[k]? = W.heap[k]?) : Mk8 W' base nn j v := by
  obtain ⟨n, h1, h2⟩ := h
  exact ⟨n, h1, own_step h2 hm⟩
theorem Raw8.lt (h : Raw8 W base v) : ∀ k, v.ownBlock = some k → base ≤ k ∧ k < W.heap.size := by
  obtain ⟨n, xs, h1, h2⟩ := h
  exact h2.lt
theorem Mk8.lt (h : Mk8 W base nn j v) : ∀ k, v.ownBlock = some k → base ≤ k ∧ k < W.heap.size := by
  obtain ⟨n, h1, h2⟩ := h
  exact h2.lt
theorem Raw8.type (h : Raw8 W base v) : ∀ k, v.ownBlock = some k → typed W 5 k := by
  obtain ⟨n, xs, h1, h2⟩ := h
  exact own_type h2
theorem Mk8.raw (h : Mk8 W base nn j v) : Raw8 W base v := by
  obtain ⟨n, h1, h2⟩ := h
  exact ⟨n, _, h1, h2⟩
theorem keep_type {S : Nat → Prop} {t : Nat} (hf : Frm W W' S) (hS : ∀ q, S q → typed W t q) {t' : Nat} (hne : t' ≠ t) {q : Nat} (hq : typed W t' q) : W'.heap[q]? = W.heap[q]? := by
  obtain ⟨c, hc⟩ := hq
  exact hf.block q (blk_lt hc) (fun h => hne (typed_ne ⟨c, hc⟩ (hS q h)))
end
section
variable {W w1 : World} {base e sz n i : Nat} {v g u : Value} {xs : List Value}
/-- One cell of a row written over. -/
theorem own_set {g c : Nat} (h : W.ownsRow base e sz (.slice (some ⟨g, 0, none⟩) n c) n xs) (hi : i < xs.length) (u : Value) : (W.setCell ⟨g, i, none⟩ u).ownsRow base e sz (.slice (some ⟨g, 0, none⟩) n c) n (xs.set i u) := by
  have e1 : xs = xs.take i ++ [xs[i]] ++ xs.drop (i + 1) := by
    rw [List.append_assoc, List.singleton_append, List.getElem_cons_drop, List.take_append_drop]
  have e2 : xs.set i u = xs.take i ++ [u] ++ xs.drop (i + 1) := by
    rw [List.append_assoc, List.singleton_append, List.set_eq_take_append_cons_drop, if_pos hi]
  rw [e2]
  rw [e1] at h
  exact own_put (seg := [u]) h (by rw [List.length_take]; omega) rfl
/-- The cells l and was of each entry are alike. -/
def SameLW (X X' : List Value) : Prop := X'.length = X.length ∧ ∀ j, X'[j * 3]? = X[j * 3]? ∧ X'[j * 3 + 1]? = X[j * 3 + 1]?
theorem SameLW.refl (X : List Value) : SameLW X X := ⟨rfl, fun _ => ⟨rfl, rfl⟩⟩
theorem SameLW.trans {X Y Z : List Value} (h : SameLW X Y) (k : SameLW Y Z) : SameLW X Z := ⟨k.1.trans h.1, fun j => ⟨(k.2 j).1.trans (h.2 j).1, (k.2 j).2.trans (h.2 j).2⟩⟩
theorem SameLW.set {X Y : List Value} (h : SameLW X Y) (k : Nat) (u : Value) : SameLW X (Y.set (k * 3 + 2) u) :=
  ⟨by rw [List.length_set]; exact h.1, fun j => ⟨by rw [List.getElem?_set_ne (by omega)]; exact (h.2 j).1, by rw [List.getElem?_set_ne (by omega)]; exact (h.2 j).2⟩⟩
/-- The marks behind list j. -/
def g2 (j : Nat) : Value := .int .u8 (242 + (j : Int) % 13)
/-- A list full of its marks, and what it was grown to. -/
def Grown8 (W : World) (base lo : Nat) (nn : Nat → Int) (j : Nat) (v v' : Value) : Prop := ∃ n, n ≤ 40000 ∧ W.ownsRow base 5 1 v n (stl (nn j) n) ∧ W.ownsRow base 5 1 v' (n + 96) (stl (nn j) n ++ List.replicate 96 (g2 j)) ∧ ∀ q, v'.ownBlock = some q → v.ownBlock = some q ∨ lo ≤ q
theorem Grown8.step {lo : Nat} {nn : Nat → Int} {j : Nat} {v v' : Value} (h : Grown8 W base lo nn j v v') (hm : ∀ k, typed W 5 k → (v.ownBlock = some k ∨ lo ≤ k) → w1.heap[k]? = W.heap[k]?) : Grown8 w1 base lo nn j v v' := by
  obtain ⟨n, h1, h2, h3, h4⟩ := h
  exact ⟨n, h1, own_step h2 (fun k hk => hm k (own_type h2 k hk) (.inl hk)), own_step h3 (fun k hk => hm k (own_type h3 k hk) (h4 k hk)), h4⟩
end
theorem stl_set (n : Int) {i : Nat} {Y : List Value} (hY : 0 < Y.length) : (stl n i ++ Y).set i (.int .u8 (stv n (i : Int))) = stl n (i + 1) ++ Y.drop 1 := by
  cases Y with
  | nil => simp at hY
  | cons y Y =>
    rw [stl_succ, List.append_assoc]
    have h := List.set_append_right (s := stl n i) (t := y :: Y) (i := i) (x := Value.int .u8 (stv n (i : Int))) (by rw [stl_len]; exact Nat.le_refl _)
    rw [h, stl_len, Nat.sub_self]
    rfl
end Go.Proofs.Ytnanaojjhmpilaa.PW
