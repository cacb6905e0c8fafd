/- Streams: decide. -/
import Derived.Test.YtnanaojjhmpilaaS3
import Derived.Test.YtnanaojjhmpilaaPWx6
import Derived.Outline
namespace Go.Proofs.Ytnanaojjhmpilaa.PW
open Go.RowKit Go.Proofs.YtnanaojjhmpilaaW.PrintWords Go.Proofs.YtnanaojjhmpilaaW.PrintLast Go.Proofs.YtnanaojjhmpilaaW.PrintMore
set_option linter.unusedVariables false
set_option linter.unusedSimpArgs false

theorem head_N (A : Option Addr) (c n : Nat) (l : List Int) (x : Int) (b : Bool) (w : World) (hn : l.length = n) (hr : C8 w A n l) (hc : n ≤ c) (hok : bytesOk l = true) (h10 : 10 ≤ n) (hm : n ≤ 1000000000) (hx : wordAt l 2 = x) (hb : headB l = b) :
    Calls Try.prog 56 #[.slice A n c] w fun e w' => e = .returned (.tuple #[.int .i64 x, .bool b]) ∧ Below w.heap.size w w' := by
  subst hn
  subst hx
  subst hb
  exact wire_head.calls A c l _ _ w hr hc (by unfold wire_head.f; rw [if_pos ⟨hok, by omega, by omega⟩])
theorem ends_N (A : Option Addr) (c n : Nat) (l : List Int) (b : Bool) (w : World) (hn : l.length = n) (hr : C8 w A n l) (hc : n ≤ c) (hok : bytesOk l = true) (h4 : 4 ≤ n) (hm : n ≤ 1000000000) (hb : endsB l = b) :
    Calls Try.prog 57 #[.slice A n c] w fun e w' => e = .returned (.bool b) ∧ Below w.heap.size w w' := by
  subst hn
  subst hb
  exact wire_ends.calls A c l _ w hr hc (by unfold wire_ends.f; rw [if_pos ⟨hok, by omega, by omega⟩])
theorem body_N (A : Option Addr) (c n : Nat) (l p : List Int) (w : World) (hn : l.length = n) (hr : C8 w A n l) (hc : n ≤ c) (h14 : 14 ≤ n) (hm : n ≤ 1000000000) (hp : (l.drop 10).take (n - 14) = p) :
    Calls Try.prog 58 #[.slice A n c] w fun e w' => ∃ v0_ : Value, e = .returned v0_ ∧ Kd.R (Kd.int .u8) 5 w' w.heap.size (fun _ => True) v0_ p ∧ Below w.heap.size w w' := by
  subst hn
  subst hp
  exact wire_body.calls A c l _ w hr hc (by unfold wire_body.f; rw [if_pos ⟨h14, by omega⟩])

set_option maxHeartbeats 16000000 in
set_option maxRecDepth 100000 in
theorem decide_rest (b : Nat) (A0 : Option Addr) (c0 n sk : Nat) (R : List Int) (w : World) (hn : R.length = n) (hr : C8 w A0 n R) (hc : n ≤ c0) (hok : bytesOk R = true) (hm : n ≤ 1000000) (hsk : sk ≤ 1000000000)
    (hcell : w.cell? ⟨b, 2, none⟩ = some (.int .i64 (sk : Int))) (hfz : w.frozen? ⟨b, 2, none⟩ = false) (hnb : ∀ k, dec R ≠ .body k) :
    Calls Try.prog 61 #[.pointer (some ⟨b, 0, none⟩), .slice A0 n c0] w fun e w' =>
      (dec R = .wait ∧ e = .returned (.int .i64 0) ∧ Below w.heap.size w w') ∨
      (dec R = .skip ∧ e = .returned (.int .i64 1) ∧ ∃ w1, Below w.heap.size w w1 ∧ w' = w1.setCell ⟨b, 2, none⟩ (.int .i64 ((sk + 1 : Nat) : Int))) := by
  have HRL := Aside0.mk hn
  have HR0 := Aside0.mk hr
  have HC0 := Aside0.mk hc
  have HRO := Aside0.mk hok
  have HMAX := Aside0.mk hm
  have HNB := Aside0.mk hnb
  have wsk : wrap64 ((sk : Int) + 1) = ((sk + 1 : Nat) : Int) := by unfold wrap64; omega
  clear hr hc hok hn hnb
  by_cases h00 : n = 0
  · have hd : dec R = .wait := by unfold dec; rw [if_pos (by rw [HRL.out]; exact h00)]
    subst h00
    go_enter Try.func61, Try.ntmps61
    go_wp2
    go_ret
    exact .inl ⟨hd, rfl, Below.refl _ _⟩
  · obtain ⟨ad, hA, hx0⟩ := Kd.at_int HR0.out 0 (by omega) (by omega)
    subst hA
    rw [show ((0 : Int)).toNat = 0 from rfl, Addr.add_zero'] at hx0
    obtain ⟨b0, hb0⟩ : ∃ b, b = rd R 0 := ⟨_, rfl⟩
    rw [← hb0] at hx0
    by_cases h0 : b0 = 197
    · have k0 : (b0 == 197) = true := beq_iff_eq.mpr h0
      have HO0 := Aside0.mk (show rd R 0 = 197 by rw [← hb0, h0])
      clear h0 hb0
      by_cases h1 : n < 2
      · have HD := Aside0.mk (show dec R = .wait by
          unfold dec opens
          rw [HRL.out, if_neg h00, HO0.out, decide_eq_true h1, if_neg (by simp), if_pos (by omega)])
        go_enter Try.func61, Try.ntmps61
        go_wp2
        go_ret
        exact .inl ⟨HD.out, rfl, Below.refl _ _⟩
      · obtain ⟨ad', hA, hx1⟩ := Kd.at_int HR0.out 1 (by omega) (by omega)
        cases hA
        simp only [show (1 : Int).toNat = 1 from rfl, Nat.reduceMul, Nat.reduceEqDiff, Go.Addr.add, ↓reduceIte] at hx1
        obtain ⟨b1, hb1⟩ : ∃ b, b = rd R 1 := ⟨_, rfl⟩
        rw [← hb1] at hx1
        by_cases h3 : b1 = 58
        · have k1 : (b1 == 58) = true := beq_iff_eq.mpr h3
          have HO1 := Aside0.mk (show opens R = true by unfold opens; rw [HO0.out, ← hb1, h3]; simp)
          clear h3 hb1
          by_cases h10 : n < 10
          · have HD := Aside0.mk (show dec R = .wait by
              unfold dec
              rw [HRL.out, if_neg h00, HO1.out, if_neg (by simp), if_pos (by omega)])
            go_enter Try.func61, Try.ntmps61
            go_wp2
            go_ret
            exact .inl ⟨HD.out, rfl, Below.refl _ _⟩
          · have hwr := wordAt_range R HRO.out 2 (by rw [HRL.out]; omega)
            have hd0 : dec R = if headB R = false then .skip else if n < (wordAt R 2).toNat + 14 then .wait else if endsB (R.take ((wordAt R 2).toNat + 14)) = false then .skip else .body (wordAt R 2).toNat := by
              conv => lhs; unfold dec
              rw [HRL.out, if_neg h00, HO1.out, if_neg (by simp), if_neg (by omega)]
            have hhn : headB R = true → wordAt R 2 ≤ 262144 := by
              intro h; unfold headB at h; simp only [Bool.and_eq_true, decide_eq_true_eq] at h; omega
            obtain ⟨x, hx⟩ : ∃ x, wordAt R 2 = x := ⟨_, rfl⟩
            obtain ⟨hb, hhb⟩ : ∃ b, headB R = b := ⟨_, rfl⟩
            rw [hx] at hwr hd0 hhn
            rw [hhb] at hd0 hhn
            have HX2 := Aside0.mk hx
            have HHB := Aside0.mk hhb
            have HD0 := Aside0.mk hd0
            obtain ⟨hx00, hx01⟩ := hwr
            clear hx hhb hd0
            go_enter Try.func61, Try.ntmps61
            go_wp2_with fail
            refine (head_N (some ad) c0 n R x hb _ HRL.out HR0.out HC0.out HRO.out (by omega) (by have := HMAX.out; omega) HX2.out HHB.out).mono ?_
            rintro e1 w1 ⟨rfl, hd⟩
            have hfz1 : w1.frozen? ⟨b, 2, none⟩ = false := (hd.frozen (World.block_lt_of_cell? w _ hcell)).trans hfz
            replace hcell := pw_cell_below hd hcell
            have HR1 := Aside0.mk (Kd.C_below HR0.out hd)
            have HB1 := Aside0.mk hd
            clear hd hfz
            cases hb with
            | false =>
              have HD := Aside0.mk (show dec R = .skip by rw [HD0.out, if_pos rfl])
              go_wp2
              go_ret
              exact .inr ⟨HD.out, rfl, w1, HB1.out, by first | rfl | rw [show ((sk + 1 : Nat) : Int) = (sk : Int) + 1 by omega]⟩
            | true =>
              have hx2 := hhn rfl
              clear hhn
              have wn : wrap64 (x + 14) = x + 14 := by unfold wrap64; omega
              by_cases h14 : (n : Int) < x + 14
              · have HD := Aside0.mk (show dec R = .wait by rw [HD0.out, if_neg (by simp), if_pos (by omega)])
                go_wp2
                go_ret
                exact .inl ⟨HD.out, rfl, HB1.out⟩
              · obtain ⟨q, hq⟩ : ∃ q : Nat, q = x.toNat + 14 := ⟨_, rfl⟩
                have hqx : x + 14 = (q : Int) := by omega
                have hE : endsB (R.take q) = false := by
                  cases hh : endsB (R.take q) with
                  | false => rfl
                  | true => exact absurd (by rw [HD0.out, if_neg (by simp), if_neg (by omega), ← hq, hh, if_neg (by simp)]) (HNB.out x.toNat)
                have HD := Aside0.mk (show dec R = .skip by rw [HD0.out, if_neg (by simp), if_neg (by omega), ← hq, if_pos hE])
                have HE := Aside0.mk hE
                have HQL := Aside0.mk (show (R.take q).length = q by rw [List.length_take, HRL.out]; omega)
                have HQO := Aside0.mk (bytesOk_take HRO.out q)
                have HCT := Aside0.mk ((cutt8 (A := some ad) (n := n) (c := c0) (xs := R) q (by omega) HC0.out).2 w1 HR1.out)
                have HQC := Aside0.mk (show q ≤ c0 by have := HC0.out; omega)
                have HQ4 := Aside0.mk (show 4 ≤ q ∧ q ≤ 1000000000 by have := HMAX.out; omega)
                have HQX := Aside0.mk hqx
                clear hE hq hqx
                go_wp2_with (with_reducible refine stop_slice rfl ?_)
                refine to8w (by go_simp) _ _ rfl rfl rfl (by omega) (by have := HC0.out; omega) ?_
                rw [HQX.out, Int.toNat_natCast]
                go_wp2_with fail
                refine (ends_N (some ad) c0 q (R.take q) false _ HQL.out HCT.out HQC.out HQO.out HQ4.out.1 HQ4.out.2 HE.out).mono ?_
                rintro e2 w2 ⟨rfl, hd⟩
                have hfz2 : w2.frozen? ⟨b, 2, none⟩ = false := (hd.frozen (World.block_lt_of_cell? w1 _ hcell)).trans hfz1
                replace hcell := pw_cell_below hd hcell
                have HB2 := Aside0.mk (below_step HB1.out hd)
                clear hd hfz1
                go_wp2
                go_ret
                exact .inr ⟨HD.out, rfl, w2, HB2.out, by first | rfl | rw [show ((sk + 1 : Nat) : Int) = (sk : Int) + 1 by omega]⟩
        · have k1 : (b1 == 58) = false := beq_eq_false_iff_ne.mpr h3
          have HD := Aside0.mk (show dec R = .skip by
            unfold dec opens
            rw [HRL.out, if_neg h00, ← hb1, decide_eq_false h3, decide_eq_false h1]
            simp)
          clear h3 hb1
          go_enter Try.func61, Try.ntmps61
          go_wp2
          go_ret
          exact .inr ⟨HD.out, rfl, w, Below.refl _ _, by first | rfl | rw [show ((sk + 1 : Nat) : Int) = (sk : Int) + 1 by omega]⟩
    · have k0 : (b0 == 197) = false := beq_eq_false_iff_ne.mpr h0
      have hd : dec R = .skip := by
        unfold dec opens
        rw [HRL.out, if_neg h00, ← hb0, decide_eq_false h0, Bool.false_and, if_pos rfl]
      have HD := Aside0.mk hd
      clear h0 hb0 hd
      go_enter Try.func61, Try.ntmps61
      go_wp2
      go_ret
      exact .inr ⟨HD.out, rfl, w, Below.refl _ _, by first | rfl | rw [show ((sk + 1 : Nat) : Int) = (sk : Int) + 1 by omega]⟩
end Go.Proofs.Ytnanaojjhmpilaa.PW
