/- The machine's side of functions, in one namespace: each function's call comes to what its Lean function tells. -/
import Derived.Test.YtnanaojjhmpilaaPWx0
import Derived.Test.YtnanaojjhmpilaaPWx2
import Derived.Test.YtnanaojjhmpilaaPWx3
import Derived.Test.YtnanaojjhmpilaaPWx6
import Derived.Test.YtnanaojjhmpilaaPWx9
namespace Go.Proofs.Ytnanaojjhmpilaa.PW
open Go.RowKit Go.Proofs.YtnanaojjhmpilaaW.PrintWords Go.Proofs.YtnanaojjhmpilaaW.PrintLast Go.Proofs.YtnanaojjhmpilaaW.PrintMore
attribute [local go_sem] max2_int min2_int max_two min_two max_three min_three max_four min_four   -- for this text's walks alone
set_option linter.unusedVariables false
set_option linter.unusedSimpArgs false

/-! ### heraldlaw2_WireSpoilt: function 14 -/
def heraldlaw2_WireSpoilt.f (l0 : List Int) (a1 a2 a3 : Int) : Option Bool := if bytesOk l0 = true ∧ l0.length ≤ 140737488351232 ∧ (-9223372036854775808 ≤ a1 ∧ a1 ≤ 9223372036854775807) ∧ (0 ≤ a2 ∧ a2 < 256) ∧ (-9223372036854775808 ≤ a3 ∧ a3 ≤ 9223372036854775807) then some true else none
/-- What a store leaves of bytes that the call owns. -/
theorem R8_stored {W : World} {base : Nat} {A : Option Addr} {n c : Nat} {l : List Int} (h : R8 W base (.slice A n c) l) (i : Nat) (hi : i < n) :
    ∃ g, A = some ⟨g, 0, none⟩ ∧ base ≤ g ∧ W.cell? ⟨g, i, none⟩ = some (.int .u8 (rd l i)) ∧ W.frozen? ⟨g, i, none⟩ = false ∧
      (∀ x : Int, R8 (W.setCell ⟨g, i, none⟩ (.int .u8 x)) base (.slice A n c) (l.set i x)) := by
  have ho := R8_own h
  have hn : n = l.length := (Kd.R_reads' h).1
  subst hn
  rcases ho.2 with ⟨h', _⟩ | ⟨g, cap, cur, h', hg, _⟩
  · injection h' with _ h2 _; omega
  · injection h' with hA hc
    subst hA
    have ho' : W.ownsRow base 5 1 (.slice (some ⟨g, 0, none⟩) l.length c) l.length (nums .u8 l) := ho
    have ha := own_at ho' (i : Int) (by omega) (by omega)
    rw [Int.toNat_natCast] at ha
    refine ⟨g, rfl, hg, ha.1, ha.2, fun x => ?_⟩
    have hs := (own_store ho' (i : Int) x).1
    rw [Int.toNat_natCast] at hs
    refine own_R8 ?_
    rw [List.length_set]
    exact hs
theorem R8_other {w w1 : World} {base : Nat} {v : Value} {l : List Int} {row : Option Nat} (h : R8 w base v l) (hg : w.grownBy w1 row) (hne : v.ownBlock = none ∨ v.ownBlock ≠ row) : R8 w1 base v l := own_R8 (own_other (R8_own h) hg hne)
set_option maxHeartbeats 8000000 in
set_option maxRecDepth 100000 in
theorem heraldlaw2_WireSpoilt.calls (A0 : Option Addr) (c0 : Nat) (l0 : List Int) (a1 a2 a3 : Int) (r : Bool) (w : World) (hr0 : Kd.C (Kd.int .u8) w A0 l0.length l0) (hc0 : l0.length ≤ c0) (h : heraldlaw2_WireSpoilt.f l0 a1 a2 a3 = some r) :
    Calls Try.prog 14 #[.slice A0 l0.length c0, .int .i64 a1, .int .u8 a2, .int .i64 a3] w fun e w' => e = .returned (.bool r) ∧ Below w.heap.size w w' := by
  unfold heraldlaw2_WireSpoilt.f at h
  split at h
  case isFalse => cases h
  rename_i hok
  obtain ⟨hok, hm, ⟨i1, i2⟩, ⟨i3, i4⟩, i5, i6⟩ := hok
  obtain rfl : true = r := Option.some.inj h
  clear h
  have HOK := Aside0.mk hok
  have HR0 := Aside0.mk hr0
  have HC0 := Aside0.mk hc0
  clear hok hr0 hc0
  by_cases hbig : l0.length > 20000
  · go_enter Try.func14, Try.ntmps14
    go_wp2_with (go_at_call 45; refine (heraldlaw2_awake.calls true _ rfl).mono ?_; rintro e1 w1 ⟨rfl, hb⟩; have HB1 := Aside0.mk hb; clear hb)
    go_ret
    exact ⟨rfl, HB1.out⟩
  obtain ⟨F, hF⟩ : ∃ F, F = frameOf l0 := ⟨_, rfl⟩
  have hFl : F.length = l0.length + 14 := by rw [hF, frameOf_length]
  have hfr : wire_Frame.f [l0] = some (F, 0) := by
    unfold wire_Frame.f
    have h1 : piecesOk [l0] = true := by unfold piecesOk; simp; omega
    have h2 : tot [l0] ≤ 262144 := by unfold tot; simp; omega
    rw [if_neg (by rw [h1]; decide), if_pos h2, hF]; simp
  have hFok : bytesOk F = true := by rw [hF]; exact frameOf_ok l0 HOK.out
  have unf : ∀ (l m : List Int) (e : Int), bytesOk l = true → l.length ≤ 100000 → unframe l = (m, e) → wire_Unframe.f l = some (m, e) := by
    intro l m e h1 h2 h3; unfold wire_Unframe.f; rw [if_pos ⟨h1, by omega⟩, h3]
  have u1 := unf F l0 0 hFok (by omega) (by rw [hF]; exact unframe_frame l0 HOK.out (by omega))
  have u2 : ∀ c : Nat, c < F.length → wire_Unframe.f (F.take c) = some ([], 21) := fun c hc => unf _ _ _ (bytesOk_take hFok c) (by rw [List.length_take]; omega) (by rw [hF]; rw [hF] at hc; exact unframe_cut l0 (by omega) c hc)
  have u3 := unf (F ++ [a2]) [] 22 (bytesOk_append hFok (by unfold bytesOk; simp; omega)) (by rw [List.length_append]; simp; omega) (by rw [hF]; exact unframe_more l0 (by omega) a2)
  have u4 : a2 ≠ 0 → ∀ c : Nat, c < F.length → wire_Unframe.f (F.set c (Go.bits .xor .u8 (rd F c) a2)) = some ([], 22) := by
    intro hz c hc
    obtain ⟨t0, t1, t2⟩ := turn_byte (rd F c) a2 (rd_byte F hFok c) ⟨i3, i4⟩ hz
    refine unf _ _ _ (bytesOk_set' F c _ hFok t0 t1) (by rw [List.length_set]; omega) ?_
    rw [hF] at t0 t1 t2 hc ⊢
    exact unframe_turned l0 HOK.out (by omega) c hc _ ⟨t0, t1⟩ t2
  have hlen : ((F.length : Int) != (l0.length : Int) + 14) = false := bne_eq_false_iff_eq.mpr (by omega)
  have hl0 : 14 ≤ F.length ∧ F.length ≤ 20014 := by omega
  obtain ⟨hl1, hl2⟩ := hl0
  have HFL := Aside0.mk hFl
  have HF := Aside0.mk hfr
  have U1 := Aside0.mk u1
  have U2 := Aside0.mk u2
  have U3 := Aside0.mk u3
  have U4 := Aside0.mk u4
  have HFO := Aside0.mk hFok
  clear hF hFl hfr hFok unf u1 u2 u3 u4
  have HSD := Aside0.mk (show decide (l0 = l0) = true from decide_eq_true rfl)
  by_cases hat : a1 < 0
  · have hatd : decide (a1 < 0) = true := decide_eq_true (by omega)
    by_cases hct : a3 < 0
    · have hctd : decide (a3 < 0) = true := decide_eq_true (by omega)
      obtain ⟨x1, hx1⟩ : ∃ x : Int, x = -((a1 + 1).tmod (F.length : Int)) := ⟨_, rfl⟩
      obtain ⟨x3, hx3⟩ : ∃ x : Int, x = -((a3 + 1).tmod (F.length : Int)) := ⟨_, rfl⟩
      have hx1e : x1 = (-(a1 + 1)) % (F.length : Int) := hx1.trans (by first | rfl | (rw [← Int.neg_tmod, Int.tmod_eq_emod_of_nonneg (by omega)]) | rw [Int.tmod_eq_emod_of_nonneg (by omega)])
      have hx3e : x3 = (-(a3 + 1)) % (F.length : Int) := hx3.trans (by first | rfl | (rw [← Int.neg_tmod, Int.tmod_eq_emod_of_nonneg (by omega)]) | rw [Int.tmod_eq_emod_of_nonneg (by omega)])
      have hx10 : 0 ≤ x1 := by rw [hx1e]; exact Int.emod_nonneg _ (by omega)
      have hx11 : x1 < (F.length : Int) := by rw [hx1e]; exact Int.emod_lt_of_pos _ (by omega)
      have hx30 : 0 ≤ x3 := by rw [hx3e]; exact Int.emod_nonneg _ (by omega)
      have hx31 : x3 < (F.length : Int) := by rw [hx3e]; exact Int.emod_lt_of_pos _ (by omega)
      clear hx1e hx3e
      have HX1 := Aside0.mk hx1
      have HX3 := Aside0.mk hx3
      clear hx1 hx3
      go_enter Try.func14, Try.ntmps14
      go_wp2_with (go_at_call 45; refine (heraldlaw2_awake.calls true _ rfl).mono ?_; rintro e1 w1 ⟨rfl, hb⟩; have HB1 := Aside0.mk hb; clear hb)
      have hrow := C_rows w1 [.slice A0 l0.length c0] [l0] rfl (by simp) (by
        intro j p hj
        match j with
        | 0 => simp at hj; subst hj; exact ⟨A0, c0, rfl, HC0.out, Kd.C_below HR0.out HB1.out⟩
        | j + 1 => simp at hj)
      refine (wire_Frame.calls (some ⟨w1.heap.size, 0, none⟩) 1 [l0] F 0 _ hrow (by simp) HF.out).mono ?_
      rintro e2 w2 ⟨v2, rfl, ho, hb⟩
      have HB2 := Aside0.mk (below_step (below_step HB1.out (below_alloc (Below.refl _ _) _)) hb)
      have HO2 := Aside0.mk (Kd.R_lower ho (below_step HB1.out (below_alloc (Below.refl _ _) _)).size)
      clear ho hb hrow HB1
      obtain ⟨A2, c2, rfl, hl2c, hC⟩ := Kd.R_reads HO2.out
      have HC2 := Aside0.mk hC
      clear hC
      go_wp2_with fail
      refine (wire_Unframe.calls A2 c2 F l0 0 _ HC2.out hl2c U1.out).mono ?_
      rintro e3 w3 ⟨v3, rfl, ho, hb⟩
      have HB3 := Aside0.mk (below_step HB2.out hb)
      have HO3 := Aside0.mk (Kd.R_below HO2.out hb)
      obtain ⟨A3, c3, rfl, hl3, hC⟩ := Kd.R_reads ho
      have HC3 := Aside0.mk hC
      clear ho hb hC HB2 HO2 HC2
      go_wp2_with fail
      refine (heraldlaw2_same.callsB true 100000 A3 c3 l0.length l0 A0 c0 l0.length l0 _ (decide_eq_true rfl) rfl rfl HC3.out hl3 (Kd.C_below HR0.out HB3.out) HC0.out (by omega) (by omega)).mono ?_
      rintro e4 w4 ⟨rfl, ⟨nd4, rfl⟩⟩
      obtain ⟨w5, hw5⟩ : ∃ w5 : World, w5 = w3.drewN nd4 := ⟨_, rfl⟩
      rw [← hw5]
      have HB5 := Aside0.mk (show Below w.heap.size w w5 from hw5 ▸ pw_below_drewN HB3.out nd4)
      have HO5 := Aside0.mk (show R8 w5 w.heap.size (.slice A2 F.length c2) F from hw5 ▸ Kd.R_drewN HO3.out nd4)
      clear hw5 HB3 HO3 HC3
      go_wp2_with (with_reducible refine stop_slice rfl ?_)
      rw [← HX3.out, ← HX1.out]
      have hx1n : x1.toNat < F.length := by omega
      have hx3n : x3.toNat < F.length := by omega
      refine to8 rfl _ _ rfl rfl rfl hx30 (by omega) ?_
      have hC5 := (Kd.R_reads' HO5.out).2.2
      have HT5 := Aside0.mk (show C8 w5 A2 x3.toNat (F.take x3.toNat) by
        have hd := Kd.C_take (m := x3.toNat) hC5 (by omega)
        rw [List.length_take, Nat.min_eq_left (by omega)] at hd
        exact hd)
      clear hC5
      go_wp2_with fail
      refine (wire_Unframe.callsN A2 c2 x3.toNat (F.take x3.toNat) [] 21 _ (by rw [List.length_take]; omega) HT5.out (by omega) (U2.out x3.toNat hx3n)).mono ?_
      rintro e6 w6 ⟨v6, rfl, ho, hb⟩
      have HB6 := Aside0.mk (below_step HB5.out hb)
      have HO6 := Aside0.mk (Kd.R_below HO5.out hb)
      have HC6 := Aside0.mk (Kd.R_reads' HO6.out).2.2
      clear ho hb HB5 HO5 HT5
      go_wp2_with (with_reducible refine stop_append rfl ?_)
      refine app8 (v := .slice none 0 0) w w.heap.size rfl _ _ rfl rfl rfl (Kd.R_nil _ _ _ _ _) HC6.out HB6.out HB6.out.size (by simp; omega) ?_
      intro v7 w7 ho hb hg hat
      have hat7 : ∃ b, v7.ownBlock = some b ∧ w6.heap.size ≤ b ∨ v7.ownBlock = none := by
        rcases hat with h | ⟨b, h1, h2⟩
        · exact ⟨0, .inr h⟩
        · exact ⟨b, .inl ⟨h1, h2⟩⟩
      have HNE := Aside0.mk (show (Value.slice A2 F.length c2).ownBlock = none ∨ (Value.slice A2 F.length c2).ownBlock ≠ v7.ownBlock by
        obtain ⟨b, h | h⟩ := hat7
        · right
          intro he
          have := Kd.R_lt HO6.out b (he.trans h.1)
          omega
        · cases hA : (Value.slice A2 F.length c2).ownBlock with
          | none => exact .inl rfl
          | some k => right; rw [h]; simp)
      have HB7 := Aside0.mk hb
      have HO7 := Aside0.mk (R8_other HO6.out hg (by
        cases hA : (Value.slice A2 F.length c2).ownBlock with
        | none => exact .inl rfl
        | some k => right; simp [Value.ownBlock]))
      have HV7 := Aside0.mk (show R8 w7 w.heap.size v7 F from ho)
      clear ho hb hg hat hat7 HB6 HO6 HC6
      go_wp2_with (with_reducible refine stop_lit rfl ?_)
      refine lit8 w7 w7.heap.size rfl rfl [a2] ?_ (Below.refl _ _) (Nat.le_refl _) (by simp) ?_
      · go_simp
        rfl
      intro v8 w8 ho hb hg hat
      obtain ⟨A8, c8, rfl, hl8, hC⟩ := Kd.R_reads ho
      have HB8 := Aside0.mk (below_step HB7.out hb)
      have HO8 := Aside0.mk (Kd.R_below HO7.out hb)
      have HV8 := Aside0.mk (Kd.R_below HV7.out hb)
      have HC8 := Aside0.mk hC
      clear ho hb hg hat hC HB7 HO7 HV7
      go_wp2_with (with_reducible refine stop_append rfl ?_)
      refine app8 (v := v7) w w.heap.size rfl _ _ rfl rfl rfl HV8.out HC8.out HB8.out HB8.out.size (by simp; omega) ?_
      intro v9 w9 ho hb hg hat
      have HB9 := Aside0.mk hb
      have HO9 := Aside0.mk (R8_other HO8.out hg HNE.out)
      obtain ⟨M, hM⟩ : ∃ M, M = F ++ [a2] := ⟨_, rfl⟩
      rw [← hM] at ho
      have u3 := U3.out
      rw [← hM] at u3
      have HU3 := Aside0.mk u3
      clear hM u3 U3
      obtain ⟨A9, c9, rfl, hl9, hC⟩ := Kd.R_reads ho
      have HC9 := Aside0.mk hC
      clear ho hb hg hat hC HB8 HO8 HV8 HC8 HNE
      go_wp2_with fail
      refine (wire_Unframe.calls A9 c9 M [] 22 _ HC9.out hl9 HU3.out).mono ?_
      rintro e10 w10 ⟨v10, rfl, ho, hb⟩
      have HB10 := Aside0.mk (below_step HB9.out hb)
      have HO10 := Aside0.mk (Kd.R_below HO9.out hb)
      clear ho hb HB9 HO9 HC9 HU3
      by_cases hz : a2 = 0
      · have hz1 : (a2 == 0) = true := beq_iff_eq.mpr hz
        have hz2 : (a2 != 0) = false := bne_eq_false_iff_eq.mpr hz
        clear hz
        go_wp2
        go_ret
        exact ⟨rfl, HB10.out⟩
      · have hz1 : (a2 == 0) = false := beq_eq_false_iff_ne.mpr hz
        have hz2 : (a2 != 0) = true := bne_iff_ne.mpr hz
        have hu4 := U4.out hz x1.toNat hx1n
        rw [show (x1.toNat : Int) = x1 by omega] at hu4
        obtain ⟨g, hA, hgb, hcell, hfrz, hst⟩ := R8_stored HO10.out x1.toNat hx1n
        rw [show (x1.toNat : Int) = x1 by omega] at hcell
        subst hA
        have HST := Aside0.mk (hst (Go.bits .xor .u8 (rd F x1) a2))
        have HU4 := Aside0.mk hu4
        clear hz hu4 hst
        go_wp2_with fail
        have hC11 : C8 (w10.setCell ⟨g, x1.toNat, none⟩ (.int .u8 (Go.bits .xor .u8 (rd F x1) a2))) (some ⟨g, 0, none⟩) F.length (F.set x1.toNat (Go.bits .xor .u8 (rd F x1) a2)) := by
          have := (Kd.R_reads' HST.out).2.2
          rwa [List.length_set] at this
        have HB11 := Aside0.mk (show Below w.heap.size w (w10.setCell ⟨g, x1.toNat, none⟩ (.int .u8 (Go.bits .xor .u8 (rd F x1) a2))) from HB10.out.setCell hgb _)
        refine (wire_Unframe.callsN (some ⟨g, 0, none⟩) c2 F.length (F.set x1.toNat (Go.bits .xor .u8 (rd F x1) a2)) [] 22 _ List.length_set hC11 hl2c HU4.out).mono ?_
        rintro e12 w12 ⟨v12, rfl, ho, hb⟩
        obtain ⟨A12, c12, rfl, _, _⟩ := Kd.R_reads ho
        have HB12 := Aside0.mk (below_step HB11.out hb)
        clear ho hb hC11
        go_wp2
        go_ret
        exact ⟨rfl, HB12.out⟩
    · have hctd : decide (a3 < 0) = false := decide_eq_false (by omega)
      obtain ⟨x1, hx1⟩ : ∃ x : Int, x = -((a1 + 1).tmod (F.length : Int)) := ⟨_, rfl⟩
      obtain ⟨x3, hx3⟩ : ∃ x : Int, x = a3 % (F.length : Int) := ⟨_, rfl⟩
      have hx1e : x1 = (-(a1 + 1)) % (F.length : Int) := hx1.trans (by first | rfl | (rw [← Int.neg_tmod, Int.tmod_eq_emod_of_nonneg (by omega)]) | rw [Int.tmod_eq_emod_of_nonneg (by omega)])
      have hx3e : x3 = (a3) % (F.length : Int) := hx3.trans (by first | rfl | (rw [← Int.neg_tmod, Int.tmod_eq_emod_of_nonneg (by omega)]) | rw [Int.tmod_eq_emod_of_nonneg (by omega)])
      have hx10 : 0 ≤ x1 := by rw [hx1e]; exact Int.emod_nonneg _ (by omega)
      have hx11 : x1 < (F.length : Int) := by rw [hx1e]; exact Int.emod_lt_of_pos _ (by omega)
      have hx30 : 0 ≤ x3 := by rw [hx3e]; exact Int.emod_nonneg _ (by omega)
      have hx31 : x3 < (F.length : Int) := by rw [hx3e]; exact Int.emod_lt_of_pos _ (by omega)
      clear hx1e hx3e
      have HX1 := Aside0.mk hx1
      have HX3 := Aside0.mk hx3
      clear hx1 hx3
      go_enter Try.func14, Try.ntmps14
      go_wp2_with (go_at_call 45; refine (heraldlaw2_awake.calls true _ rfl).mono ?_; rintro e1 w1 ⟨rfl, hb⟩; have HB1 := Aside0.mk hb; clear hb)
      have hrow := C_rows w1 [.slice A0 l0.length c0] [l0] rfl (by simp) (by
        intro j p hj
        match j with
        | 0 => simp at hj; subst hj; exact ⟨A0, c0, rfl, HC0.out, Kd.C_below HR0.out HB1.out⟩
        | j + 1 => simp at hj)
      refine (wire_Frame.calls (some ⟨w1.heap.size, 0, none⟩) 1 [l0] F 0 _ hrow (by simp) HF.out).mono ?_
      rintro e2 w2 ⟨v2, rfl, ho, hb⟩
      have HB2 := Aside0.mk (below_step (below_step HB1.out (below_alloc (Below.refl _ _) _)) hb)
      have HO2 := Aside0.mk (Kd.R_lower ho (below_step HB1.out (below_alloc (Below.refl _ _) _)).size)
      clear ho hb hrow HB1
      obtain ⟨A2, c2, rfl, hl2c, hC⟩ := Kd.R_reads HO2.out
      have HC2 := Aside0.mk hC
      clear hC
      go_wp2_with fail
      refine (wire_Unframe.calls A2 c2 F l0 0 _ HC2.out hl2c U1.out).mono ?_
      rintro e3 w3 ⟨v3, rfl, ho, hb⟩
      have HB3 := Aside0.mk (below_step HB2.out hb)
      have HO3 := Aside0.mk (Kd.R_below HO2.out hb)
      obtain ⟨A3, c3, rfl, hl3, hC⟩ := Kd.R_reads ho
      have HC3 := Aside0.mk hC
      clear ho hb hC HB2 HO2 HC2
      go_wp2_with fail
      refine (heraldlaw2_same.callsB true 100000 A3 c3 l0.length l0 A0 c0 l0.length l0 _ (decide_eq_true rfl) rfl rfl HC3.out hl3 (Kd.C_below HR0.out HB3.out) HC0.out (by omega) (by omega)).mono ?_
      rintro e4 w4 ⟨rfl, ⟨nd4, rfl⟩⟩
      obtain ⟨w5, hw5⟩ : ∃ w5 : World, w5 = w3.drewN nd4 := ⟨_, rfl⟩
      rw [← hw5]
      have HB5 := Aside0.mk (show Below w.heap.size w w5 from hw5 ▸ pw_below_drewN HB3.out nd4)
      have HO5 := Aside0.mk (show R8 w5 w.heap.size (.slice A2 F.length c2) F from hw5 ▸ Kd.R_drewN HO3.out nd4)
      clear hw5 HB3 HO3 HC3
      go_wp2_with (with_reducible refine stop_slice rfl ?_)
      rw [← HX3.out, ← HX1.out]
      have hx1n : x1.toNat < F.length := by omega
      have hx3n : x3.toNat < F.length := by omega
      refine to8 rfl _ _ rfl rfl rfl hx30 (by omega) ?_
      have hC5 := (Kd.R_reads' HO5.out).2.2
      have HT5 := Aside0.mk (show C8 w5 A2 x3.toNat (F.take x3.toNat) by
        have hd := Kd.C_take (m := x3.toNat) hC5 (by omega)
        rw [List.length_take, Nat.min_eq_left (by omega)] at hd
        exact hd)
      clear hC5
      go_wp2_with fail
      refine (wire_Unframe.callsN A2 c2 x3.toNat (F.take x3.toNat) [] 21 _ (by rw [List.length_take]; omega) HT5.out (by omega) (U2.out x3.toNat hx3n)).mono ?_
      rintro e6 w6 ⟨v6, rfl, ho, hb⟩
      have HB6 := Aside0.mk (below_step HB5.out hb)
      have HO6 := Aside0.mk (Kd.R_below HO5.out hb)
      have HC6 := Aside0.mk (Kd.R_reads' HO6.out).2.2
      clear ho hb HB5 HO5 HT5
      go_wp2_with (with_reducible refine stop_append rfl ?_)
      refine app8 (v := .slice none 0 0) w w.heap.size rfl _ _ rfl rfl rfl (Kd.R_nil _ _ _ _ _) HC6.out HB6.out HB6.out.size (by simp; omega) ?_
      intro v7 w7 ho hb hg hat
      have hat7 : ∃ b, v7.ownBlock = some b ∧ w6.heap.size ≤ b ∨ v7.ownBlock = none := by
        rcases hat with h | ⟨b, h1, h2⟩
        · exact ⟨0, .inr h⟩
        · exact ⟨b, .inl ⟨h1, h2⟩⟩
      have HNE := Aside0.mk (show (Value.slice A2 F.length c2).ownBlock = none ∨ (Value.slice A2 F.length c2).ownBlock ≠ v7.ownBlock by
        obtain ⟨b, h | h⟩ := hat7
        · right
          intro he
          have := Kd.R_lt HO6.out b (he.trans h.1)
          omega
        · cases hA : (Value.slice A2 F.length c2).ownBlock with
          | none => exact .inl rfl
          | some k => right; rw [h]; simp)
      have HB7 := Aside0.mk hb
      have HO7 := Aside0.mk (R8_other HO6.out hg (by
        cases hA : (Value.slice A2 F.length c2).ownBlock with
        | none => exact .inl rfl
        | some k => right; simp [Value.ownBlock]))
      have HV7 := Aside0.mk (show R8 w7 w.heap.size v7 F from ho)
      clear ho hb hg hat hat7 HB6 HO6 HC6
      go_wp2_with (with_reducible refine stop_lit rfl ?_)
      refine lit8 w7 w7.heap.size rfl rfl [a2] ?_ (Below.refl _ _) (Nat.le_refl _) (by simp) ?_
      · go_simp
        rfl
      intro v8 w8 ho hb hg hat
      obtain ⟨A8, c8, rfl, hl8, hC⟩ := Kd.R_reads ho
      have HB8 := Aside0.mk (below_step HB7.out hb)
      have HO8 := Aside0.mk (Kd.R_below HO7.out hb)
      have HV8 := Aside0.mk (Kd.R_below HV7.out hb)
      have HC8 := Aside0.mk hC
      clear ho hb hg hat hC HB7 HO7 HV7
      go_wp2_with (with_reducible refine stop_append rfl ?_)
      refine app8 (v := v7) w w.heap.size rfl _ _ rfl rfl rfl HV8.out HC8.out HB8.out HB8.out.size (by simp; omega) ?_
      intro v9 w9 ho hb hg hat
      have HB9 := Aside0.mk hb
      have HO9 := Aside0.mk (R8_other HO8.out hg HNE.out)
      obtain ⟨M, hM⟩ : ∃ M, M = F ++ [a2] := ⟨_, rfl⟩
      rw [← hM] at ho
      have u3 := U3.out
      rw [← hM] at u3
      have HU3 := Aside0.mk u3
      clear hM u3 U3
      obtain ⟨A9, c9, rfl, hl9, hC⟩ := Kd.R_reads ho
      have HC9 := Aside0.mk hC
      clear ho hb hg hat hC HB8 HO8 HV8 HC8 HNE
      go_wp2_with fail
      refine (wire_Unframe.calls A9 c9 M [] 22 _ HC9.out hl9 HU3.out).mono ?_
      rintro e10 w10 ⟨v10, rfl, ho, hb⟩
      have HB10 := Aside0.mk (below_step HB9.out hb)
      have HO10 := Aside0.mk (Kd.R_below HO9.out hb)
      clear ho hb HB9 HO9 HC9 HU3
      by_cases hz : a2 = 0
      · have hz1 : (a2 == 0) = true := beq_iff_eq.mpr hz
        have hz2 : (a2 != 0) = false := bne_eq_false_iff_eq.mpr hz
        clear hz
        go_wp2
        go_ret
        exact ⟨rfl, HB10.out⟩
      · have hz1 : (a2 == 0) = false := beq_eq_false_iff_ne.mpr hz
        have hz2 : (a2 != 0) = true := bne_iff_ne.mpr hz
        have hu4 := U4.out hz x1.toNat hx1n
        rw [show (x1.toNat : Int) = x1 by omega] at hu4
        obtain ⟨g, hA, hgb, hcell, hfrz, hst⟩ := R8_stored HO10.out x1.toNat hx1n
        rw [show (x1.toNat : Int) = x1 by omega] at hcell
        subst hA
        have HST := Aside0.mk (hst (Go.bits .xor .u8 (rd F x1) a2))
        have HU4 := Aside0.mk hu4
        clear hz hu4 hst
        go_wp2_with fail
        have hC11 : C8 (w10.setCell ⟨g, x1.toNat, none⟩ (.int .u8 (Go.bits .xor .u8 (rd F x1) a2))) (some ⟨g, 0, none⟩) F.length (F.set x1.toNat (Go.bits .xor .u8 (rd F x1) a2)) := by
          have := (Kd.R_reads' HST.out).2.2
          rwa [List.length_set] at this
        have HB11 := Aside0.mk (show Below w.heap.size w (w10.setCell ⟨g, x1.toNat, none⟩ (.int .u8 (Go.bits .xor .u8 (rd F x1) a2))) from HB10.out.setCell hgb _)
        refine (wire_Unframe.callsN (some ⟨g, 0, none⟩) c2 F.length (F.set x1.toNat (Go.bits .xor .u8 (rd F x1) a2)) [] 22 _ List.length_set hC11 hl2c HU4.out).mono ?_
        rintro e12 w12 ⟨v12, rfl, ho, hb⟩
        obtain ⟨A12, c12, rfl, _, _⟩ := Kd.R_reads ho
        have HB12 := Aside0.mk (below_step HB11.out hb)
        clear ho hb hC11
        go_wp2
        go_ret
        exact ⟨rfl, HB12.out⟩
  · have hatd : decide (a1 < 0) = false := decide_eq_false (by omega)
    by_cases hct : a3 < 0
    · have hctd : decide (a3 < 0) = true := decide_eq_true (by omega)
      obtain ⟨x1, hx1⟩ : ∃ x : Int, x = a1 % (F.length : Int) := ⟨_, rfl⟩
      obtain ⟨x3, hx3⟩ : ∃ x : Int, x = -((a3 + 1).tmod (F.length : Int)) := ⟨_, rfl⟩
      have hx1e : x1 = (a1) % (F.length : Int) := hx1.trans (by first | rfl | (rw [← Int.neg_tmod, Int.tmod_eq_emod_of_nonneg (by omega)]) | rw [Int.tmod_eq_emod_of_nonneg (by omega)])
      have hx3e : x3 = (-(a3 + 1)) % (F.length : Int) := hx3.trans (by first | rfl | (rw [← Int.neg_tmod, Int.tmod_eq_emod_of_nonneg (by omega)]) | rw [Int.tmod_eq_emod_of_nonneg (by omega)])
      have hx10 : 0 ≤ x1 := by rw [hx1e]; exact Int.emod_nonneg _ (by omega)
      have hx11 : x1 < (F.length : Int) := by rw [hx1e]; exact Int.emod_lt_of_pos _ (by omega)
      have hx30 : 0 ≤ x3 := by rw [hx3e]; exact Int.emod_nonneg _ (by omega)
      have hx31 : x3 < (F.length : Int) := by rw [hx3e]; exact Int.emod_lt_of_pos _ (by omega)
      clear hx1e hx3e
      have HX1 := Aside0.mk hx1
      have HX3 := Aside0.mk hx3
      clear hx1 hx3
      go_enter Try.func14, Try.ntmps14
      go_wp2_with (go_at_call 45; refine (heraldlaw2_awake.calls true _ rfl).mono ?_; rintro e1 w1 ⟨rfl, hb⟩; have HB1 := Aside0.mk hb; clear hb)
      have hrow := C_rows w1 [.slice A0 l0.length c0] [l0] rfl (by simp) (by
        intro j p hj
        match j with
        | 0 => simp at hj; subst hj; exact ⟨A0, c0, rfl, HC0.out, Kd.C_below HR0.out HB1.out⟩
        | j + 1 => simp at hj)
      refine (wire_Frame.calls (some ⟨w1.heap.size, 0, none⟩) 1 [l0] F 0 _ hrow (by simp) HF.out).mono ?_
      rintro e2 w2 ⟨v2, rfl, ho, hb⟩
      have HB2 := Aside0.mk (below_step (below_step HB1.out (below_alloc (Below.refl _ _) _)) hb)
      have HO2 := Aside0.mk (Kd.R_lower ho (below_step HB1.out (below_alloc (Below.refl _ _) _)).size)
      clear ho hb hrow HB1
      obtain ⟨A2, c2, rfl, hl2c, hC⟩ := Kd.R_reads HO2.out
      have HC2 := Aside0.mk hC
      clear hC
      go_wp2_with fail
      refine (wire_Unframe.calls A2 c2 F l0 0 _ HC2.out hl2c U1.out).mono ?_
      rintro e3 w3 ⟨v3, rfl, ho, hb⟩
      have HB3 := Aside0.mk (below_step HB2.out hb)
      have HO3 := Aside0.mk (Kd.R_below HO2.out hb)
      obtain ⟨A3, c3, rfl, hl3, hC⟩ := Kd.R_reads ho
      have HC3 := Aside0.mk hC
      clear ho hb hC HB2 HO2 HC2
      go_wp2_with fail
      refine (heraldlaw2_same.callsB true 100000 A3 c3 l0.length l0 A0 c0 l0.length l0 _ (decide_eq_true rfl) rfl rfl HC3.out hl3 (Kd.C_below HR0.out HB3.out) HC0.out (by omega) (by omega)).mono ?_
      rintro e4 w4 ⟨rfl, ⟨nd4, rfl⟩⟩
      obtain ⟨w5, hw5⟩ : ∃ w5 : World, w5 = w3.drewN nd4 := ⟨_, rfl⟩
      rw [← hw5]
      have HB5 := Aside0.mk (show Below w.heap.size w w5 from hw5 ▸ pw_below_drewN HB3.out nd4)
      have HO5 := Aside0.mk (show R8 w5 w.heap.size (.slice A2 F.length c2) F from hw5 ▸ Kd.R_drewN HO3.out nd4)
      clear hw5 HB3 HO3 HC3
      go_wp2_with (with_reducible refine stop_slice rfl ?_)
      rw [← HX3.out, ← HX1.out]
      have hx1n : x1.toNat < F.length := by omega
      have hx3n : x3.toNat < F.length := by omega
      refine to8 rfl _ _ rfl rfl rfl hx30 (by omega) ?_
      have hC5 := (Kd.R_reads' HO5.out).2.2
      have HT5 := Aside0.mk (show C8 w5 A2 x3.toNat (F.take x3.toNat) by
        have hd := Kd.C_take (m := x3.toNat) hC5 (by omega)
        rw [List.length_take, Nat.min_eq_left (by omega)] at hd
        exact hd)
      clear hC5
      go_wp2_with fail
      refine (wire_Unframe.callsN A2 c2 x3.toNat (F.take x3.toNat) [] 21 _ (by rw [List.length_take]; omega) HT5.out (by omega) (U2.out x3.toNat hx3n)).mono ?_
      rintro e6 w6 ⟨v6, rfl, ho, hb⟩
      have HB6 := Aside0.mk (below_step HB5.out hb)
      have HO6 := Aside0.mk (Kd.R_below HO5.out hb)
      have HC6 := Aside0.mk (Kd.R_reads' HO6.out).2.2
      clear ho hb HB5 HO5 HT5
      go_wp2_with (with_reducible refine stop_append rfl ?_)
      refine app8 (v := .slice none 0 0) w w.heap.size rfl _ _ rfl rfl rfl (Kd.R_nil _ _ _ _ _) HC6.out HB6.out HB6.out.size (by simp; omega) ?_
      intro v7 w7 ho hb hg hat
      have hat7 : ∃ b, v7.ownBlock = some b ∧ w6.heap.size ≤ b ∨ v7.ownBlock = none := by
        rcases hat with h | ⟨b, h1, h2⟩
        · exact ⟨0, .inr h⟩
        · exact ⟨b, .inl ⟨h1, h2⟩⟩
      have HNE := Aside0.mk (show (Value.slice A2 F.length c2).ownBlock = none ∨ (Value.slice A2 F.length c2).ownBlock ≠ v7.ownBlock by
        obtain ⟨b, h | h⟩ := hat7
        · right
          intro he
          have := Kd.R_lt HO6.out b (he.trans h.1)
          omega
        · cases hA : (Value.slice A2 F.length c2).ownBlock with
          | none => exact .inl rfl
          | some k => right; rw [h]; simp)
      have HB7 := Aside0.mk hb
      have HO7 := Aside0.mk (R8_other HO6.out hg (by
        cases hA : (Value.slice A2 F.length c2).ownBlock with
        | none => exact .inl rfl
        | some k => right; simp [Value.ownBlock]))
      have HV7 := Aside0.mk (show R8 w7 w.heap.size v7 F from ho)
      clear ho hb hg hat hat7 HB6 HO6 HC6
      go_wp2_with (with_reducible refine stop_lit rfl ?_)
      refine lit8 w7 w7.heap.size rfl rfl [a2] ?_ (Below.refl _ _) (Nat.le_refl _) (by simp) ?_
      · go_simp
        rfl
      intro v8 w8 ho hb hg hat
      obtain ⟨A8, c8, rfl, hl8, hC⟩ := Kd.R_reads ho
      have HB8 := Aside0.mk (below_step HB7.out hb)
      have HO8 := Aside0.mk (Kd.R_below HO7.out hb)
      have HV8 := Aside0.mk (Kd.R_below HV7.out hb)
      have HC8 := Aside0.mk hC
      clear ho hb hg hat hC HB7 HO7 HV7
      go_wp2_with (with_reducible refine stop_append rfl ?_)
      refine app8 (v := v7) w w.heap.size rfl _ _ rfl rfl rfl HV8.out HC8.out HB8.out HB8.out.size (by simp; omega) ?_
      intro v9 w9 ho hb hg hat
      have HB9 := Aside0.mk hb
      have HO9 := Aside0.mk (R8_other HO8.out hg HNE.out)
      obtain ⟨M, hM⟩ : ∃ M, M = F ++ [a2] := ⟨_, rfl⟩
      rw [← hM] at ho
      have u3 := U3.out
      rw [← hM] at u3
      have HU3 := Aside0.mk u3
      clear hM u3 U3
      obtain ⟨A9, c9, rfl, hl9, hC⟩ := Kd.R_reads ho
      have HC9 := Aside0.mk hC
      clear ho hb hg hat hC HB8 HO8 HV8 HC8 HNE
      go_wp2_with fail
      refine (wire_Unframe.calls A9 c9 M [] 22 _ HC9.out hl9 HU3.out).mono ?_
      rintro e10 w10 ⟨v10, rfl, ho, hb⟩
      have HB10 := Aside0.mk (below_step HB9.out hb)
      have HO10 := Aside0.mk (Kd.R_below HO9.out hb)
      clear ho hb HB9 HO9 HC9 HU3
      by_cases hz : a2 = 0
      · have hz1 : (a2 == 0) = true := beq_iff_eq.mpr hz
        have hz2 : (a2 != 0) = false := bne_eq_false_iff_eq.mpr hz
        clear hz
        go_wp2
        go_ret
        exact ⟨rfl, HB10.out⟩
      · have hz1 : (a2 == 0) = false := beq_eq_false_iff_ne.mpr hz
        have hz2 : (a2 != 0) = true := bne_iff_ne.mpr hz
        have hu4 := U4.out hz x1.toNat hx1n
        rw [show (x1.toNat : Int) = x1 by omega] at hu4
        obtain ⟨g, hA, hgb, hcell, hfrz, hst⟩ := R8_stored HO10.out x1.toNat hx1n
        rw [show (x1.toNat : Int) = x1 by omega] at hcell
        subst hA
        have HST := Aside0.mk (hst (Go.bits .xor .u8 (rd F x1) a2))
        have HU4 := Aside0.mk hu4
        clear hz hu4 hst
        go_wp2_with fail
        have hC11 : C8 (w10.setCell ⟨g, x1.toNat, none⟩ (.int .u8 (Go.bits .xor .u8 (rd F x1) a2))) (some ⟨g, 0, none⟩) F.length (F.set x1.toNat (Go.bits .xor .u8 (rd F x1) a2)) := by
          have := (Kd.R_reads' HST.out).2.2
          rwa [List.length_set] at this
        have HB11 := Aside0.mk (show Below w.heap.size w (w10.setCell ⟨g, x1.toNat, none⟩ (.int .u8 (Go.bits .xor .u8 (rd F x1) a2))) from HB10.out.setCell hgb _)
        refine (wire_Unframe.callsN (some ⟨g, 0, none⟩) c2 F.length (F.set x1.toNat (Go.bits .xor .u8 (rd F x1) a2)) [] 22 _ List.length_set hC11 hl2c HU4.out).mono ?_
        rintro e12 w12 ⟨v12, rfl, ho, hb⟩
        obtain ⟨A12, c12, rfl, _, _⟩ := Kd.R_reads ho
        have HB12 := Aside0.mk (below_step HB11.out hb)
        clear ho hb hC11
        go_wp2
        go_ret
        exact ⟨rfl, HB12.out⟩
    · have hctd : decide (a3 < 0) = false := decide_eq_false (by omega)
      obtain ⟨x1, hx1⟩ : ∃ x : Int, x = a1 % (F.length : Int) := ⟨_, rfl⟩
      obtain ⟨x3, hx3⟩ : ∃ x : Int, x = a3 % (F.length : Int) := ⟨_, rfl⟩
      have hx1e : x1 = (a1) % (F.length : Int) := hx1.trans (by first | rfl | (rw [← Int.neg_tmod, Int.tmod_eq_emod_of_nonneg (by omega)]) | rw [Int.tmod_eq_emod_of_nonneg (by omega)])
      have hx3e : x3 = (a3) % (F.length : Int) := hx3.trans (by first | rfl | (rw [← Int.neg_tmod, Int.tmod_eq_emod_of_nonneg (by omega)]) | rw [Int.tmod_eq_emod_of_nonneg (by omega)])
      have hx10 : 0 ≤ x1 := by rw [hx1e]; exact Int.emod_nonneg _ (by omega)
      have hx11 : x1 < (F.length : Int) := by rw [hx1e]; exact Int.emod_lt_of_pos _ (by omega)
      have hx30 : 0 ≤ x3 := by rw [hx3e]; exact Int.emod_nonneg _ (by omega)
      have hx31 : x3 < (F.length : Int) := by rw [hx3e]; exact Int.emod_lt_of_pos _ (by omega)
      clear hx1e hx3e
      have HX1 := Aside0.mk hx1
      have HX3 := Aside0.mk hx3
      clear hx1 hx3
      go_enter Try.func14, Try.ntmps14
      go_wp2_with (go_at_call 45; refine (heraldlaw2_awake.calls true _ rfl).mono ?_; rintro e1 w1 ⟨rfl, hb⟩; have HB1 := Aside0.mk hb; clear hb)
      have hrow := C_rows w1 [.slice A0 l0.length c0] [l0] rfl (by simp) (by
        intro j p hj
        match j with
        | 0 => simp at hj; subst hj; exact ⟨A0, c0, rfl, HC0.out, Kd.C_below HR0.out HB1.out⟩
        | j + 1 => simp at hj)
      refine (wire_Frame.calls (some ⟨w1.heap.size, 0, none⟩) 1 [l0] F 0 _ hrow (by simp) HF.out).mono ?_
      rintro e2 w2 ⟨v2, rfl, ho, hb⟩
      have HB2 := Aside0.mk (below_step (below_step HB1.out (below_alloc (Below.refl _ _) _)) hb)
      have HO2 := Aside0.mk (Kd.R_lower ho (below_step HB1.out (below_alloc (Below.refl _ _) _)).size)
      clear ho hb hrow HB1
      obtain ⟨A2, c2, rfl, hl2c, hC⟩ := Kd.R_reads HO2.out
      have HC2 := Aside0.mk hC
      clear hC
      go_wp2_with fail
      refine (wire_Unframe.calls A2 c2 F l0 0 _ HC2.out hl2c U1.out).mono ?_
      rintro e3 w3 ⟨v3, rfl, ho, hb⟩
      have HB3 := Aside0.mk (below_step HB2.out hb)
      have HO3 := Aside0.mk (Kd.R_below HO2.out hb)
      obtain ⟨A3, c3, rfl, hl3, hC⟩ := Kd.R_reads ho
      have HC3 := Aside0.mk hC
      clear ho hb hC HB2 HO2 HC2
      go_wp2_with fail
      refine (heraldlaw2_same.callsB true 100000 A3 c3 l0.length l0 A0 c0 l0.length l0 _ (decide_eq_true rfl) rfl rfl HC3.out hl3 (Kd.C_below HR0.out HB3.out) HC0.out (by omega) (by omega)).mono ?_
      rintro e4 w4 ⟨rfl, ⟨nd4, rfl⟩⟩
      obtain ⟨w5, hw5⟩ : ∃ w5 : World, w5 = w3.drewN nd4 := ⟨_, rfl⟩
      rw [← hw5]
      have HB5 := Aside0.mk (show Below w.heap.size w w5 from hw5 ▸ pw_below_drewN HB3.out nd4)
      have HO5 := Aside0.mk (show R8 w5 w.heap.size (.slice A2 F.length c2) F from hw5 ▸ Kd.R_drewN HO3.out nd4)
      clear hw5 HB3 HO3 HC3
      go_wp2_with (with_reducible refine stop_slice rfl ?_)
      rw [← HX3.out, ← HX1.out]
      have hx1n : x1.toNat < F.length := by omega
      have hx3n : x3.toNat < F.length := by omega
      refine to8 rfl _ _ rfl rfl rfl hx30 (by omega) ?_
      have hC5 := (Kd.R_reads' HO5.out).2.2
      have HT5 := Aside0.mk (show C8 w5 A2 x3.toNat (F.take x3.toNat) by
        have hd := Kd.C_take (m := x3.toNat) hC5 (by omega)
        rw [List.length_take, Nat.min_eq_left (by omega)] at hd
        exact hd)
      clear hC5
      go_wp2_with fail
      refine (wire_Unframe.callsN A2 c2 x3.toNat (F.take x3.toNat) [] 21 _ (by rw [List.length_take]; omega) HT5.out (by omega) (U2.out x3.toNat hx3n)).mono ?_
      rintro e6 w6 ⟨v6, rfl, ho, hb⟩
      have HB6 := Aside0.mk (below_step HB5.out hb)
      have HO6 := Aside0.mk (Kd.R_below HO5.out hb)
      have HC6 := Aside0.mk (Kd.R_reads' HO6.out).2.2
      clear ho hb HB5 HO5 HT5
      go_wp2_with (with_reducible refine stop_append rfl ?_)
      refine app8 (v := .slice none 0 0) w w.heap.size rfl _ _ rfl rfl rfl (Kd.R_nil _ _ _ _ _) HC6.out HB6.out HB6.out.size (by simp; omega) ?_
      intro v7 w7 ho hb hg hat
      have hat7 : ∃ b, v7.ownBlock = some b ∧ w6.heap.size ≤ b ∨ v7.ownBlock = none := by
        rcases hat with h | ⟨b, h1, h2⟩
        · exact ⟨0, .inr h⟩
        · exact ⟨b, .inl ⟨h1, h2⟩⟩
      have HNE := Aside0.mk (show (Value.slice A2 F.length c2).ownBlock = none ∨ (Value.slice A2 F.length c2).ownBlock ≠ v7.ownBlock by
        obtain ⟨b, h | h⟩ := hat7
        · right
          intro he
          have := Kd.R_lt HO6.out b (he.trans h.1)
          omega
        · cases hA : (Value.slice A2 F.length c2).ownBlock with
          | none => exact .inl rfl
          | some k => right; rw [h]; simp)
      have HB7 := Aside0.mk hb
      have HO7 := Aside0.mk (R8_other HO6.out hg (by
        cases hA : (Value.slice A2 F.length c2).ownBlock with
        | none => exact .inl rfl
        | some k => right; simp [Value.ownBlock]))
      have HV7 := Aside0.mk (show R8 w7 w.heap.size v7 F from ho)
      clear ho hb hg hat hat7 HB6 HO6 HC6
      go_wp2_with (with_reducible refine stop_lit rfl ?_)
      refine lit8 w7 w7.heap.size rfl rfl [a2] ?_ (Below.refl _ _) (Nat.le_refl _) (by simp) ?_
      · go_simp
        rfl
      intro v8 w8 ho hb hg hat
      obtain ⟨A8, c8, rfl, hl8, hC⟩ := Kd.R_reads ho
      have HB8 := Aside0.mk (below_step HB7.out hb)
      have HO8 := Aside0.mk (Kd.R_below HO7.out hb)
      have HV8 := Aside0.mk (Kd.R_below HV7.out hb)
      have HC8 := Aside0.mk hC
      clear ho hb hg hat hC HB7 HO7 HV7
      go_wp2_with (with_reducible refine stop_append rfl ?_)
      refine app8 (v := v7) w w.heap.size rfl _ _ rfl rfl rfl HV8.out HC8.out HB8.out HB8.out.size (by simp; omega) ?_
      intro v9 w9 ho hb hg hat
      have HB9 := Aside0.mk hb
      have HO9 := Aside0.mk (R8_other HO8.out hg HNE.out)
      obtain ⟨M, hM⟩ : ∃ M, M = F ++ [a2] := ⟨_, rfl⟩
      rw [← hM] at ho
      have u3 := U3.out
      rw [← hM] at u3
      have HU3 := Aside0.mk u3
      clear hM u3 U3
      obtain ⟨A9, c9, rfl, hl9, hC⟩ := Kd.R_reads ho
      have HC9 := Aside0.mk hC
      clear ho hb hg hat hC HB8 HO8 HV8 HC8 HNE
      go_wp2_with fail
      refine (wire_Unframe.calls A9 c9 M [] 22 _ HC9.out hl9 HU3.out).mono ?_
      rintro e10 w10 ⟨v10, rfl, ho, hb⟩
      have HB10 := Aside0.mk (below_step HB9.out hb)
      have HO10 := Aside0.mk (Kd.R_below HO9.out hb)
      clear ho hb HB9 HO9 HC9 HU3
      by_cases hz : a2 = 0
      · have hz1 : (a2 == 0) = true := beq_iff_eq.mpr hz
        have hz2 : (a2 != 0) = false := bne_eq_false_iff_eq.mpr hz
        clear hz
        go_wp2
        go_ret
        exact ⟨rfl, HB10.out⟩
      · have hz1 : (a2 == 0) = false := beq_eq_false_iff_ne.mpr hz
        have hz2 : (a2 != 0) = true := bne_iff_ne.mpr hz
        have hu4 := U4.out hz x1.toNat hx1n
        rw [show (x1.toNat : Int) = x1 by omega] at hu4
        obtain ⟨g, hA, hgb, hcell, hfrz, hst⟩ := R8_stored HO10.out x1.toNat hx1n
        rw [show (x1.toNat : Int) = x1 by omega] at hcell
        subst hA
        have HST := Aside0.mk (hst (Go.bits .xor .u8 (rd F x1) a2))
        have HU4 := Aside0.mk hu4
        clear hz hu4 hst
        go_wp2_with fail
        have hC11 : C8 (w10.setCell ⟨g, x1.toNat, none⟩ (.int .u8 (Go.bits .xor .u8 (rd F x1) a2))) (some ⟨g, 0, none⟩) F.length (F.set x1.toNat (Go.bits .xor .u8 (rd F x1) a2)) := by
          have := (Kd.R_reads' HST.out).2.2
          rwa [List.length_set] at this
        have HB11 := Aside0.mk (show Below w.heap.size w (w10.setCell ⟨g, x1.toNat, none⟩ (.int .u8 (Go.bits .xor .u8 (rd F x1) a2))) from HB10.out.setCell hgb _)
        refine (wire_Unframe.callsN (some ⟨g, 0, none⟩) c2 F.length (F.set x1.toNat (Go.bits .xor .u8 (rd F x1) a2)) [] 22 _ List.length_set hC11 hl2c HU4.out).mono ?_
        rintro e12 w12 ⟨v12, rfl, ho, hb⟩
        obtain ⟨A12, c12, rfl, _, _⟩ := Kd.R_reads ho
        have HB12 := Aside0.mk (below_step HB11.out hb)
        clear ho hb hC11
        go_wp2
        go_ret
        exact ⟨rfl, HB12.out⟩
def heraldlaw2_WireSpoilt.Pure : Prop := ∀ (l0 : List Int) (a1 : Int) (a2 : Int) (a3 : Int), l0.length ≤ maxLen → l0.length * 1 ≤ 140737488351232 → (∀ x ∈ l0, (Lit.int .u8 x).wf = true) → (Lit.int .i64 a1).wf = true → (Lit.int .u8 a2).wf = true → (Lit.int .i64 a3).wf = true → heraldlaw2_WireSpoilt.f l0 a1 a2 a3 = some true
theorem heraldlaw2_WireSpoilt.walk (P : heraldlaw2_WireSpoilt.Pure) (a0 : Option Addr) (len0 cap0 : Nat) (z0 : List Int) (a1 : Int) (a2 : Int) (a3 : Int) (w : World) (w0 : (a0 = none ∧ len0 = 0 ∧ cap0 = 0 ∧ z0 = []) ∨ ∃ x, a0 = some x ∧ len0 ≤ cap0 ∧ cap0 ≤ maxLen ∧ z0.length = cap0 ∧ (∀ i, i < z0.length → w.cell? (x.add i) = some (.int .u8 (z0.getD i 0))) ∧ ∀ n ∈ z0, (Lit.int .u8 n).wf = true) (y0 : len0 * 1 ≤ 140737488351232) (w1 : (Lit.int .i64 a1).wf = true) (w2 : (Lit.int .u8 a2).wf = true) (w3 : (Lit.int .i64 a3).wf = true) :
    Calls Try.prog 14 #[.slice a0 len0 cap0, .int .i64 a1, .int .u8 a2, .int .i64 a3] w fun e w' => e = .returned (.bool true) ∧ Below w.heap.size w w' := by
  obtain ⟨l0, rfl, hr0, hm0, hw0, hc0⟩ := ReadsInt.ofRowC w0
  have h := P l0 a1 a2 a3 hm0 y0 hw0 w1 w2 w3
  refine (heraldlaw2_WireSpoilt.calls _ _ l0 a1 a2 a3 true w (Kd.C_of_reads (d := (0 : Int)) (h1 := fun _ => rfl) hr0) hc0 h).mono ?_
  rintro e w' ⟨rfl, hd⟩
  exact ⟨rfl, hd⟩

end Go.Proofs.Ytnanaojjhmpilaa.PW
