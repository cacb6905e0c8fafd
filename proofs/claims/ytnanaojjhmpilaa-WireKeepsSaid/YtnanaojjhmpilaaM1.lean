/- Lists with marks in the room behind them: roomy, untouched, turned: what each call comes to. -/
import Derived.Test.YtnanaojjhmpilaaPWx1
import Derived.Test.YtnanaojjhmpilaaPWx12
import Derived.Test.YtnanaojjhmpilaaPWx2
import Derived.Outline
namespace Go.Proofs.Ytnanaojjhmpilaa.PW
open Go.RowKit Go.Proofs.YtnanaojjhmpilaaW.PrintWords Go.Proofs.YtnanaojjhmpilaaW.PrintLast Go.Proofs.YtnanaojjhmpilaaW.PrintMore
set_option linter.unusedVariables false
set_option linter.unusedSimpArgs false

theorem drawn_trans {a b c : World} (h : Drawn0 a b) (k : Drawn0 b c) : Drawn0 a c := by
  obtain ⟨n, hn⟩ := h.out
  obtain ⟨m, hm⟩ := k.out
  exact ⟨⟨n + m, by rw [hm, hn, World.drewN_drewN]⟩⟩
/-- A list of n bytes of the call's own, with the two marks in the room behind it. -/
def RM (w : World) (base : Nat) (A : Option Addr) (n c : Nat) (l : List Int) : Prop := l.length = n ∧ R8 w base (.slice A (n + 2) c) (l ++ [167, 94])
theorem RM.le {w : World} {base : Nat} {A : Option Addr} {n c : Nat} {l : List Int} (h : RM w base A n c l) : n + 2 ≤ c := (Kd.R_reads' h.2).2.1
theorem RM.all {w : World} {base : Nat} {A : Option Addr} {n c : Nat} {l : List Int} (h : RM w base A n c l) : C8 w A (n + 2) (l ++ [167, 94]) := by
  have h1 := (Kd.R_reads' h.2).1
  have h2 := (Kd.R_reads' h.2).2.2
  rwa [← h1] at h2
theorem RM.reads {w : World} {base : Nat} {A : Option Addr} {n c : Nat} {l : List Int} (h : RM w base A n c l) : C8 w A n l := by
  have h2 := (Kd.R_reads' h.2).2.2
  have hd := Kd.C_take (m := n) h2 (by rw [List.length_append]; have := h.1; omega)
  have e : (l ++ [167, 94]).take n = l := by rw [← h.1, List.take_left]
  rw [e, h.1] at hd
  exact hd
theorem RM.below {w w1 : World} {base : Nat} {A : Option Addr} {n c : Nat} {l : List Int} (h : RM w base A n c l) (hb : Below w.heap.size w w1) : RM w1 base A n c l := ⟨h.1, Kd.R_below h.2 hb⟩
theorem RM.other {w w1 : World} {base : Nat} {A : Option Addr} {n c : Nat} {l : List Int} {row : Option Nat} (h : RM w base A n c l) (hg : w.grownBy w1 row) (hne : (Value.slice A n c).ownBlock = none ∨ (Value.slice A n c).ownBlock ≠ row) : RM w1 base A n c l :=
  ⟨h.1, R8_other h.2 hg (by cases A <;> exact hne)⟩
theorem RM.lower {w : World} {base b : Nat} {A : Option Addr} {n c : Nat} {l : List Int} (h : RM w base A n c l) (hb : b ≤ base) : RM w b A n c l := ⟨h.1, Kd.R_lower h.2 hb⟩

set_option maxHeartbeats 4000000 in
set_option maxRecDepth 100000 in
theorem roomy_M (A0 : Option Addr) (c0 n : Nat) (l : List Int) (w : World) (hn : l.length = n) (hr0 : C8 w A0 n l) (hc0 : n ≤ c0) (hm : n ≤ 100000000000) :
    Calls Try.prog 22 #[.slice A0 n c0] w fun e w' => ∃ A c, e = .returned (.slice A n c) ∧ RM w' w.heap.size A n c l ∧ Below w.heap.size w w' := by
  have HN := Aside0.mk hn
  have HR0 := Aside0.mk hr0
  clear hr0 hn
  go_enter Try.func22, Try.ntmps22
  go_wp2_with (with_reducible refine stop_append rfl ?_)
  refine app8 (v := .slice none 0 0) w w.heap.size rfl _ _ rfl rfl rfl (Kd.R_nil _ _ _ _ _) HR0.out (Below.refl _ _) (Nat.le_refl _) (by simp; omega) ?_
  intro v1 w1 ho hb hg hat
  have HB1 := Aside0.mk hb
  have HO1 := Aside0.mk (show R8 w1 w.heap.size v1 l from ho)
  clear ho hb hg hat
  go_wp2_with (with_reducible refine stop_lit rfl ?_)
  refine lit8 w1 w1.heap.size rfl rfl [167, 94] ?_ (Below.refl _ _) (Nat.le_refl _) (by simp) ?_
  · go_simp
    rfl
  intro v2 w2 ho hb hg hat
  obtain ⟨A2, c2, rfl, hl2, hC⟩ := Kd.R_reads ho
  have HB2 := Aside0.mk (below_step HB1.out hb)
  have HO2 := Aside0.mk (Kd.R_below HO1.out hb)
  have HC2 := Aside0.mk hC
  clear ho hb hg hat hC HB1 HO1
  go_wp2_with (with_reducible refine stop_append rfl ?_)
  refine app8 (v := v1) w w.heap.size rfl _ _ rfl rfl rfl HO2.out HC2.out HB2.out HB2.out.size (by have := HN.out; simp; omega) ?_
  intro v3 w3 ho hb hg hat
  obtain ⟨A3, c3, rfl, hl3, hC⟩ := Kd.R_reads ho
  have HL : (l ++ [167, 94]).length = n + 2 := by rw [List.length_append, HN.out]; rfl
  rw [HL] at ho hl3
  have HB3 := Aside0.mk hb
  have HO3 := Aside0.mk ho
  have e3 : (Value.slice A3 (l ++ [167, 94]).length c3) = .slice A3 (n + 2) c3 := by rw [HL]
  rw [e3]
  clear ho hb hg hat hC HO2 HB2 HC2 HL e3
  go_wp2_with (with_reducible refine stop_slice rfl ?_)
  refine to8 rfl _ _ rfl rfl rfl (by omega) (by omega) ?_
  go_wp2
  go_ret
  exact ⟨A3, c3, by simp, ⟨HN.out, HO3.out⟩, HB3.out⟩

set_option maxHeartbeats 4000000 in
set_option maxRecDepth 100000 in
theorem untouched_M (base : Nat) (A : Option Addr) (n c : Nat) (l : List Int) (B : Option Addr) (cb : Nat) (b : List Int) (r : Bool) (w : World) (hr : RM w base A n c l) (hB : C8 w B n b) (hcb : n ≤ cb) (hm : n ≤ 10000000000) (hres : decide (l = b) = r) :
    Calls Try.prog 25 #[.slice A n c, .slice B n cb] w fun e w' => e = .returned (.bool r) ∧ Drawn0 w w' := by
  have hle := hr.le
  have hl := hr.1
  have hbl : b.length = n := hB.1
  have HA := Aside0.mk hr.all
  have HR := Aside0.mk hr.reads
  have HB := Aside0.mk hB
  have HL := Aside0.mk hl
  have HBL := Aside0.mk hbl
  have HRES := Aside0.mk hres
  clear hB hbl hres
  obtain ⟨ad, hA, hx0⟩ := Kd.at_int HA.out (n : Int) (by omega) (by omega)
  subst hA
  obtain ⟨ad', hA, hx1⟩ := Kd.at_int HA.out ((n + 1 : Nat) : Int) (by omega) (by omega)
  cases hA
  rw [Int.toNat_natCast] at hx0 hx1
  have e0 : rd (l ++ [167, 94]) (n : Int) = 167 := by simp [rd, ← hl]
  have e1 : rd (l ++ [167, 94]) ((n + 1 : Nat) : Int) = 94 := by
    unfold rd
    rw [Int.toNat_natCast, ← hl, List.getD_eq_getElem?_getD, List.getElem?_append_right (by omega), show l.length + 1 - l.length = 1 by omega]
    rfl
  rw [e0] at hx0
  rw [e1] at hx1
  rw [show ad.add (n + 1) = ⟨ad.block, ad.off + (n + 1), none⟩ by simp [Addr.add]] at hx1
  clear hr hl e0 e1
  go_enter Try.func25, Try.ntmps25
  go_wp2_with (with_reducible refine stop_slice rfl ?_)
  refine to8 rfl _ _ rfl rfl rfl (by omega) (by omega) ?_
  have e2 : ((n : Int) + 2).toNat = n + 2 := by omega
  rw [e2]
  clear e2
  go_wp2_with fail
  refine (heraldlaw2_same.callsB r 100000000000 (some ad) c n l B cb n b _ HRES.out HL.out HBL.out HR.out (by omega) HB.out hcb (by have := HL.out; omega) (by have := HL.out; omega)).mono ?_
  rintro e w1 ⟨rfl, ⟨nd, rfl⟩⟩
  cases r with
  | false =>
    go_wp2
    go_ret
    exact ⟨rfl, ⟨⟨_, rfl⟩⟩⟩
  | true =>
    go_wp2
    go_ret
    exact ⟨rfl, ⟨⟨_, rfl⟩⟩⟩

/-- The bytes behind 'turned'. -/
def turnFrom : Nat → List Int → List Int
  | _, [] => []
  | i, x :: t => Go.bits .xor .u8 x (1 + (i : Int) % 7) :: turnFrom (i + 1) t
theorem turnFrom_len (l : List Int) : ∀ i, (turnFrom i l).length = l.length := by
  induction l with
  | nil => intro i; rfl
  | cons x t ih => intro i; simp [turnFrom, ih]
theorem turnFrom_at (l : List Int) : ∀ (i k : Nat), k < l.length → (turnFrom i l)[k]? = some (Go.bits .xor .u8 (rd l k) (1 + ((i + k : Nat) : Int) % 7)) := by
  induction l with
  | nil => intro i k h; simp at h
  | cons x t ih =>
    intro i k h
    cases k with
    | zero => simp [turnFrom, rd]
    | succ k =>
      have := ih (i + 1) k (by simpa using h)
      rw [turnFrom, List.getElem?_cons_succ, this]
      have e1 : rd (x :: t) ((k + 1 : Nat) : Int) = rd t (k : Int) := by simp [rd]
      rw [e1, show i + 1 + k = i + (k + 1) by omega]
theorem xor_byte (x y : Int) (hx : 0 ≤ x ∧ x < 256) (hy : 0 ≤ y ∧ y < 256) : 0 ≤ Go.bits .xor .u8 x y ∧ Go.bits .xor .u8 x y < 256 := by
  obtain ⟨a, rfl⟩ := Int.eq_ofNat_of_zero_le hx.1
  obtain ⟨b, rfl⟩ := Int.eq_ofNat_of_zero_le hy.1
  have e := bits_xor_nat .u8 8 (by decide) (fun n h0 h1 => by rw [IntKind.wrap_u8]; omega) a b (by omega) (by omega)
  have hlt : a ^^^ b < 2 ^ 8 := Nat.xor_lt_two_pow (by omega) (by omega)
  rw [e]
  omega
theorem turnFrom_ok (l : List Int) : ∀ i, bytesOk l = true → bytesOk (turnFrom i l) = true := by
  induction l with
  | nil => intro i _; rfl
  | cons x t ih =>
    intro i h
    obtain ⟨h0, h1, ht⟩ := bytesOk_cons h
    have := xor_byte x (1 + (i : Int) % 7) ⟨h0, h1⟩ (by omega)
    have h2 := ih (i + 1) ht
    unfold bytesOk at *
    rw [turnFrom, List.all_cons, h2]
    simp; omega
theorem turn_step (l m : List Int) (k : Nat) (hk : k < l.length) :
    ((turnFrom 0 l).take k ++ l.drop k ++ m).set k (Go.bits .xor .u8 (rd l k) (1 + (k : Int) % 7)) = (turnFrom 0 l).take (k + 1) ++ l.drop (k + 1) ++ m := by
  have ht := turnFrom_len l 0
  have ha := turnFrom_at l 0 k hk
  rw [Nat.zero_add] at ha
  have hl : ((turnFrom 0 l).take k).length = k := by rw [List.length_take]; omega
  have e : (turnFrom 0 l).take (k + 1) = (turnFrom 0 l).take k ++ [Go.bits .xor .u8 (rd l k) (1 + (k : Int) % 7)] := by
    rw [List.take_add_one, ha]; rfl
  rw [e, drop_rd l k hk, List.append_assoc, List.set_append_right _ _ (by omega), hl]
  simp

theorem grownBy_then {w W w1 : World} {row : Option Nat} (h : w.grownBy W row) (hb : Below W.heap.size W w1) : w.grownBy w1 row :=
  ⟨hb.os.trans h.os, hb.tape.trans h.tape, hb.output.trans h.output, Nat.le_trans h.size hb.size, fun k hk hne => (hb.block k (Nat.lt_of_lt_of_le hk h.size)).trans (h.block k hk hne)⟩
theorem grownBy_set {w W : World} {g n c : Nat} (h : w.grownBy W (Value.slice (some ⟨g, 0, none⟩) n c).ownBlock) (k : Nat) (u : Value) : w.grownBy (W.setCell ⟨g, k, none⟩ u) (Value.slice (some ⟨g, 0, none⟩) n c).ownBlock :=
  ⟨h.os, h.tape, h.output, by simpa [World.setCell] using h.size, fun j hj hne => (Below.heap_setCell W ⟨g, k, none⟩ u j (fun e => hne (by rw [e]; rfl))).trans (h.block j hj hne)⟩
set_option maxHeartbeats 4000000 in
set_option maxRecDepth 100000 in
theorem turned_M (w0 : World) (A : Option Addr) (n c : Nat) (l : List Int) (w : World) (hr : RM w w0.heap.size A n c l) (hb : Below w0.heap.size w0 w) (hm : n ≤ 10000000000) :
    Calls Try.prog 26 #[.slice A n c] w fun e w' => ∃ v : Value, e = .returned v ∧ R8 w' w.heap.size v (turnFrom 0 l) ∧ RM w' w0.heap.size A n c (turnFrom 0 l) ∧ Below w0.heap.size w0 w' ∧ w.grownBy w' (Value.slice A n c).ownBlock := by
  have hle := hr.le
  have HL := Aside0.mk hr.1
  have HO := Aside0.mk hr.2
  have HB := Aside0.mk hb
  have hlen : ((turnFrom 0 l).take 0 ++ l.drop 0 ++ [167, 94]) = l ++ [167, 94] := by simp
  have HG := Aside0.mk (show w.grownBy w (Value.slice A n c).ownBlock from ⟨rfl, rfl, rfl, Nat.le_refl _, fun _ _ _ => rfl⟩)
  clear hr hb
  go_enter Try.func26, Try.ntmps26
  go_wp2
  go_loopw [3] (fun i wr => ∃ k : Nat, k ≤ n ∧ i = .int .i64 k ∧ Aside0 (R8 wr w0.heap.size (.slice A (n + 2) c) ((turnFrom 0 l).take k ++ l.drop k ++ [167, 94])) ∧ Aside0 (Below w0.heap.size w0 wr) ∧ Aside0 (w.grownBy wr (Value.slice A n c).ownBlock)) (fun i _ => n - (intOf i).toNat)
  case atStart => exact ⟨0, Nat.zero_le _, rfl, ⟨by rw [hlen]; exact HO.out⟩, HB, HG⟩
  case round =>
    clear HO HB HG hlen
    obtain ⟨k, hk, rfl, HO, HB, HG⟩ := hrel
    by_cases hlt : k < n
    · obtain ⟨g, hA, hgb, hcell, hfrz, hst⟩ := R8_stored HO.out k (by omega)
      subst hA
      have hrd : rd ((turnFrom 0 l).take k ++ l.drop k ++ [167, 94]) (k : Int) = rd l k := by
        have hl := HL.out
        have ht := turnFrom_len l 0
        have h1 : ((turnFrom 0 l).take k).length = k := by rw [List.length_take]; omega
        unfold rd
        rw [Int.toNat_natCast, List.append_assoc, List.getD_eq_getElem?_getD, List.getElem?_append_right (by omega), h1, Nat.sub_self, List.getElem?_append_left (by rw [List.length_drop]; omega), List.getElem?_drop, List.getD_eq_getElem?_getD]
        simp
      rw [hrd] at hcell
      have HST := Aside0.mk hst
      have HSTEP := Aside0.mk (turn_step l [167, 94] k (by have := HL.out; omega))
      clear hst hrd
      go_wp2
      go_roundw
      case rel => exact ⟨k + 1, by omega, by go_num, ⟨by rw [← HSTEP.out]; exact HST.out _⟩, ⟨HB.out.setCell hgb _⟩, ⟨grownBy_set HG.out k _⟩⟩
      case measure => simp [intOf]; omega
    · have hkk : k = n := by omega
      subst hkk
      have e1 : (turnFrom 0 l).take k ++ l.drop k = turnFrom 0 l := by
        have hl := HL.out
        have ht := turnFrom_len l 0
        rw [List.take_of_length_le (by omega), List.drop_eq_nil_of_le (by omega), List.append_nil]
      rw [e1] at HO
      have HRM : RM _ w0.heap.size A k c (turnFrom 0 l) := ⟨by rw [turnFrom_len]; exact HL.out, HO.out⟩
      have HC := Aside0.mk HRM.reads
      have HM := Aside0.mk HRM
      clear e1 HO HRM
      go_wp2_with (with_reducible refine stop_append rfl ?_)
      refine app8 (v := .slice none 0 0) wr wr.heap.size rfl _ _ rfl rfl rfl (Kd.R_nil _ _ _ _ _) HC.out (Below.refl _ _) (Nat.le_refl _) (by simp; omega) ?_
      intro v1 w1 ho hb hg hat
      have HO1 := Aside0.mk (show R8 w1 w.heap.size v1 (turnFrom 0 l) from Kd.R_lower ho HG.out.size)
      have HM1 := Aside0.mk (HM.out.below hb)
      have HB1 := Aside0.mk (below_then HB.out HB.out.size hb)
      have HG1 := Aside0.mk (grownBy_then HG.out hb)
      clear ho hb hg hat
      go_wp2
      go_ret
      exact ⟨_, rfl, HO1.out, HM1.out, HB1.out, HG1.out⟩
end Go.Proofs.Ytnanaojjhmpilaa.PW
