/- WireReads: the machine's side. -/
import Derived.Test.YtnanaojjhmpilaaM1
import Derived.Test.YtnanaojjhmpilaaPWx2
import Derived.Test.YtnanaojjhmpilaaPWx4
import Derived.Test.YtnanaojjhmpilaaPWx5
import Derived.Outline
namespace Go.Proofs.Ytnanaojjhmpilaa.PW
open Go.RowKit Go.Proofs.YtnanaojjhmpilaaW.PrintWords Go.Proofs.YtnanaojjhmpilaaW.PrintLast Go.Proofs.YtnanaojjhmpilaaW.PrintMore
set_option linter.unusedVariables false
set_option linter.unusedSimpArgs false

section
variable (A : Option Addr) (c n : Nat) (l : List Int) (a : Int) (w : World) (hn : l.length = n) (hr : C8 w A n l) (hc : n ≤ c) (hok : bytesOk l = true) (hm : n ≤ 1000000000)
include hn hr hc hok hm
theorem rn36 (v p e : Int) (h : readNum l a = (v, p, e)) : Calls Try.prog 36 #[.slice A n c, .int .i64 a] w fun x w' => x = .returned (.tuple #[.int .i64 v, .int .i64 p, .int .i64 e]) ∧ Drawn0 w w' := by
  subst hn; exact wire_ReadNumber.calls A c l a v p e w hr hc (by unfold wire_ReadNumber.f; rw [if_pos ⟨hok, by omega⟩, h])
theorem rn54 (v p e : Int) (h : readNum l a = (v, p, e)) : Calls Try.prog 54 #[.slice A n c, .int .i64 a] w fun x w' => x = .returned (.tuple #[.int .i64 v, .int .i64 p, .int .i64 e]) ∧ Drawn0 w w' := by
  subst hn; exact heraldref2_ReadNumber.calls A c l a v p e w hr hc (by unfold heraldref2_ReadNumber.f; rw [if_pos ⟨hok, by omega⟩, h])
theorem rt46 (t : List Int) (s : ByteArray) (q g : Int) (h : readText l a = (t, q, g)) (hs : strOfNums t = s) : Calls Try.prog 46 #[.slice A n c, .int .i64 a] w fun x w' => x = .returned (.tuple #[.string s, .int .i64 q, .int .i64 g]) ∧ Drawn0 w w' := by
  subst hn; subst hs; exact wire_ReadText.calls A c l a _ q g w hr hc (by unfold wire_ReadText.f; rw [if_pos ⟨hok, by omega⟩, h])
theorem rt55 (t : List Int) (s : ByteArray) (q g : Int) (h : readText l a = (t, q, g)) (hs : strOfNums t = s) : Calls Try.prog 55 #[.slice A n c, .int .i64 a] w fun x w' => x = .returned (.tuple #[.string s, .int .i64 q, .int .i64 g]) ∧ Drawn0 w w' := by
  subst hn; subst hs; exact heraldref2_ReadText.calls A c l a _ q g w hr hc (by unfold heraldref2_ReadText.f; rw [if_pos ⟨hok, by omega⟩, h])
end

set_option maxHeartbeats 8000000 in
set_option maxRecDepth 100000 in
theorem reads_M (base : Nat) (A : Option Addr) (n c : Nat) (l : List Int) (B : Option Addr) (cb : Nat) (a : Int) (w : World) (hr : RM w base A n c l) (hB : C8 w B n l) (hcb : n ≤ cb) (hok : bytesOk l = true) (hm : n ≤ 1000000000) :
    Calls Try.prog 35 #[.slice A n c, .slice B n cb, .int .i64 a] w fun e w' => e = .returned (.bool true) ∧ Drawn0 w w' := by
  have hle := hr.le
  obtain ⟨v, p, e, hvp⟩ : ∃ v p e, readNum l a = (v, p, e) := ⟨_, _, _, rfl⟩
  obtain ⟨t, q, g, hsq⟩ : ∃ t q g, readText l a = (t, q, g) := ⟨_, _, _, rfl⟩
  obtain ⟨s, hs⟩ : ∃ s, s = strOfNums t := ⟨_, rfl⟩
  have HVP := Aside0.mk hvp
  have HSQ := Aside0.mk hsq
  have HS := Aside0.mk hs.symm
  have HR := Aside0.mk hr
  have HB := Aside0.mk hB
  have HL := Aside0.mk hr.1
  have HOK := Aside0.mk hok
  have hcn : n ≤ c := by omega
  clear hvp hsq hs hr hB hok
  go_enter Try.func35, Try.ntmps35
  go_wp2_with fail
  refine (rn36 A c n l a _ HL.out HR.out.reads hcn HOK.out hm v p e HVP.out).mono ?_
  rintro e1 w1 ⟨rfl, hd⟩
  have HR1 := Aside0.mk (HR.out.below hd.below)
  have HB1 := Aside0.mk (Kd.C_below HB.out hd.below)
  have HD1 := Aside0.mk hd
  clear hd HR HB
  go_wp2_with fail
  refine (rn54 B cb n l a _ HL.out HB1.out hcb HOK.out hm v p e HVP.out).mono ?_
  rintro e2 w2 ⟨rfl, hd⟩
  have HR2 := Aside0.mk (HR1.out.below hd.below)
  have HB2 := Aside0.mk (Kd.C_below HB1.out hd.below)
  have HD2 := Aside0.mk (drawn_trans HD1.out hd)
  clear hd HR1 HB1 HD1
  go_wp2_with fail
  refine (heraldlaw2_num.calls e e _ rfl).mono ?_
  rintro e3 w3 ⟨rfl, hd⟩
  have HR3 := Aside0.mk (HR2.out.below hd.below)
  have HB3 := Aside0.mk (Kd.C_below HB2.out hd.below)
  have HD3 := Aside0.mk (drawn_trans HD2.out hd)
  clear hd HR2 HB2 HD2
  go_wp2_with fail
  refine (untouched_M base A n c l B cb l true _ HR3.out HB3.out hcb (by omega) (decide_eq_true rfl)).mono ?_
  rintro e4 w4 ⟨rfl, hd⟩
  have HR4 := Aside0.mk (HR3.out.below hd.below)
  have HB4 := Aside0.mk (Kd.C_below HB3.out hd.below)
  have HD4 := Aside0.mk (drawn_trans HD3.out hd)
  clear hd HR3 HB3 HD3
  go_wp2_with fail
  refine (rt46 A c n l a _ HL.out HR4.out.reads hcn HOK.out hm t s q g HSQ.out HS.out).mono ?_
  rintro e5 w5 ⟨rfl, hd⟩
  have HR5 := Aside0.mk (HR4.out.below hd.below)
  have HB5 := Aside0.mk (Kd.C_below HB4.out hd.below)
  have HD5 := Aside0.mk (drawn_trans HD4.out hd)
  clear hd HR4 HB4 HD4
  go_wp2_with fail
  refine (rt55 B cb n l a _ HL.out HB5.out hcb HOK.out hm t s q g HSQ.out HS.out).mono ?_
  rintro e6 w6 ⟨rfl, hd⟩
  have HR6 := Aside0.mk (HR5.out.below hd.below)
  have HB6 := Aside0.mk (Kd.C_below HB5.out hd.below)
  have HD6 := Aside0.mk (drawn_trans HD5.out hd)
  clear hd HR5 HB5 HD5
  go_wp2_with fail
  refine (heraldlaw2_num.calls g g _ rfl).mono ?_
  rintro e7 w7 ⟨rfl, hd⟩
  have HR7 := Aside0.mk (HR6.out.below hd.below)
  have HB7 := Aside0.mk (Kd.C_below HB6.out hd.below)
  have HD7 := Aside0.mk (drawn_trans HD6.out hd)
  clear hd HR6 HB6 HD6
  go_wp2_with fail
  refine (untouched_M base A n c l B cb l true _ HR7.out HB7.out hcb (by omega) (decide_eq_true rfl)).mono ?_
  rintro e8 w8 ⟨rfl, hd⟩
  have HD8 := Aside0.mk (drawn_trans HD7.out hd)
  clear hd HR7 HB7 HD7
  go_wp2
  go_ret
  exact ⟨rfl, HD8.out⟩

def heraldlaw2_WireReads.f (l0 : List Int) (a1 : Int) : Option Bool := if bytesOk l0 = true ∧ l0.length ≤ 140737488351232 then some true else none
theorem reads_example : readNum [7, 128, 1] 1 = (128, 3, 0) := by decide +kernel
set_option maxHeartbeats 8000000 in
set_option maxRecDepth 100000 in
theorem heraldlaw2_WireReads.calls (A0 : Option Addr) (c0 : Nat) (l0 : List Int) (a1 : Int) (r : Bool) (w : World) (hr0 : Kd.C (Kd.int .u8) w A0 l0.length l0) (hc0 : l0.length ≤ c0) (h : heraldlaw2_WireReads.f l0 a1 = some r) :
    Calls Try.prog 7 #[.slice A0 l0.length c0, .int .i64 a1] w fun e w' => e = .returned (.bool r) ∧ Below w.heap.size w w' := by
  unfold heraldlaw2_WireReads.f at h
  split at h
  case isFalse => cases h
  rename_i hok
  obtain ⟨hok, hm⟩ := hok
  obtain rfl : true = r := Option.some.inj h
  have HOK := Aside0.mk hok
  have HR0 := Aside0.mk hr0
  have HC0 := Aside0.mk hc0
  clear h hok hr0 hc0
  by_cases hbig : l0.length > 20000
  · go_enter Try.func7, Try.ntmps7
    go_wp2
    go_ret
    exact ⟨rfl, Below.refl _ _⟩
  have HTL := Aside0.mk (turnFrom_len l0 0)
  have HTO := Aside0.mk (turnFrom_ok l0 0 HOK.out)
  obtain ⟨m1, hm1⟩ : ∃ m, m = turnFrom 0 l0 := ⟨_, rfl⟩
  have HT2L := Aside0.mk (show (turnFrom 0 m1).length = l0.length by rw [turnFrom_len, hm1, turnFrom_len])
  have HT2O := Aside0.mk (turnFrom_ok m1 0 (hm1 ▸ HTO.out))
  rw [← hm1] at HTL HTO
  have HM := Aside0.mk hm1
  clear hm1
  go_enter Try.func7, Try.ntmps7
  go_wp2_with fail
  refine (roomy_M A0 c0 l0.length l0 _ rfl HR0.out HC0.out (by omega)).mono ?_
  rintro e1 w1 ⟨A1, c1, rfl, hr, hb⟩
  have hle := hr.le
  have HM1 := Aside0.mk hr
  have HB1 := Aside0.mk hb
  clear hr hb
  go_wp2_with fail
  refine (reads_M _ A1 l0.length c1 l0 A0 c0 a1 _ HM1.out (Kd.C_below HR0.out HB1.out) HC0.out HOK.out (by omega)).mono ?_
  rintro e2 w2 ⟨rfl, hd⟩
  have HM2 := Aside0.mk (HM1.out.below hd.below)
  have HB2 := Aside0.mk (below_step HB1.out hd.below)
  clear hd HM1 HB1
  go_wp2_with fail
  refine (turned_M w A1 l0.length c1 l0 _ HM2.out HB2.out (by omega)).mono ?_
  rintro e3 w3 ⟨v3, rfl, ho, hr, hb, _⟩
  obtain ⟨A3, c3, rfl, hl3, hC⟩ := Kd.R_reads ho
  rw [← HM.out] at hC hl3 hr ⊢
  rw [HTL.out] at hC hl3 ⊢
  have HM3 := Aside0.mk hr
  have HB3 := Aside0.mk hb
  have HC3 := Aside0.mk hC
  clear ho hr hb hC HM2 HB2
  go_wp2_with fail
  refine (reads_M _ A1 l0.length c1 m1 A3 c3 a1 _ HM3.out HC3.out hl3 HTO.out (by omega)).mono ?_
  rintro e4 w4 ⟨rfl, hd⟩
  have HM4 := Aside0.mk (HM3.out.below hd.below)
  have HB4 := Aside0.mk (below_then HB3.out HB3.out.size hd.below)
  clear hd HM3 HB3 HC3
  go_wp2_with fail
  refine (turned_M w A1 l0.length c1 m1 _ HM4.out HB4.out (by omega)).mono ?_
  rintro e5 w5 ⟨v5, rfl, ho, hr, hb, _⟩
  obtain ⟨A5, c5, rfl, hl5, hC⟩ := Kd.R_reads ho
  obtain ⟨m2, hm2⟩ : ∃ m, m = turnFrom 0 m1 := ⟨_, rfl⟩
  rw [← hm2] at hC hl5 hr ⊢ HT2L HT2O
  rw [HT2L.out] at hC hl5 ⊢
  have HM5 := Aside0.mk hr
  have HB5 := Aside0.mk hb
  have HC5 := Aside0.mk hC
  clear ho hr hb hC HM4 HB4 hm2
  go_wp2_with fail
  refine (reads_M _ A1 l0.length c1 m2 A5 c5 a1 _ HM5.out HC5.out hl5 HT2O.out (by omega)).mono ?_
  rintro e6 w6 ⟨rfl, hd⟩
  have HB6 := Aside0.mk (below_then HB5.out HB5.out.size hd.below)
  clear hd HM5 HB5 HC5
  go_wp2_with (with_reducible refine stop_lit rfl ?_)
  refine lit8 w6 w6.heap.size rfl rfl [7, 128, 1] ?_ (Below.refl _ _) (Nat.le_refl _) (by decide) ?_
  · go_simp
    rfl
  intro v7 w7 ho hb hg hat
  obtain ⟨A7, c7, rfl, hl7, hC⟩ := Kd.R_reads ho
  have HB7 := Aside0.mk (below_then HB6.out HB6.out.size hb)
  have HC7 := Aside0.mk hC
  clear ho hb hg hat hC HB6
  go_wp2_with fail
  refine (rn36 A7 c7 3 [7, 128, 1] 1 _ rfl HC7.out hl7 (by decide) (by decide) 128 3 0 reads_example).mono ?_
  rintro e8 w8 ⟨rfl, hd⟩
  have HB8 := Aside0.mk (below_then HB7.out HB7.out.size hd.below)
  clear hd HB7 HC7
  go_wp2
  go_ret
  exact ⟨rfl, HB8.out⟩
def heraldlaw2_WireReads.Pure : Prop := ∀ (l0 : List Int) (a1 : Int), l0.length ≤ maxLen → l0.length * 1 ≤ 140737488351232 → (∀ x ∈ l0, (Lit.int .u8 x).wf = true) → (Lit.int .i64 a1).wf = true → heraldlaw2_WireReads.f l0 a1 = some true
theorem heraldlaw2_WireReads.walk (P : heraldlaw2_WireReads.Pure) (a0 : Option Addr) (len0 cap0 : Nat) (z0 : List Int) (a1 : Int) (w : World) (w0 : (a0 = none ∧ len0 = 0 ∧ cap0 = 0 ∧ z0 = []) ∨ ∃ x, a0 = some x ∧ len0 ≤ cap0 ∧ cap0 ≤ maxLen ∧ z0.length = cap0 ∧ (∀ i, i < z0.length → w.cell? (x.add i) = some (.int .u8 (z0.getD i 0))) ∧ ∀ n ∈ z0, (Lit.int .u8 n).wf = true) (y0 : len0 * 1 ≤ 140737488351232) (w1 : (Lit.int .i64 a1).wf = true) :
    Calls Try.prog 7 #[.slice a0 len0 cap0, .int .i64 a1] w fun e w' => e = .returned (.bool true) ∧ Below w.heap.size w w' := by
  obtain ⟨l0, rfl, hr0, hm0, hw0, hc0⟩ := ReadsInt.ofRowC w0
  have h := P l0 a1 hm0 y0 hw0 w1
  refine (heraldlaw2_WireReads.calls _ _ l0 a1 true w (Kd.C_of_reads (d := (0 : Int)) (h1 := fun _ => rfl) hr0) hc0 h).mono ?_
  rintro e w' ⟨rfl, hd⟩
  exact ⟨rfl, hd⟩

end Go.Proofs.Ytnanaojjhmpilaa.PW
