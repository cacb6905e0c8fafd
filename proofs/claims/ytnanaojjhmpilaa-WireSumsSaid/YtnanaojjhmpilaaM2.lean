/- WireSums: the machine's side. -/
import Derived.Test.YtnanaojjhmpilaaM1
import Derived.Test.YtnanaojjhmpilaaPWx1
import Derived.Outline
namespace Go.Proofs.Ytnanaojjhmpilaa.PW
open Go.RowKit Go.Proofs.YtnanaojjhmpilaaW.PrintWords Go.Proofs.YtnanaojjhmpilaaW.PrintLast Go.Proofs.YtnanaojjhmpilaaW.PrintMore
set_option linter.unusedVariables false
set_option linter.unusedSimpArgs false

theorem wire_Sum.eq (l : List Int) (h : bytesOk l = true) : wire_Sum.f l = some (sumW l) := by
  have := sumW_range l h
  unfold wire_Sum.f wire_sum.f
  simp only [Option.bind_some]
  congr 1
  unfold wrap64; omega
theorem wire_Sum.callsN (A0 : Option Addr) (c0 n : Nat) (l0 : List Int) (s : Int) (w : World) (hn : l0.length = n) (hr0 : C8 w A0 n l0) (hc0 : n ≤ c0) (hb : bytesOk l0 = true) (hs : sumW l0 = s) :
    Calls Try.prog 23 #[.slice A0 n c0] w fun e w' => e = .returned (.int .i64 s) ∧ Below w.heap.size w w' := by
  subst hn; subst hs; exact wire_Sum.calls A0 c0 l0 _ w hr0 hc0 (wire_Sum.eq l0 hb)
theorem ref_Sum_callsN (A0 : Option Addr) (c0 n : Nat) (l0 : List Int) (s : Int) (w : World) (hn : l0.length = n) (hr0 : C8 w A0 n l0) (hc0 : n ≤ c0) (hb : bytesOk l0 = true) (hm : n ≤ 1000000000) (hs : sumW l0 = s) :
    Calls Try.prog 24 #[.slice A0 n c0] w fun e w' => e = .returned (.int .i64 s) ∧ Drawn0 w w' := by
  subst hn; subst hs; exact heraldref2_Sum.calls (l0.length + 9) A0 c0 l0 _ w hr0 hc0 (ref_sum _ l0 (by omega) hb (by omega))
def heraldlaw2_WireSums.f (l0 : List Int) : Option Bool := if bytesOk l0 = true ∧ l0.length ≤ 140737488351232 then some true else none
def digits9 : List Int := [49, 50, 51, 52, 53, 54, 55, 56, 57]
theorem sum_digits : sumW digits9 = 3421780262 := by decide +kernel
set_option maxHeartbeats 8000000 in
set_option maxRecDepth 100000 in
theorem heraldlaw2_WireSums.calls (A0 : Option Addr) (c0 : Nat) (l0 : List Int) (r : Bool) (w : World) (hr0 : Kd.C (Kd.int .u8) w A0 l0.length l0) (hc0 : l0.length ≤ c0) (h : heraldlaw2_WireSums.f l0 = some r) :
    Calls Try.prog 4 #[.slice A0 l0.length c0] w fun e w' => e = .returned (.bool r) ∧ Below w.heap.size w w' := by
  unfold heraldlaw2_WireSums.f at h
  split at h
  case isFalse => cases h
  rename_i hok
  obtain ⟨hok, hm⟩ := hok
  obtain rfl : true = r := Option.some.inj h
  have HOK := Aside0.mk hok
  have HR0 := Aside0.mk hr0
  have HC0 := Aside0.mk hc0
  clear h hok hr0 hc0
  by_cases hbig : l0.length > 20000
  · go_enter Try.func4, Try.ntmps4
    go_wp2
    go_ret
    exact ⟨rfl, Below.refl _ _⟩
  obtain ⟨s1, hs1⟩ : ∃ s, s = sumW l0 := ⟨_, rfl⟩
  obtain ⟨s2, hs2⟩ : ∃ s, s = sumW (turnFrom 0 l0) := ⟨_, rfl⟩
  have HS1 := Aside0.mk hs1.symm
  have HS2 := Aside0.mk hs2.symm
  have HTL := Aside0.mk (turnFrom_len l0 0)
  have HTO := Aside0.mk (turnFrom_ok l0 0 HOK.out)
  clear hs1 hs2
  have kc := fun (w : World) (C : Array Value) (n c : Nat) => Lib.run_convert_bytes_const (P := Try.prog) w 22 5 C n c Try.underlying22 Try.underlying5
  go_enter Try.func4, Try.ntmps4
  go_wp2_with fail
  refine (roomy_M A0 c0 l0.length l0 _ rfl HR0.out HC0.out (by omega)).mono ?_
  rintro e1 w1 ⟨A1, c1, rfl, hr, hb⟩
  have hle := hr.le
  have HM1 := Aside0.mk hr
  have HB1 := Aside0.mk hb
  clear hr hb
  go_wp2_with fail
  refine (wire_Sum.callsN A1 c1 l0.length l0 s1 _ rfl HM1.out.reads (by omega) HOK.out HS1.out).mono ?_
  rintro e2 w2 ⟨rfl, hb⟩
  have HM2 := Aside0.mk (HM1.out.below hb)
  have HB2 := Aside0.mk (below_step HB1.out hb)
  clear hb HM1 HB1
  go_wp2_with fail
  refine (ref_Sum_callsN A0 c0 l0.length l0 s1 _ rfl (Kd.C_below HR0.out HB2.out) HC0.out HOK.out (by omega) HS1.out).mono ?_
  rintro e3 w3 ⟨rfl, hd⟩
  have HM3 := Aside0.mk (HM2.out.below hd.below)
  have HB3 := Aside0.mk (below_step HB2.out hd.below)
  clear hd HM2 HB2
  go_wp2_with fail
  refine (untouched_M w.heap.size A1 l0.length c1 l0 A0 c0 l0 true _ HM3.out (Kd.C_below HR0.out HB3.out) HC0.out (by omega) (decide_eq_true rfl)).mono ?_
  rintro e4 w4 ⟨rfl, hd⟩
  have HM4 := Aside0.mk (HM3.out.below hd.below)
  have HB4 := Aside0.mk (below_step HB3.out hd.below)
  clear hd HM3 HB3
  go_wp2_with fail
  refine (turned_M w A1 l0.length c1 l0 _ HM4.out HB4.out (by omega)).mono ?_
  rintro e5 w5 ⟨v5, rfl, ho, hr, hb, _⟩
  obtain ⟨A5, c5, rfl, hl5, hC⟩ := Kd.R_reads ho
  rw [HTL.out] at hC hl5 ⊢
  have HM5 := Aside0.mk hr
  have HB5 := Aside0.mk hb
  have HC5 := Aside0.mk hC
  clear ho hr hb hC HM4 HB4
  go_wp2_with fail
  refine (wire_Sum.callsN A1 c1 l0.length (turnFrom 0 l0) s2 _ HTL.out HM5.out.reads (by omega) HTO.out HS2.out).mono ?_
  rintro e6 w6 ⟨rfl, hb⟩
  have HM6 := Aside0.mk (HM5.out.below hb)
  have HB6 := Aside0.mk (below_then HB5.out HB5.out.size hb)
  have HC6 := Aside0.mk (Kd.C_below HC5.out hb)
  clear hb HM5 HB5 HC5
  go_wp2_with fail
  refine (ref_Sum_callsN A5 c5 l0.length (turnFrom 0 l0) s2 _ HTL.out HC6.out hl5 HTO.out (by omega) HS2.out).mono ?_
  rintro e7 w7 ⟨rfl, hd⟩
  have HM7 := Aside0.mk (HM6.out.below hd.below)
  have HB7 := Aside0.mk (below_then HB6.out HB6.out.size hd.below)
  have HC7 := Aside0.mk (Kd.C_below HC6.out hd.below)
  clear hd HM6 HB6 HC6
  go_wp2_with fail
  refine (untouched_M w.heap.size A1 l0.length c1 (turnFrom 0 l0) A5 c5 (turnFrom 0 l0) true _ HM7.out HC7.out hl5 (by omega) (decide_eq_true rfl)).mono ?_
  rintro e8 w8 ⟨rfl, hd⟩
  have HB8 := Aside0.mk (below_then HB7.out HB7.out.size hd.below)
  clear hd HM7 HB7 HC7
  go_wp2_with fail
  have hC9 := C_lit w8 digits9 (9, 10) (by decide)
  refine (wire_Sum.callsN (some ⟨w8.heap.size, 0, none⟩) 9 9 digits9 3421780262 (w8.alloc (.cells (nums .u8 digits9).toArray 5 (9, 10))) rfl hC9 (by decide) (by decide) sum_digits).mono ?_
  rintro e9 w9 ⟨rfl, hb⟩
  have HB9 := Aside0.mk (below_then (HB8.out.alloc HB8.out.size _) (by rw [size_alloc1]; have := HB8.out.size; omega) hb)
  clear hb hC9
  go_wp2
  go_ret
  exact ⟨rfl, HB9.out⟩
def heraldlaw2_WireSums.Pure : Prop := ∀ (l0 : List Int), l0.length ≤ maxLen → l0.length * 1 ≤ 140737488351232 → (∀ x ∈ l0, (Lit.int .u8 x).wf = true) → heraldlaw2_WireSums.f l0 = some true
theorem heraldlaw2_WireSums.walk (P : heraldlaw2_WireSums.Pure) (a0 : Option Addr) (len0 cap0 : Nat) (z0 : List Int) (w : World) (w0 : (a0 = none ∧ len0 = 0 ∧ cap0 = 0 ∧ z0 = []) ∨ ∃ x, a0 = some x ∧ len0 ≤ cap0 ∧ cap0 ≤ maxLen ∧ z0.length = cap0 ∧ (∀ i, i < z0.length → w.cell? (x.add i) = some (.int .u8 (z0.getD i 0))) ∧ ∀ n ∈ z0, (Lit.int .u8 n).wf = true) (y0 : len0 * 1 ≤ 140737488351232) :
    Calls Try.prog 4 #[.slice a0 len0 cap0] w fun e w' => e = .returned (.bool true) ∧ Below w.heap.size w w' := by
  obtain ⟨l0, rfl, hr0, hm0, hw0, hc0⟩ := ReadsInt.ofRowC w0
  have h := P l0 hm0 y0 hw0
  refine (heraldlaw2_WireSums.calls _ _ l0 true w (Kd.C_of_reads (d := (0 : Int)) (h1 := fun _ => rfl) hr0) hc0 h).mono ?_
  rintro e w' ⟨rfl, hd⟩
  exact ⟨rfl, hd⟩

end Go.Proofs.Ytnanaojjhmpilaa.PW
