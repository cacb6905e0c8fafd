/- WireUnframes: the machine's side. -/
import Derived.Test.YtnanaojjhmpilaaM1
import Derived.Test.YtnanaojjhmpilaaPWx1
import Derived.Test.YtnanaojjhmpilaaPWx2
import Derived.Test.YtnanaojjhmpilaaPWx3
import Derived.Test.YtnanaojjhmpilaaPWx6
import Derived.Test.YtnanaojjhmpilaaPWx7
import Derived.Outline
namespace Go.Proofs.Ytnanaojjhmpilaa.PW
open Go.RowKit Go.Proofs.YtnanaojjhmpilaaW.PrintWords Go.Proofs.YtnanaojjhmpilaaW.PrintLast Go.Proofs.YtnanaojjhmpilaaW.PrintMore
set_option linter.unusedVariables false
set_option linter.unusedSimpArgs false

theorem and255 (v : Int) (h0 : 0 ≤ v) (h1 : v < 4294967296) : Go.bits .and .i64 v 255 = v % 256 :=
  bits_mask .i64 32 (by decide) (fun n h0 h1 => wr_i64 n h0 (by omega)) 8 (by decide) v h0 (by omega)
theorem ref_four (v : Int) (h0 : 0 ≤ v) (h1 : v < 4294967296) : heraldref2_four.f v = some (four4 v) := by
  unfold heraldref2_four.f four4
  rw [and255 _ (by omega) (by omega), and255 _ (by omega) (by omega), and255 _ (by omega) (by omega), and255 _ h0 h1]
  congr 2
  · omega
  · congr 1
    · omega
    · congr 1
      · omega
      · congr 1; omega
theorem ref_frame (k : Nat) (b : List Int) (hb : bytesOk b = true) (h : b.length ≤ 262144) (hk : b.length + 30 ≤ k) : heraldref2_Frame.f k b = some (frameOf b, 0) := by
  have l1 := four4_len (b.length : Int)
  have hr1 := sumW_range ([197, 58] ++ four4 b.length) (bytesOk_append magic_ok (four4_ok _))
  have hr2 := sumW_range (frameHead b.length ++ b) (bytesOk_append (frameHead_ok _) hb)
  have s1 := ref_sum k ([197, 58] ++ four4 b.length) (by rw [List.length_append, l1]; simp) (bytesOk_append magic_ok (four4_ok _)) (by rw [List.length_append, l1]; simp; omega)
  have s2 := ref_sum k (frameHead b.length ++ b) (by rw [List.length_append, frameHead_length]; omega) (bytesOk_append (frameHead_ok _) hb) (by rw [List.length_append, frameHead_length]; omega)
  have f1 := ref_four (b.length : Int) (by omega) (by omega)
  have f2 := ref_four _ hr1.1 hr1.2
  have f3 := ref_four _ hr2.1 hr2.2
  unfold heraldref2_Frame.f
  rw [if_neg (by omega)]
  simp only [Option.bind_some, f1]
  rw [if_pos (by rw [l1]; simp)]
  simp only [Option.bind_some, s1, f2]
  rw [if_pos (by rw [List.length_append, l1, four4_len]; simp)]
  try simp only [Option.bind_some]
  have e : [197, 58] ++ four4 (b.length : Int) ++ four4 (sumW ([197, 58] ++ four4 (b.length : Int))) = frameHead b.length := rfl
  rw [e, if_pos (by rw [frameHead_length]; omega)]
  simp only [Option.bind_some, s2, f3]
  rw [if_pos (by rw [List.length_append, frameHead_length, four4_len]; omega)]
  rfl
theorem un38 (A : Option Addr) (c n : Nat) (l : List Int) (r1 : List Int) (r2 : Int) (w : World) (hn : l.length = n) (hr : C8 w A n l) (hc : n ≤ c) (h : bytesOk l = true) (hm : n ≤ 1000000000) (hu : unframe l = (r1, r2)) :
    Calls Try.prog 38 #[.slice A n c] w fun e w' => ∃ v0_ : Value, e = .returned (.tuple #[v0_, .int .i64 r2]) ∧ Kd.R (Kd.int .u8) 5 w' w.heap.size (fun _ => True) v0_ r1 ∧ Below w.heap.size w w' := by
  subst hn; exact heraldref2_Unframe.calls A c l r1 r2 w hr hc (by unfold heraldref2_Unframe.f; rw [if_pos ⟨h, by omega⟩, hu])
theorem un37 (A : Option Addr) (c n : Nat) (l : List Int) (r1 : List Int) (r2 : Int) (w : World) (hn : l.length = n) (hr : C8 w A n l) (hc : n ≤ c) (h : bytesOk l = true) (hm : n ≤ 1000000000) (hu : unframe l = (r1, r2)) :
    Calls Try.prog 37 #[.slice A n c] w fun e w' => ∃ v0_ : Value, e = .returned (.tuple #[v0_, .int .i64 r2]) ∧ Kd.R (Kd.int .u8) 5 w' w.heap.size (fun _ => True) v0_ r1 ∧ Below w.heap.size w w' :=
  wire_Unframe.callsN A c n l r1 r2 w hn hr hc (by unfold wire_Unframe.f; rw [if_pos ⟨h, by omega⟩, hu])
theorem unframe_len (l r1 : List Int) (r2 : Int) (hu : unframe l = (r1, r2)) : r1.length ≤ l.length := by
  unfold unframe at hu
  split at hu
  · cases hu; simp
  split at hu
  · cases hu; simp
  split at hu
  · cases hu; simp
  split at hu
  · cases hu; simp
  · cases hu; rw [List.length_take, List.length_drop]; omega

/-- A list written over by another, element by element. -/
theorem over_step (x z : List Int) (k : Nat) (hk : k < x.length) (hl : z.length = x.length) : (z.take k ++ x.drop k).set k (rd z k) = z.take (k + 1) ++ x.drop (k + 1) := by
  have h1 : (z.take k).length = k := by rw [List.length_take]; omega
  have e : z.take (k + 1) = z.take k ++ [rd z k] := by
    rw [List.take_succ_eq_append_getElem (by omega)]
    simp [rd, show k < z.length by omega]
  rw [e, drop_rd x k hk, List.set_append_right _ _ (by omega), h1]
  simp

theorem below_lit {w w2 : World} {o : Obj} (hb : Below (w.alloc o).heap.size (w.alloc o) w2) : Below w.heap.size w w2 := below_step ((Below.refl _ _).alloc (Nat.le_refl _) o) hb
/-- What is made later lies in no earlier block. -/
theorem R8_apart {w w1 : World} {b1 b2 : Nat} {v1 v2 : Value} {l1 l2 : List Int} (h1 : R8 w b1 v1 l1) (h2 : R8 w1 b2 v2 l2) (hb : w.heap.size ≤ b2) : v2.ownBlock = none ∨ v2.ownBlock ≠ v1.ownBlock := by
  have o1 := R8_own h1
  have o2 := R8_own h2
  rcases o2.2 with ⟨rfl, _⟩ | ⟨g2, cap2, cur2, rfl, hg2, _⟩
  · exact .inl rfl
  · right
    rcases o1.2 with ⟨rfl, _⟩ | ⟨g1, cap1, cur1, rfl, hg1, hh, _⟩
    · simp [Value.ownBlock]
    · have : g1 < w.heap.size := by
        rcases Nat.lt_or_ge g1 w.heap.size with h | h
        · exact h
        · rw [Array.getElem?_eq_none h] at hh; cases hh
      simp [Value.ownBlock]
      omega

def heraldlaw2_WireUnframes.f (l0 : List Int) : Option Bool := if bytesOk l0 = true ∧ l0.length ≤ 140737488351232 then some true else none
set_option maxHeartbeats 8000000 in
set_option maxRecDepth 100000 in
theorem heraldlaw2_WireUnframes.calls (A0 : Option Addr) (c0 : Nat) (l0 : List Int) (r : Bool) (w : World) (hr0 : Kd.C (Kd.int .u8) w A0 l0.length l0) (hc0 : l0.length ≤ c0) (h : heraldlaw2_WireUnframes.f l0 = some r) :
    Calls Try.prog 8 #[.slice A0 l0.length c0] w fun e w' => e = .returned (.bool r) ∧ Below w.heap.size w w' := by
  unfold heraldlaw2_WireUnframes.f at h
  split at h
  case isFalse => cases h
  rename_i hok
  obtain ⟨hok, hm⟩ := hok
  obtain rfl : true = r := Option.some.inj h
  have HOK := Aside0.mk hok
  have HR0 := Aside0.mk hr0
  have HC0 := Aside0.mk hc0
  clear h hok hr0 hc0
  by_cases hbig : l0.length > 20000
  · go_enter Try.func8, Try.ntmps8
    go_wp2
    go_ret
    exact ⟨rfl, Below.refl _ _⟩
  obtain ⟨b1, g1, hu1⟩ : ∃ b g, unframe l0 = (b, g) := ⟨_, _, rfl⟩
  obtain ⟨m1, hm1⟩ : ∃ m, m = turnFrom 0 l0 := ⟨_, rfl⟩
  obtain ⟨b2, g2, hu2⟩ : ∃ b g, unframe m1 = (b, g) := ⟨_, _, rfl⟩
  have HTL := Aside0.mk (show m1.length = l0.length by rw [hm1, turnFrom_len])
  have HTO := Aside0.mk (show bytesOk m1 = true by rw [hm1]; exact turnFrom_ok l0 0 HOK.out)
  have hl1 := unframe_len _ _ _ hu1
  have hl2 := unframe_len _ _ _ hu2
  rw [HTL.out] at hl2
  have HU1 := Aside0.mk hu1
  have HU2 := Aside0.mk hu2
  have HM := Aside0.mk hm1
  clear hm1 hu1 hu2
  obtain ⟨X, hX⟩ : ∃ X, X = frameOf [97, 98] := ⟨_, rfl⟩
  obtain ⟨Z, hZ⟩ : ∃ Z, Z = frameOf [99, 100] := ⟨_, rfl⟩
  have hxl : X.length = 16 := by rw [hX, frameOf_length]; rfl
  have hzl : Z.length = 16 := by rw [hZ, frameOf_length]; rfl
  have HFX := Aside0.mk (show heraldref2_Frame.f 100 [97, 98] = some (X, 0) by rw [ref_frame 100 _ (by decide) (by decide) (by decide), hX])
  have HFZ := Aside0.mk (show heraldref2_Frame.f 100 [99, 100] = some (Z, 0) by rw [ref_frame 100 _ (by decide) (by decide) (by decide), hZ])
  have HUX := Aside0.mk (show unframe X = ([97, 98], 0) by rw [hX]; exact unframe_frame _ (by decide) (by decide))
  have HUZ := Aside0.mk (show unframe Z = ([99, 100], 0) by rw [hZ]; exact unframe_frame _ (by decide) (by decide))
  have HXO := Aside0.mk (show bytesOk X = true by rw [hX]; exact frameOf_ok _ (by decide))
  have HZO := Aside0.mk (show bytesOk Z = true by rw [hZ]; exact frameOf_ok _ (by decide))
  have HXL := Aside0.mk hxl
  have HZL := Aside0.mk hzl
  clear hX hZ hxl hzl
  have kc := fun (w : World) (C : Array Value) (n c : Nat) => Lib.run_convert_bytes_const (P := Try.prog) w 22 5 C n c Try.underlying22 Try.underlying5
  go_enter Try.func8, Try.ntmps8
  go_wp2_with fail
  refine (roomy_M A0 c0 l0.length l0 _ rfl HR0.out HC0.out (by omega)).mono ?_
  rintro e1 w1 ⟨A1, c1, rfl, hr, hb⟩
  have hle := hr.le
  have HM1 := Aside0.mk hr
  have HB1 := Aside0.mk hb
  clear hr hb
  go_wp2_with fail
  refine (un37 A1 c1 l0.length l0 b1 g1 _ rfl HM1.out.reads (by omega) HOK.out (by omega) HU1.out).mono ?_
  rintro e2 w2 ⟨v2, rfl, ho, hb⟩
  obtain ⟨A2, c2, rfl, hl2c, hC⟩ := Kd.R_reads ho
  have HM2 := Aside0.mk (HM1.out.below hb)
  have HB2 := Aside0.mk (below_step HB1.out hb)
  have HC2 := Aside0.mk hC
  clear ho hb hC HM1 HB1
  go_wp2_with fail
  refine (un38 A0 c0 l0.length l0 b1 g1 _ rfl (Kd.C_below HR0.out HB2.out) HC0.out HOK.out (by omega) HU1.out).mono ?_
  rintro e3 w3 ⟨v3, rfl, ho, hb⟩
  obtain ⟨A3, c3, rfl, hl3c, hC⟩ := Kd.R_reads ho
  have HM3 := Aside0.mk (HM2.out.below hb)
  have HB3 := Aside0.mk (below_step HB2.out hb)
  have HC2' := Aside0.mk (Kd.C_below HC2.out hb)
  have HC3 := Aside0.mk hC
  clear ho hb hC HM2 HB2 HC2
  go_wp2_with fail
  refine (heraldlaw2_same.callsB true 100000 A2 c2 b1.length b1 A3 c3 b1.length b1 _ (decide_eq_true rfl) rfl rfl HC2'.out hl2c HC3.out hl3c (by omega) (by omega)).mono ?_
  rintro e4 w4 ⟨rfl, hd⟩
  have HM4 := Aside0.mk (HM3.out.below hd.below)
  have HB4 := Aside0.mk (below_step HB3.out hd.below)
  clear hd HM3 HB3 HC2' HC3
  go_wp2_with fail
  refine (heraldlaw2_num.calls g1 g1 _ rfl).mono ?_
  rintro e5 w5 ⟨rfl, hd⟩
  have HM5 := Aside0.mk (HM4.out.below hd.below)
  have HB5 := Aside0.mk (below_step HB4.out hd.below)
  clear hd HM4 HB4
  go_wp2_with fail
  refine (untouched_M w.heap.size A1 l0.length c1 l0 A0 c0 l0 true _ HM5.out (Kd.C_below HR0.out HB5.out) HC0.out (by omega) (decide_eq_true rfl)).mono ?_
  rintro e6 w6 ⟨rfl, hd⟩
  have HM6 := Aside0.mk (HM5.out.below hd.below)
  have HB6 := Aside0.mk (below_step HB5.out hd.below)
  clear hd HM5 HB5
  go_wp2_with fail
  refine (turned_M w A1 l0.length c1 l0 _ HM6.out HB6.out (by omega)).mono ?_
  rintro e7 w7 ⟨v7, rfl, ho, hr, hb, _⟩
  obtain ⟨A7, c7, rfl, hl7, hC⟩ := Kd.R_reads ho
  rw [← HM.out] at hC hl7 hr ⊢
  rw [HTL.out] at hC hl7 ⊢
  have HM7 := Aside0.mk hr
  have HB7 := Aside0.mk hb
  have HC7 := Aside0.mk hC
  clear ho hr hb hC HM6 HB6
  go_wp2_with fail
  refine (un37 A1 c1 l0.length m1 b2 g2 _ HTL.out HM7.out.reads (by omega) HTO.out (by omega) HU2.out).mono ?_
  rintro e8 w8 ⟨v8, rfl, ho, hb⟩
  obtain ⟨A8, c8, rfl, hl8, hC⟩ := Kd.R_reads ho
  have HM8 := Aside0.mk (HM7.out.below hb)
  have HB8 := Aside0.mk (below_then HB7.out HB7.out.size hb)
  have HC78 := Aside0.mk (Kd.C_below HC7.out hb)
  have HC8 := Aside0.mk hC
  clear ho hb hC HM7 HB7 HC7
  go_wp2_with fail
  refine (un38 A7 c7 l0.length m1 b2 g2 _ HTL.out HC78.out hl7 HTO.out (by omega) HU2.out).mono ?_
  rintro e9 w9 ⟨v9, rfl, ho, hb⟩
  obtain ⟨A9, c9, rfl, hl9, hC⟩ := Kd.R_reads ho
  have HM9 := Aside0.mk (HM8.out.below hb)
  have HB9 := Aside0.mk (below_then HB8.out HB8.out.size hb)
  have HC79 := Aside0.mk (Kd.C_below HC78.out hb)
  have HC89 := Aside0.mk (Kd.C_below HC8.out hb)
  have HC9 := Aside0.mk hC
  clear ho hb hC HM8 HB8 HC78 HC8
  go_wp2_with fail
  refine (heraldlaw2_same.callsB true 100000 A8 c8 b2.length b2 A9 c9 b2.length b2 _ (decide_eq_true rfl) rfl rfl HC89.out hl8 HC9.out hl9 (by omega) (by omega)).mono ?_
  rintro e10 w10 ⟨rfl, hd⟩
  have HM10 := Aside0.mk (HM9.out.below hd.below)
  have HB10 := Aside0.mk (below_then HB9.out HB9.out.size hd.below)
  have HC710 := Aside0.mk (Kd.C_below HC79.out hd.below)
  clear hd HM9 HB9 HC89 HC9 HC79
  go_wp2_with fail
  refine (heraldlaw2_num.calls g2 g2 _ rfl).mono ?_
  rintro e11 w11 ⟨rfl, hd⟩
  have HM11 := Aside0.mk (HM10.out.below hd.below)
  have HB11 := Aside0.mk (below_then HB10.out HB10.out.size hd.below)
  have HC711 := Aside0.mk (Kd.C_below HC710.out hd.below)
  clear hd HM10 HB10 HC710
  go_wp2_with fail
  refine (untouched_M w.heap.size A1 l0.length c1 m1 A7 c7 m1 true _ HM11.out HC711.out hl7 (by omega) (decide_eq_true rfl)).mono ?_
  rintro e12 w12 ⟨rfl, hd⟩
  have HB12 := Aside0.mk (below_then HB11.out HB11.out.size hd.below)
  clear hd HM11 HB11 HC711
  go_wp2_with fail
  have hC12 := C_lit w12 [97, 98] (2, 3) (by decide)
  refine (heraldref2_Frame.calls 100 (some ⟨w12.heap.size, 0, none⟩) 2 [97, 98] X 0 (w12.alloc (.cells (nums .u8 [97, 98]).toArray 5 (2, 3))) hC12 (by decide) HFX.out).mono ?_
  rintro e13 w13 ⟨v13, rfl, ho, hb⟩
  obtain ⟨A13, c13, rfl, hl13, hC⟩ := Kd.R_reads ho
  have HB13 := Aside0.mk (below_then HB12.out HB12.out.size (below_lit hb))
  rw [HXL.out] at ho hC hl13 ⊢
  have HO13 := Aside0.mk (Kd.R_lower ho (Nat.le_trans HB12.out.size (by simp) : w.heap.size ≤ _))
  have HC13 := Aside0.mk hC
  clear ho hb hC HB12 hC12
  go_wp2_with fail
  refine (un37 A13 c13 16 X [97, 98] 0 _ HXL.out HC13.out hl13 HXO.out (by omega) HUX.out).mono ?_
  rintro e14 w14 ⟨v14, rfl, ho, hb⟩
  have HO14 := Aside0.mk (Kd.R_below HO13.out hb)
  have HNE14 := Aside0.mk (R8_apart HO13.out ho (Nat.le_refl _))
  have HB14 := Aside0.mk (below_then HB13.out HB13.out.size hb)
  have HU14 := Aside0.mk (Kd.R_lower ho HB13.out.size)
  clear ho hb HO13 HC13 HB13
  go_wp2_with fail
  have hC14 := C_lit w14 [99, 100] (2, 3) (by decide)
  refine (heraldref2_Frame.calls 100 (some ⟨w14.heap.size, 0, none⟩) 2 [99, 100] Z 0 (w14.alloc (.cells (nums .u8 [99, 100]).toArray 5 (2, 3))) hC14 (by decide) HFZ.out).mono ?_
  rintro e15 w15 ⟨v15, rfl, ho, hb⟩
  obtain ⟨A15, c15, rfl, hl15, hC⟩ := Kd.R_reads ho
  have hb' := below_lit hb
  rw [HZL.out] at ho hC hl15 ⊢
  have HO15 := Aside0.mk (Kd.R_below HO14.out hb')
  have HU15 := Aside0.mk (Kd.R_below HU14.out hb')
  have HNE15 := Aside0.mk (R8_apart HO14.out ho (by simp))
  have HB15 := Aside0.mk (below_then HB14.out HB14.out.size hb')
  have HZ15 := Aside0.mk (Kd.R_lower ho (Nat.le_trans HB14.out.size (by simp) : w.heap.size ≤ _))
  have HG15 := Aside0.mk (show w15.grownBy w15 (Value.slice A13 16 c13).ownBlock from ⟨rfl, rfl, rfl, Nat.le_refl _, fun _ _ _ => rfl⟩)
  have hlen : (Z.take 0 ++ X.drop 0) = X := by simp
  clear ho hb hb' hC hC14 HO14 HU14 HB14
  go_wp2
  go_loopw [15] (fun i wr => ∃ k : Nat, k ≤ 16 ∧ i = .int .i64 k ∧ Aside0 (R8 wr w.heap.size (.slice A13 16 c13) (Z.take k ++ X.drop k)) ∧ Aside0 (Below w.heap.size w wr) ∧ Aside0 (w15.grownBy wr (Value.slice A13 16 c13).ownBlock)) (fun i _ => 16 - (intOf i).toNat)
  case atStart => exact ⟨0, Nat.zero_le _, rfl, ⟨by rw [hlen]; exact HO15.out⟩, HB15, HG15⟩
  case round =>
    clear HO15 HB15 HG15 hlen
    obtain ⟨k, hk, rfl, HO, HB, HG⟩ := hrel
    have HZ := Aside0.mk (show C8 wr A15 16 Z by have h := (Kd.R_reads' (R8_other HZ15.out HG.out HNE15.out)).2.2; rwa [HZL.out] at h)
    have HLZ := Aside0.mk ((Kd.R_reads' HZ15.out).1)
    by_cases hlt : k < 16
    · obtain ⟨g, hA, hgb, hcell, hfrz, hst⟩ := R8_stored HO.out k (by omega)
      subst hA
      obtain ⟨ad, hA, hz⟩ := Kd.at_int HZ.out (k : Int) (by omega) (by omega)
      subst hA
      rw [Int.toNat_natCast] at hz
      have HST := Aside0.mk hst
      have HSTEP := Aside0.mk (over_step X Z k (by rw [HXL.out]; omega) (by rw [HXL.out, HZL.out]))
      clear hst HZ
      go_wp2
      go_roundw
      case rel => exact ⟨k + 1, by omega, by go_num, ⟨by rw [← HSTEP.out]; exact HST.out _⟩, ⟨HB.out.setCell hgb _⟩, ⟨grownBy_set HG.out k _⟩⟩
      case measure => simp [intOf]; omega
    · have hkk : k = 16 := by omega
      subst hkk
      have e1 : Z.take 16 ++ X.drop 16 = Z := by
        rw [List.take_of_length_le (by rw [HZL.out]; omega), List.drop_eq_nil_of_le (by rw [HXL.out]; omega), List.append_nil]
      rw [e1] at HO
      have HC := Aside0.mk (show C8 wr A13 16 Z by have h := (Kd.R_reads' HO.out).2.2; rwa [HZL.out] at h)
      have HU := Aside0.mk (R8_other HU15.out HG.out HNE14.out)
      have HB' := Aside0.mk HB.out
      clear e1 HO HZ HZ15 HU15 HG HB
      go_wp2_with fail
      refine (un37 A13 c13 16 Z [99, 100] 0 _ HZL.out HC.out hl13 HZO.out (by omega) HUZ.out).mono ?_
      rintro e20 w20 ⟨v20, rfl, ho, hb⟩
      have HU20 := Aside0.mk (Kd.R_below HU.out hb)
      have HB20 := Aside0.mk (below_then HB'.out HB'.out.size hb)
      obtain ⟨A20, c20, rfl, hl20, hC⟩ := Kd.R_reads ho
      have HC20 := Aside0.mk hC
      obtain ⟨A14, c14, rfl, hl14, hC14⟩ := Kd.R_reads HU20.out
      have HC14 := Aside0.mk hC14
      clear ho hb hC hC14 HU HU20 HC HB'
      go_wp2_with fail
      have hC21 := C_lit w20 [97, 98] (2, 3) (by decide)
      refine (heraldlaw2_same.callsB true 100 A14 c14 [97, 98].length [97, 98] (some ⟨w20.heap.size, 0, none⟩) 2 2 [97, 98] (w20.alloc (.cells (nums .u8 [97, 98]).toArray 5 (2, 3))) (decide_eq_true rfl) rfl rfl (Kd.C_below HC14.out ((Below.refl _ _).alloc (Nat.le_refl _) _)) hl14 hC21 (by decide) (by decide) (by decide)).mono ?_
      rintro e21 w21 ⟨rfl, hd⟩
      have HC21 := Aside0.mk (Kd.C_below HC20.out (below_lit hd.below))
      have HB21 := Aside0.mk (below_step HB20.out (below_lit hd.below))
      clear hd hC21 HC20 HB20 HC14
      go_wp2_with fail
      have hC22 := C_lit w21 [99, 100] (2, 3) (by decide)
      refine (heraldlaw2_same.callsB true 100 A20 c20 [99, 100].length [99, 100] (some ⟨w21.heap.size, 0, none⟩) 2 2 [99, 100] (w21.alloc (.cells (nums .u8 [99, 100]).toArray 5 (2, 3))) (decide_eq_true rfl) rfl rfl (Kd.C_below HC21.out ((Below.refl _ _).alloc (Nat.le_refl _) _)) hl20 hC22 (by decide) (by decide) (by decide)).mono ?_
      rintro e22 w22 ⟨rfl, hd⟩
      have HB22 := Aside0.mk (below_step HB21.out (below_lit hd.below))
      clear hd hC22 HC21 HB21
      go_wp2
      go_ret
      exact ⟨rfl, HB22.out⟩
def heraldlaw2_WireUnframes.Pure : Prop := ∀ (l0 : List Int), l0.length ≤ maxLen → l0.length * 1 ≤ 140737488351232 → (∀ x ∈ l0, (Lit.int .u8 x).wf = true) → heraldlaw2_WireUnframes.f l0 = some true
theorem heraldlaw2_WireUnframes.walk (P : heraldlaw2_WireUnframes.Pure) (a0 : Option Addr) (len0 cap0 : Nat) (z0 : List Int) (w : World) (w0 : (a0 = none ∧ len0 = 0 ∧ cap0 = 0 ∧ z0 = []) ∨ ∃ x, a0 = some x ∧ len0 ≤ cap0 ∧ cap0 ≤ maxLen ∧ z0.length = cap0 ∧ (∀ i, i < z0.length → w.cell? (x.add i) = some (.int .u8 (z0.getD i 0))) ∧ ∀ n ∈ z0, (Lit.int .u8 n).wf = true) (y0 : len0 * 1 ≤ 140737488351232) :
    Calls Try.prog 8 #[.slice a0 len0 cap0] w fun e w' => e = .returned (.bool true) ∧ Below w.heap.size w w' := by
  obtain ⟨l0, rfl, hr0, hm0, hw0, hc0⟩ := ReadsInt.ofRowC w0
  have h := P l0 hm0 y0 hw0
  refine (heraldlaw2_WireUnframes.calls _ _ l0 true w (Kd.C_of_reads (d := (0 : Int)) (h1 := fun _ => rfl) hr0) hc0 h).mono ?_
  rintro e w' ⟨rfl, hd⟩
  exact ⟨rfl, hd⟩

end Go.Proofs.Ytnanaojjhmpilaa.PW
