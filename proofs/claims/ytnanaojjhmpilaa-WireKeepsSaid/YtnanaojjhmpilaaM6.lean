/- WireFrames: the walk. -/
import Derived.Test.YtnanaojjhmpilaaM5
namespace Go.Proofs.Ytnanaojjhmpilaa.PW
open Go.RowKit Go.Proofs.YtnanaojjhmpilaaW.PrintWords Go.Proofs.YtnanaojjhmpilaaW.PrintLast Go.Proofs.YtnanaojjhmpilaaW.PrintMore
set_option linter.unusedVariables false
set_option linter.unusedSimpArgs false

theorem small_l0 (l0 : List (List Int)) (hm : tot l0 ≤ 1000000000000000) (hn : l0.length ≤ 1000000000000000) : ∀ (d i : Nat), i + d = l0.length →
    heraldlaw2_small.l0 (d + 1) l0 ((tot (l0.take i) : Nat) : Int) (i : Int) = some (decide (tot l0 ≤ 20000 ∧ l0.length ≤ 24)) := by
  intro d
  induction d with
  | zero =>
    intro i h
    unfold heraldlaw2_small.l0
    rw [if_neg (by omega), List.take_of_length_le (by omega)]
    by_cases h1 : tot l0 ≤ 20000
    · rw [if_pos (by omega)]
      congr 1
      rw [decide_eq_decide]
      omega
    · rw [if_neg (by omega), decide_eq_false (by omega)]
  | succ d ih =>
    intro i h
    unfold heraldlaw2_small.l0
    have h1 := tot_take l0 i (by omega)
    have h2 := tot_le l0 (i + 1)
    rw [if_pos (by omega), if_pos (by omega)]
    have e1 : wrap64 (((tot (l0.take i) : Nat) : Int) + ((rd_L1 l0 i).length : Int)) = ((tot (l0.take (i + 1)) : Nat) : Int) := by rw [h1]; unfold wrap64; omega
    have e2 : wrap64 ((i : Int) + 1) = ((i + 1 : Nat) : Int) := by unfold wrap64; omega
    rw [e1, e2, ih (i + 1) (by omega)]
theorem small_N (A0 : Option Addr) (c0 n : Nat) (l0 : List (List Int)) (b : Bool) (w : World) (hn : l0.length = n) (hr0 : Kd.C (Kd.slice 5 (Kd.int .u8)) w A0 n l0) (hc0 : n ≤ c0) (hm : tot l0 ≤ 1000000000000000) (hl : n ≤ 1000000000000000) (hb : decide (tot l0 ≤ 20000 ∧ n ≤ 24) = b) :
    Calls Try.prog 29 #[.slice A0 n c0] w fun e w' => e = .returned (.bool b) ∧ Drawn0 w w' := by
  subst hn
  refine heraldlaw2_small.calls (l0.length + 1) A0 c0 l0 b w hr0 hc0 ?_
  have := small_l0 l0 hm hl l0.length 0 (by omega)
  rw [hb] at this
  exact this
theorem joined_l0 (l0 : List (List Int)) (hm : tot l0 ≤ 1000000000000) (hn : l0.length ≤ 1000000000000000) : ∀ (d i : Nat), i + d = l0.length →
    heraldlaw2_joined.l0 (d + 1) l0 (l0.take i).flatten (i : Int) = some l0.flatten := by
  intro d
  induction d with
  | zero =>
    intro i h
    unfold heraldlaw2_joined.l0
    rw [if_neg (by omega), List.take_of_length_le (by omega)]
  | succ d ih =>
    intro i h
    unfold heraldlaw2_joined.l0
    have h1 := tot_take l0 i (by omega)
    have h2 := tot_le l0 (i + 1)
    have h3 : (l0.take i).flatten.length = tot (l0.take i) := rfl
    rw [if_pos (by omega), if_pos (by omega), if_pos (by omega)]
    have e2 : wrap64 ((i : Int) + 1) = ((i + 1 : Nat) : Int) := by unfold wrap64; omega
    rw [e2, ← flatten_take l0 i (by omega), ih (i + 1) (by omega)]
theorem joined_N (A0 : Option Addr) (c0 n : Nat) (l0 : List (List Int)) (F : List Int) (w : World) (hn : l0.length = n) (hr0 : Kd.C (Kd.slice 5 (Kd.int .u8)) w A0 n l0) (hc0 : n ≤ c0) (hm : tot l0 ≤ 1000000000000) (hl : n ≤ 1000000000000000) (hF : l0.flatten = F) :
    Calls Try.prog 33 #[.slice A0 n c0] w fun e w' => ∃ v0_ : Value, e = .returned (v0_) ∧ Kd.R (Kd.int .u8) 5 w' w.heap.size (fun _ => True) v0_ F ∧ Below w.heap.size w w' := by
  subst hn
  subst hF
  exact heraldlaw2_joined.calls (l0.length + 1) A0 c0 l0 _ w hr0 hc0 (joined_l0 l0 hm hl l0.length 0 (by omega))
theorem len_mem {l : List (List Int)} {p : List Int} (h : p ∈ l) : p.length ≤ tot l := by
  obtain ⟨s, t, rfl⟩ := List.append_of_mem h
  unfold tot
  simp only [List.flatten_append, List.flatten_cons, List.length_append]
  omega
theorem frame_N (A0 : Option Addr) (c0 n : Nat) (l0 : List (List Int)) (X : List Int) (w : World) (hn : l0.length = n) (hr0 : Kd.C (Kd.slice 5 (Kd.int .u8)) w A0 n l0) (hc0 : n ≤ c0) (ht : tot l0 ≤ 20000) (hX : frameOf l0.flatten = X) :
    Calls Try.prog 31 #[.slice A0 n c0] w fun e w' => ∃ v0_ : Value, e = .returned (.tuple #[v0_, .int .i64 0]) ∧ Kd.R (Kd.int .u8) 5 w' w.heap.size (fun _ => True) v0_ X ∧ Below w.heap.size w w' := by
  subst hn
  subst hX
  refine wire_Frame.calls A0 c0 l0 _ 0 w hr0 hc0 ?_
  unfold wire_Frame.f
  have hp : piecesOk l0 = true := by
    unfold piecesOk
    rw [List.all_eq_true]
    intro p hp
    have := len_mem hp
    simp; omega
  rw [if_neg (by rw [hp]; simp), if_pos (by omega)]
theorem turn_flat (l : List (List Int)) : tot (l.map (turnFrom 0)) = tot l := by
  unfold tot
  induction l with
  | nil => rfl
  | cons p t ih => simp only [List.map_cons, List.flatten_cons, List.length_append, turnFrom_len, ih]
theorem flat_ok (l : List (List Int)) (h : ∀ p ∈ l, bytesOk p = true) : bytesOk l.flatten = true := by
  induction l with
  | nil => rfl
  | cons p t ih =>
    rw [List.flatten_cons]
    exact bytesOk_append (h p List.mem_cons_self) (ih (fun q hq => h q (List.mem_cons_of_mem _ hq)))
theorem turn_rows_ok (l : List (List Int)) (h : ∀ p ∈ l, bytesOk p = true) : ∀ p ∈ l.map (turnFrom 0), bytesOk p = true := by
  intro p hp
  obtain ⟨q, hq, rfl⟩ := List.mem_map.1 hp
  exact turnFrom_ok q 0 (h q hq)
theorem rows_step (l : List (List Int)) (k : Nat) (hk : k < l.length) :
    rd_L1 ((l.map (turnFrom 0)).take k ++ l.drop k) k = rd_L1 l k ∧
    ((l.map (turnFrom 0)).take k ++ l.drop k).set k (turnFrom 0 (rd_L1 l k)) = (l.map (turnFrom 0)).take (k + 1) ++ l.drop (k + 1) ∧
    (l.map (turnFrom 0)).take (k + 1) = (l.map (turnFrom 0)).take k ++ [turnFrom 0 (rd_L1 l k)] := by
  have h1 : ((l.map (turnFrom 0)).take k).length = k := by rw [List.length_take, List.length_map]; omega
  have e : (l.map (turnFrom 0)).take (k + 1) = (l.map (turnFrom 0)).take k ++ [turnFrom 0 (rd_L1 l k)] := by
    rw [List.take_succ_eq_append_getElem (by rw [List.length_map]; exact hk)]
    simp [rd_L1, hk]
  refine ⟨?_, ?_, e⟩
  · unfold rd_L1
    rw [Int.toNat_natCast, List.getD_eq_getElem?_getD, List.getElem?_append_right (by omega), h1, Nat.sub_self, List.getElem?_drop, List.getD_eq_getElem?_getD]
    simp
  · rw [e, drop_rd1 l k hk, List.set_append_right _ _ (by omega), h1]
    simp

set_option maxHeartbeats 8000000 in
set_option maxRecDepth 100000 in
theorem wireFrames_walk (A0 : Option Addr) (c0 n : Nat) (l0 : List (List Int)) (w : World) (hn : l0.length = n) (hr0 : Kd.C (Kd.slice 5 (Kd.int .u8)) w A0 n l0) (hc0 : n ≤ c0) (hok : ∀ p ∈ l0, bytesOk p = true) (hm : tot l0 ≤ 1000000000000) (hl : n ≤ 1000000000000) :
    Calls Try.prog 6 #[.slice A0 n c0] w fun e w' => e = .returned (.bool true) ∧ Below w.heap.size w w' := by
  have HN := Aside0.mk hn
  have HR0 := Aside0.mk hr0
  have HC0 := Aside0.mk hc0
  have HM := Aside0.mk hm
  by_cases hs : tot l0 ≤ 20000 ∧ n ≤ 24
  case neg =>
    have hb : decide (tot l0 ≤ 20000 ∧ n ≤ 24) = false := decide_eq_false hs
    clear hr0 hc0 hn hok hm hs
    go_enter Try.func6, Try.ntmps6
    go_wp2_with fail
    refine (small_N A0 c0 n l0 false _ HN.out HR0.out HC0.out (Nat.le_trans HM.out (by decide)) (by omega) hb).mono ?_
    rintro e1 w1 ⟨rfl, hd⟩
    have hb1 := hd.below
    clear hd
    go_wp2
    go_ret
    exact ⟨rfl, hb1⟩
  case pos =>
    have HS := Aside0.mk (decide_eq_true hs)
    have HT := Aside0.mk hs.1
    have hn24 := hs.2
    obtain ⟨tl, htl⟩ : ∃ tl, tl = l0.map (turnFrom 0) := ⟨_, rfl⟩
    obtain ⟨F, hF⟩ : ∃ F, l0.flatten = F := ⟨_, rfl⟩
    obtain ⟨G, hG⟩ : ∃ G, tl.flatten = G := ⟨_, rfl⟩
    obtain ⟨X, hX⟩ : ∃ X, frameOf F = X := ⟨_, rfl⟩
    obtain ⟨Y, hY⟩ : ∃ Y, frameOf G = Y := ⟨_, rfl⟩
    have hfl : F.length ≤ 20000 := by rw [← hF]; exact hs.1
    have HTT := Aside0.mk (show tot tl ≤ 20000 by rw [htl, turn_flat]; exact hs.1)
    have hgl : G.length ≤ 20000 := by rw [← hG]; exact HTT.out
    have HFO := Aside0.mk (show bytesOk F = true by rw [← hF]; exact flat_ok l0 hok)
    have HGO := Aside0.mk (show bytesOk G = true by rw [← hG, htl]; exact flat_ok _ (turn_rows_ok l0 hok))
    have HFX := Aside0.mk (show heraldref2_Frame.f 30000 F = some (X, 0) by rw [ref_frame 30000 F HFO.out (by omega) (by omega), hX])
    have HGY := Aside0.mk (show heraldref2_Frame.f 30000 G = some (Y, 0) by rw [ref_frame 30000 G HGO.out (by omega) (by omega), hY])
    have hxl : X.length ≤ 30000 := by rw [← hX, frameOf_length]; omega
    have hyl : Y.length ≤ 30000 := by rw [← hY, frameOf_length]; omega
    have HTN := Aside0.mk (show tl.length = n by rw [htl, List.length_map, hn])
    have HSTEP := Aside0.mk (rows_step l0)
    rw [← htl] at HSTEP
    have HFF := Aside0.mk hF
    have HGG := Aside0.mk hG
    have HXX := Aside0.mk (show frameOf l0.flatten = X by rw [hF, hX])
    have HYY := Aside0.mk (show frameOf tl.flatten = Y by rw [hG, hY])
    clear hr0 hc0 hn hok hm hs htl hF hG hX hY
    go_enter Try.func6, Try.ntmps6
    go_wp2_with fail
    refine (small_N A0 c0 n l0 true _ HN.out HR0.out HC0.out (Nat.le_trans HM.out (by decide)) (by omega) HS.out).mono ?_
    rintro e1 w1 ⟨rfl, hd⟩
    have HB1 := Aside0.mk hd.below
    clear hd
    go_wp2_with fail
    refine (twins_M A0 c0 n l0 _ HN.out (Kd.C_below HR0.out HB1.out) HC0.out hn24 HT.out).mono ?_
    rintro e2 w2 ⟨A1, c1, rfl, ho, hb⟩
    have hc1 : n ≤ c1 := (Kd.S_reads' ho).2.1
    have HO2 := Aside0.mk (Kd.S_lower ho HB1.out.size)
    have HB2 := Aside0.mk (below_step HB1.out hb)
    clear ho hb HB1
    go_wp2_with fail
    refine (frame_N A1 c1 n l0 X _ HN.out (marked_rows (by have h := (Kd.S_reads' HO2.out).2.2; rwa [HN.out] at h)) hc1 HT.out HXX.out).mono ?_
    rintro e3 w3 ⟨v3, rfl, ho, hb⟩
    obtain ⟨A3, c3, rfl, hl3, hC⟩ := Kd.R_reads ho
    have HC3 := Aside0.mk hC
    have HO3 := Aside0.mk (Kd.S_below HO2.out hb)
    have HB3 := Aside0.mk (below_step HB2.out hb)
    clear ho hb hC HO2 HB2
    go_wp2_with fail
    refine (joined_N A0 c0 n l0 F _ HN.out (Kd.C_below HR0.out HB3.out) HC0.out HM.out (by omega) HFF.out).mono ?_
    rintro e4 w4 ⟨v4, rfl, ho, hb⟩
    obtain ⟨A4, c4, rfl, hl4, hC⟩ := Kd.R_reads ho
    have HC34 := Aside0.mk (Kd.C_below HC3.out hb)
    have HC4 := Aside0.mk hC
    have HO4 := Aside0.mk (Kd.S_below HO3.out hb)
    have HB4 := Aside0.mk (below_step HB3.out hb)
    clear ho hb hC HC3 HO3 HB3
    go_wp2_with fail
    refine (heraldref2_Frame.calls 30000 A4 c4 F X 0 _ HC4.out hl4 HFX.out).mono ?_
    rintro e5 w5 ⟨v5, rfl, ho, hb⟩
    obtain ⟨A5, c5, rfl, hl5, hC⟩ := Kd.R_reads ho
    have HC35 := Aside0.mk (Kd.C_below HC34.out hb)
    have HC5 := Aside0.mk hC
    have HO5 := Aside0.mk (Kd.S_below HO4.out hb)
    have HB5 := Aside0.mk (below_step HB4.out hb)
    clear ho hb hC HC34 HO4 HB4 HC4
    go_wp2_with fail
    refine (heraldlaw2_same.callsB true 100000 A3 c3 X.length X A5 c5 X.length X _ (decide_eq_true rfl) rfl rfl HC35.out hl3 HC5.out hl5 (by omega) (by omega)).mono ?_
    rintro e6 w6 ⟨rfl, hd⟩
    have HO6 := Aside0.mk (Kd.S_below HO5.out hd.below)
    have HB6 := Aside0.mk (below_step HB5.out hd.below)
    clear hd HC35 HC5 HO5 HB5
    go_wp2_with fail
    refine (heraldlaw2_num.calls 0 0 _ rfl).mono ?_
    rintro e7 w7 ⟨rfl, hd⟩
    have HO7 := Aside0.mk (Kd.S_below HO6.out hd.below)
    have HB7 := Aside0.mk (below_step HB6.out hd.below)
    clear hd HO6 HB6
    go_wp2_with fail
    refine (all_M A1 A0 n c1 c0 l0 _ HN.out (by have h := (Kd.S_reads' HO7.out).2.2; rwa [HN.out] at h) hc1 (Kd.C_below HR0.out HB7.out) HC0.out HT.out).mono ?_
    rintro e8 w8 ⟨rfl, hd⟩
    have HO8 := Aside0.mk (Kd.S_below HO7.out hd.below)
    have HB8 := Aside0.mk (below_step HB7.out hd.below)
    clear hd HO7 HB7
    obtain ⟨B0, hB0⟩ : ∃ B0, B0 = w8.heap.size := ⟨_, rfl⟩
    have HO8' := Aside0.mk (show Kd.S marked 22 w8 w.heap.size (fun k => k < B0) (.slice A1 n c1) l0 from Kd.S_mono (Kd.S_bound HO8.out) (fun k hk => by have := hk.2.2.1; omega))
    have HB0 := Aside0.mk (show B0 ≤ w8.heap.size by omega)
    have HWB := Aside0.mk (show w.heap.size ≤ B0 by rw [hB0]; exact HB8.out.size)
    have HZERO := Aside0.mk (show tl.take 0 ++ l0.drop 0 = l0 by simp)
    clear HO8 hB0
    go_wp2
    go_loopw [8, 9] (fun v i wr => ∃ k : Nat, k ≤ n ∧ i = .int .i64 k ∧ Aside0 (Kd.S marked 22 wr w.heap.size (fun k => k < B0) (.slice A1 n c1) (tl.take k ++ l0.drop k)) ∧ Aside0 (Kd.S (Kd.slice 5 (Kd.int .u8)) 22 wr w.heap.size (fun k => B0 ≤ k) v (tl.take k)) ∧ Aside0 (Below w.heap.size w wr) ∧ Aside0 (B0 ≤ wr.heap.size)) (fun _ i _ => n - (intOf i).toNat)
    case atStart => exact ⟨0, Nat.zero_le _, rfl, ⟨by rw [HZERO.out]; exact HO8'.out⟩, ⟨Kd.S_nil _ _ _ _ _⟩, HB8, HB0⟩
    case round =>
      clear HO8' HB8 HB0 HZERO
      obtain ⟨k, hk, rfl, HO, HV, HB, HBS⟩ := hrel
      by_cases hlt : k < n
      · obtain ⟨hs1, hs2, hs3⟩ := HSTEP.out k (by rw [HN.out]; exact hlt)
        have hlen : (tl.take k ++ l0.drop k).length = n := by rw [List.length_append, List.length_take, List.length_drop, HTN.out, HN.out]; omega
        obtain ⟨ad, A2', c2', hA, _⟩ := at_M (by have h := (Kd.S_reads' HO.out).2.2; rwa [hlen] at h) (k : Int) (by omega) (by omega)
        subst hA
        obtain ⟨oki, c, hcl, hM, hcc, hoki, hback⟩ := Kd.S_borrow HO.out ([] : List Int) (k : Int) (by omega) (by omega)
        have hrd : (tl.take k ++ l0.drop k).getD (k : Int).toNat [] = rd_L1 l0 k := hs1
        rw [hrd] at hM
        rw [Int.toNat_natCast] at hcc hback
        have hpl : (rd_L1 l0 k).length ≤ 20000 := Nat.le_trans (len_rd1 l0 k (by rw [HN.out]; exact hlt)) HT.out
        obtain ⟨p, hp⟩ : ∃ p, p = rd_L1 l0 k := ⟨_, rfl⟩
        rw [← hp] at hM hs2 hs3 hpl
        obtain ⟨A2, c2, rfl, hR⟩ := hM
        have hx : wr.cell? (ad.add k) = some (.slice A2 p.length c2) := by have := hcc 0 _ rfl; rwa [show k * marked.sz + 0 = k from Nat.mul_one k] at this
        have HBACK := Aside0.mk (fun (w1 : World) (hg : wr.grownBy w1 (Value.slice A2 p.length c2).ownBlock) (h8 : R8 w1 w.heap.size (.slice A2 (p.length + 2) c2) (turnFrom 0 p ++ [167, 94])) =>
          hback (x' := turnFrom 0 p) hg (fun k_ hk_ => hR.1 k_ (by cases A2 <;> exact hk_)) ⟨A2, c2, by rw [turnFrom_len], by rw [turnFrom_len]; exact R8_ok h8 hR.1⟩)
        have HLESS := Aside0.mk (show ∀ k_, (Value.slice A2 p.length c2).ownBlock = some k_ → k_ < B0 from fun k_ hk_ => (hoki k_ (hR.1 k_ (by cases A2 <;> exact hk_))).1)
        have HRM := Aside0.mk (show RM wr w.heap.size A2 p.length c2 p from ⟨rfl, Kd.R_mono hR (fun _ _ => trivial)⟩)
        have HS2 := Aside0.mk hs2
        have HS3 := Aside0.mk hs3
        clear hcc hback hR hoki hs1 hs2 hs3 hrd hp hcl
        go_wp2_with fail
        refine (turned_M w A2 p.length c2 p _ HRM.out HB.out (by omega)).mono ?_
        rintro e9 w9 ⟨v9, rfl, ho, hr, hb, hg⟩
        have HO9 := Aside0.mk (HBACK.out w9 hg hr.2)
        have HV9 := Aside0.mk (Kd.S_grown HV.out hg (fun k_ hk_ he => by have := HLESS.out k_ he.symm; omega))
        have HNEW := Aside0.mk (show ∀ k_, v9.ownBlock = some k_ → B0 ≤ k_ ∧ some k_ ≠ (u8 : Value).ownBlock from fun k_ hk_ => ⟨Nat.le_trans HBS.out (Kd.R_base ho k_ hk_), fun he => by
          have h1 := Kd.R_base ho k_ hk_
          have h2 := Kd.S_lt HV.out k_ he.symm
          omega⟩)
        have HR9 := Aside0.mk (show R8 w9 w.heap.size v9 (turnFrom 0 p) from Kd.R_lower ho HB.out.size)
        have HVV := Aside0.mk (show Kd.S (Kd.slice 5 (Kd.int .u8)) 22 w9 w.heap.size (fun k_ => B0 ≤ k_ ∧ ¬ v9.ownBlock = some k_) u8 (tl.take k) from Kd.S_mono (Kd.S_grown (Kd.S_bound HV.out) hg (fun k_ hk_ he => by have := HLESS.out k_ he.symm; omega)) (fun k_ hk_ => ⟨hk_.1, fun he => by
          have h1 := Kd.R_base ho k_ he
          have h2 := hk_.2.2.1
          omega⟩))
        have HB9 := Aside0.mk hb
        have HBS9 := Aside0.mk (Nat.le_trans HBS.out hg.size)
        have HOWN := Aside0.mk (show ∀ k_, (u8 : Value).ownBlock = some k_ → B0 ≤ k_ from (Kd.S_R HV.out).1)
        obtain ⟨A9, c9, rfl, hl9, _⟩ := Kd.R_reads ho
        clear ho hr hb hg HO HV HB HBS HRM HBACK HLESS HV9
        go_wp2_with (with_reducible refine stop_append rfl ?_)
        refine Kd.S_append (Kd.slice 5 (Kd.int .u8)) (w0 := w) w.heap.size rfl (.tmp 48) (.tmp 54) 37 22 (.slice none 0 0) 24 rfl Try.underlying37 info22 rfl (by decide) (by omega) u8 (tl.take k) (turnFrom 0 p) [.slice A9 (turnFrom 0 p).length c9] (fun k_ => B0 ≤ k_) (fun k_ => (Value.slice A9 (turnFrom 0 p).length c9).ownBlock = some k_) rfl rfl (Kd.M_row (R8_ok HR9.out (fun k_ h => h))) (fun k_ hk_ => HNEW.out k_ hk_) (fun k_ hk_ => Nat.le_trans HBS9.out hk_) HVV.out HB9.out HB9.out.size (by rw [List.length_take]; omega) ?_
        intro v10 w10 ho hb hg hat
        have HO10 := Aside0.mk (Kd.S_grown HO9.out hg (fun k_ hk_ he => by have := HOWN.out k_ he.symm; omega))
        have HV10 := Aside0.mk ho
        have HB10 := Aside0.mk hb
        have HBS10 := Aside0.mk (Nat.le_trans HBS9.out hg.size)
        clear ho hb hg hat HO9 HNEW HR9 HVV HB9 HBS9 HOWN
        go_wp2
        go_roundw
        case rel => exact ⟨k + 1, by omega, by go_num, ⟨by rw [← HS2.out]; exact HO10.out⟩, ⟨by rw [HS3.out]; exact HV10.out⟩, HB10, HBS10⟩
        case measure => simp [intOf]; omega
      · have hkk : k = n := by omega
        subst hkk
        rw [List.take_of_length_le (by rw [HTN.out]; omega), List.drop_eq_nil_of_le (by rw [HN.out]; omega), List.append_nil] at HO
        rw [List.take_of_length_le (by rw [HTN.out]; omega)] at HV
        obtain ⟨AV, cV, rfl⟩ := Kd.S_slice HV.out
        rw [HTN.out] at HV ⊢
        have hcV : k ≤ cV := (Kd.S_reads' HV.out).2.1
        have HO' := Aside0.mk (show marked.C wr A1 k tl by have h := (Kd.S_reads' HO.out).2.2; rwa [HTN.out] at h)
        have HV' := Aside0.mk (show Kd.C (Kd.slice 5 (Kd.int .u8)) wr AV k tl by have h := (Kd.S_reads' HV.out).2.2; rwa [HTN.out] at h)
        clear HO HV HBS
        go_wp2_with fail
        refine (frame_N A1 c1 k tl Y _ HTN.out (marked_rows HO'.out) hc1 HTT.out HYY.out).mono ?_
        rintro e3 w3 ⟨v3, rfl, ho, hb⟩
        obtain ⟨A3, c3, rfl, hl3, hC⟩ := Kd.R_reads ho
        have HC3 := Aside0.mk hC
        have HO3 := Aside0.mk (Kd.C_below HO'.out hb)
        have HV3 := Aside0.mk (Kd.C_below HV'.out hb)
        have HB3 := Aside0.mk (below_then HB.out HB.out.size hb)
        clear ho hb hC HO' HV' HB
        go_wp2_with fail
        refine (joined_N AV cV k tl G _ HTN.out HV3.out hcV (Nat.le_trans HTT.out (by decide)) (by omega) HGG.out).mono ?_
        rintro e4 w4 ⟨v4, rfl, ho, hb⟩
        obtain ⟨A4, c4, rfl, hl4, hC⟩ := Kd.R_reads ho
        have HC34 := Aside0.mk (Kd.C_below HC3.out hb)
        have HC4 := Aside0.mk hC
        have HO4 := Aside0.mk (Kd.C_below HO3.out hb)
        have HV4 := Aside0.mk (Kd.C_below HV3.out hb)
        have HB4 := Aside0.mk (below_then HB3.out HB3.out.size hb)
        clear ho hb hC HC3 HO3 HV3 HB3
        go_wp2_with fail
        refine (heraldref2_Frame.calls 30000 A4 c4 G Y 0 _ HC4.out hl4 HGY.out).mono ?_
        rintro e5 w5 ⟨v5, rfl, ho, hb⟩
        obtain ⟨A5, c5, rfl, hl5, hC⟩ := Kd.R_reads ho
        have HC35 := Aside0.mk (Kd.C_below HC34.out hb)
        have HC5 := Aside0.mk hC
        have HO5 := Aside0.mk (Kd.C_below HO4.out hb)
        have HV5 := Aside0.mk (Kd.C_below HV4.out hb)
        have HB5 := Aside0.mk (below_then HB4.out HB4.out.size hb)
        clear ho hb hC HC34 HO4 HV4 HB4 HC4
        go_wp2_with fail
        refine (heraldlaw2_same.callsB true 100000 A3 c3 Y.length Y A5 c5 Y.length Y _ (decide_eq_true rfl) rfl rfl HC35.out hl3 HC5.out hl5 (by omega) (by omega)).mono ?_
        rintro e6 w6 ⟨rfl, hd⟩
        have HO6 := Aside0.mk (Kd.C_below HO5.out hd.below)
        have HV6 := Aside0.mk (Kd.C_below HV5.out hd.below)
        have HB6 := Aside0.mk (below_then HB5.out HB5.out.size hd.below)
        clear hd HC35 HC5 HO5 HV5 HB5
        go_wp2_with fail
        refine (heraldlaw2_num.calls 0 0 _ rfl).mono ?_
        rintro e7 w7 ⟨rfl, hd⟩
        have HO7 := Aside0.mk (Kd.C_below HO6.out hd.below)
        have HV7 := Aside0.mk (Kd.C_below HV6.out hd.below)
        have HB7 := Aside0.mk (below_then HB6.out HB6.out.size hd.below)
        clear hd HO6 HV6 HB6
        go_wp2_with fail
        refine (all_M A1 AV k c1 cV tl _ HTN.out HO7.out hc1 HV7.out hcV HTT.out).mono ?_
        rintro e8 w10 ⟨rfl, hd⟩
        have HB10 := Aside0.mk (below_then HB7.out HB7.out.size hd.below)
        clear hd HO7 HV7 HB7
        go_wp2
        go_ret
        exact ⟨rfl, HB10.out⟩
end Go.Proofs.Ytnanaojjhmpilaa.PW
