/- WireFrames: the machine's side: rows with marks behind, each in a block of its own. -/
import Derived.Test.YtnanaojjhmpilaaM4
import Derived.Test.YtnanaojjhmpilaaPWx2
import Derived.Test.YtnanaojjhmpilaaPWx3
import Derived.Test.YtnanaojjhmpilaaPWx4
import Derived.Outline
namespace Go.Proofs.Ytnanaojjhmpilaa.PW
open Go.RowKit Go.Proofs.YtnanaojjhmpilaaW.PrintWords Go.Proofs.YtnanaojjhmpilaaW.PrintLast Go.Proofs.YtnanaojjhmpilaaW.PrintMore
set_option linter.unusedVariables false
set_option linter.unusedSimpArgs false

/-- A list with the two marks in the room behind it, as an element of a row. -/
def marked : Kd (List Int) where
  sz := 1
  E := [5]
  K := fun w xs cs => ∃ A c, cs = [.slice A xs.length c] ∧ xs.length + 2 ≤ c ∧ C8 w A (xs.length + 2) (xs ++ [167, 94])
  M := fun w base ok xs cs => ∃ A c, cs = [.slice A xs.length c] ∧ Kd.R (Kd.int .u8) 5 w base ok (.slice A (xs.length + 2) c) (xs ++ [167, 94])
  K_len := by
    rintro w x cs ⟨A, c, rfl, _⟩
    rfl
  K_one := by
    rintro w x cs ⟨A, c, rfl, _⟩ u hu
    rw [List.mem_singleton.1 hu]
    rfl
  K_below := by
    rintro w w1 x cs hb ⟨A, c, rfl, hl, hr⟩
    exact ⟨A, c, rfl, hl, Kd.C_below hr hb⟩
  K_of_M := by
    rintro w base ok x cs ⟨A, c, rfl, h⟩
    obtain ⟨h1, hl, hr⟩ := Kd.R_reads' h
    exact ⟨A, c, rfl, hl, by rwa [← h1] at hr⟩
  M_mono := by
    rintro w base ok ok' x cs hok ⟨A, c, rfl, h⟩
    exact ⟨A, c, rfl, Kd.R_mono h hok⟩
  M_bound := by
    rintro w base ok x cs ⟨A, c, rfl, h⟩
    exact ⟨A, c, rfl, Kd.R_bound h⟩
  M_move := by
    rintro w w1 base ok x cs hm ⟨A, c, rfl, h⟩
    exact ⟨A, c, rfl, Kd.R_move h hm⟩
  M_lower := by
    rintro w base base' ok x cs hb ⟨A, c, rfl, h⟩
    exact ⟨A, c, rfl, Kd.R_lower h hb⟩
theorem marked_rows {w : World} {A : Option Addr} {n : Nat} {ls : List (List Int)} (h : marked.C w A n ls) : Kd.C (Kd.slice 5 (Kd.int .u8)) w A n ls := by
  refine Kd.C_imp (d := marked) (d' := Kd.slice 5 (Kd.int .u8)) rfl ?_ h
  rintro w x cs ⟨A, c, rfl, hl, hr⟩
  refine ⟨A, c, rfl, by omega, ?_⟩
  have hr' : C8 w A (x ++ [167, 94]).length (x ++ [167, 94]) := by rw [List.length_append]; exact hr
  have hd := Kd.C_take (m := x.length) hr' (by simp)
  rwa [List.take_left] at hd
theorem at_M {w : World} {A : Option Addr} {n : Nat} {xs : List (List Int)} (h : marked.C w A n xs) (i : Int) (h0 : 0 ≤ i) (h1 : i < n) : ∃ ad A0 c0, A = some ad ∧ w.cell? (ad.add i.toNat) = some (.slice A0 (rd_L1 xs i).length c0) ∧ (rd_L1 xs i).length + 2 ≤ c0 ∧ C8 w A0 ((rd_L1 xs i).length + 2) (rd_L1 xs i ++ [167, 94]) := by
  obtain ⟨ad, c, e, _, hK, hc0⟩ := Kd.C_get h ([] : List Int) i h0 h1
  have hc : ∀ j u, c[j]? = some u → w.cell? (ad.add (i.toNat * 1 + j)) = some u := hc0
  obtain ⟨A0, c0, rfl, l0, g0⟩ := hK
  exact ⟨ad, A0, c0, e, by have hq := hc 0 _ rfl; rwa [Nat.mul_one, Nat.add_zero] at hq, l0, g0⟩
theorem R8_ok {w : World} {base : Nat} {v : Value} {l : List Int} {ok : Nat → Prop} (h : R8 w base v l) (hok : ∀ k, v.ownBlock = some k → ok k) : Kd.R (Kd.int .u8) 5 w base ok v l :=
  Kd.R_mono (Kd.R_tight rfl h) (fun k hk => hok k hk.symm)
theorem take_rd1 (l : List (List Int)) (k : Nat) (h : k < l.length) : l.take (k + 1) = l.take k ++ [rd_L1 l k] := by
  rw [List.take_succ_eq_append_getElem h]
  simp [rd_L1, h]
theorem drop_rd1 (l : List (List Int)) (k : Nat) (h : k < l.length) : l.drop k = rd_L1 l k :: l.drop (k + 1) := by
  rw [List.drop_eq_getElem_cons h]; simp [rd_L1, h]
theorem len_rd1 (l : List (List Int)) (k : Nat) (h : k < l.length) : (rd_L1 l k).length ≤ tot l := by
  have h1 := tot_take l k h
  have h2 := tot_le l (k + 1)
  omega

set_option maxHeartbeats 4000000 in
set_option maxRecDepth 100000 in
theorem twins_M (A0 : Option Addr) (c0 n : Nat) (l0 : List (List Int)) (w : World) (hn : l0.length = n) (hr0 : Kd.C (Kd.slice 5 (Kd.int .u8)) w A0 n l0) (hc0 : n ≤ c0) (hs : n ≤ 24) (ht : tot l0 ≤ 20000) :
    Calls Try.prog 30 #[.slice A0 n c0] w fun e w' => ∃ A c, e = .returned (.slice A n c) ∧ Kd.S marked 22 w' w.heap.size (fun _ => True) (.slice A n c) l0 ∧ Below w.heap.size w w' := by
  have HN := Aside0.mk hn
  have HR0 := Aside0.mk hr0
  have HC0 := Aside0.mk hc0
  have HT := Aside0.mk ht
  clear hr0 hc0 hn ht
  go_enter Try.func30, Try.ntmps30
  go_wp2
  go_loopw [3, 4] (fun v i wr => ∃ k : Nat, k ≤ n ∧ i = .int .i64 k ∧ Aside0 (Kd.S marked 22 wr w.heap.size (fun _ => True) v (l0.take k)) ∧ Aside0 (Below w.heap.size w wr)) (fun _ i _ => n - (intOf i).toNat)
  case atStart => exact ⟨0, Nat.zero_le _, rfl, ⟨Kd.S_nil _ _ _ _ _⟩, ⟨Below.refl _ _⟩⟩
  case round =>
    obtain ⟨k, hk, rfl, HO, HB⟩ := hrel
    by_cases hlt : k < n
    · obtain ⟨ad, A1, c1, rfl, hx, hl, hi⟩ := at_L1 HR0.out (k : Int) (by omega) (by omega)
      rw [Int.toNat_natCast] at hx
      replace hx := pw_cell_below HB.out hx
      have hpl : (rd_L1 l0 k).length ≤ 20000 := Nat.le_trans (len_rd1 l0 k (by rw [HN.out]; exact hlt)) HT.out
      have HTK := Aside0.mk (take_rd1 l0 k (by rw [HN.out]; exact hlt))
      obtain ⟨p, hp⟩ : ∃ p, p = rd_L1 l0 k := ⟨_, rfl⟩
      rw [← hp] at hx hl hi hpl HTK
      have HI := Aside0.mk (Kd.C_below hi HB.out)
      have HL := Aside0.mk hl
      clear hi hl hp
      go_wp2_with fail
      refine (roomy_M A1 c1 p.length p _ rfl HI.out HL.out (by omega)).mono ?_
      rintro e1 w1 ⟨A2, c2, rfl, hr, hb⟩
      have HOE := Aside0.mk (Kd.S_elder' HO.out (Kd.R_base hr.2) hb)
      have HNE := Aside0.mk (show ∀ k_, some k_ = (Value.slice A2 (p.length + 2) c2).ownBlock → True ∧ some k_ ≠ (u3 : Value).ownBlock from fun k_ hk_ => ⟨trivial, fun he => by
        have h1 := Kd.R_base hr.2 k_ hk_.symm
        have h2 := Kd.S_lt HO.out k_ he.symm
        omega⟩)
      have HR2 := Aside0.mk (Kd.R_lower hr.2 HB.out.size)
      have HB1 := Aside0.mk (below_then HB.out HB.out.size hb)
      clear hr hb HO HB
      go_wp2_with (with_reducible refine stop_append rfl ?_)
      refine Kd.S_append marked (w0 := w) w.heap.size rfl (.tmp 17) (.tmp 19) 37 22 (.slice none 0 0) 24 rfl Try.underlying37 info22 rfl (by decide) (by omega) u3 (l0.take k) p [.slice A2 p.length c2] (fun _ => True) (fun k_ => some k_ = (Value.slice A2 (p.length + 2) c2).ownBlock) rfl rfl ⟨A2, c2, rfl, R8_ok HR2.out (fun k_ h => h.symm)⟩ HNE.out (fun _ _ => trivial) (Kd.S_mono HOE.out (fun k_ hk_ => ⟨trivial, fun e => hk_.2 e⟩)) HB1.out HB1.out.size (by rw [List.length_take]; omega) ?_
      intro v3 w3 ho hb hg hat
      have HO3 := Aside0.mk ho
      have HB3 := Aside0.mk hb
      clear ho hb hg hat HOE HNE HR2 HB1
      go_wp2
      go_roundw
      case rel => exact ⟨k + 1, by omega, by go_num, ⟨by rw [HTK.out]; exact HO3.out⟩, HB3⟩
      case measure => simp [intOf]; omega
    · have hkk : k = n := by omega
      subst hkk
      rw [List.take_of_length_le (by rw [HN.out]; omega)] at HO
      obtain ⟨A, c, rfl⟩ := Kd.S_slice HO.out
      rw [HN.out] at HO ⊢
      go_wp2
      go_ret
      exact ⟨A, c, rfl, HO.out, HB.out⟩

set_option maxHeartbeats 4000000 in
set_option maxRecDepth 100000 in
/-- 'untouched' where the marks stand: true of equal lists. -/
theorem untouched_C (A : Option Addr) (n c : Nat) (l : List Int) (B : Option Addr) (cb : Nat) (w : World) (hl : l.length = n) (hle : n + 2 ≤ c) (hr : C8 w A (n + 2) (l ++ [167, 94])) (hB : C8 w B n l) (hcb : n ≤ cb) (hm : n ≤ 10000000000) :
    Calls Try.prog 25 #[.slice A n c, .slice B n cb] w fun e w' => e = .returned (.bool true) ∧ Drawn0 w w' := by
  have hr' : C8 w A (l ++ [167, 94]).length (l ++ [167, 94]) := by rw [List.length_append, hl]; exact hr
  have hd := Kd.C_take (m := n) hr' (by rw [List.length_append]; omega)
  have e : (l ++ [167, 94]).take n = l := by rw [← hl, List.take_left]
  rw [e, hl] at hd
  have HA := Aside0.mk hr
  have HR := Aside0.mk hd
  have HB := Aside0.mk hB
  have HL := Aside0.mk hl
  clear hB hd hr' e hr
  obtain ⟨ad, hA, hx0⟩ := Kd.at_int HA.out (n : Int) (by omega) (by omega)
  subst hA
  obtain ⟨ad', hA, hx1⟩ := Kd.at_int HA.out ((n + 1 : Nat) : Int) (by omega) (by omega)
  cases hA
  rw [Int.toNat_natCast] at hx0 hx1
  have e0 : rd (l ++ [167, 94]) (n : Int) = 167 := by simp [rd, ← hl]
  have e1 : rd (l ++ [167, 94]) ((n + 1 : Nat) : Int) = 94 := by
    unfold rd
    rw [Int.toNat_natCast, ← hl, List.getD_eq_getElem?_getD, List.getElem?_append_right (by omega), show l.length + 1 - l.length = 1 by omega]
    rfl
  rw [e0] at hx0
  rw [e1] at hx1
  rw [show ad.add (n + 1) = ⟨ad.block, ad.off + (n + 1), none⟩ by simp [Addr.add]] at hx1
  clear hl e0 e1
  go_enter Try.func25, Try.ntmps25
  go_wp2_with (with_reducible refine stop_slice rfl ?_)
  refine to8 rfl _ _ rfl rfl rfl (by omega) (by omega) ?_
  have e2 : ((n : Int) + 2).toNat = n + 2 := by omega
  rw [e2]
  clear e2
  go_wp2_with fail
  refine (heraldlaw2_same.callsB true 100000000000 (some ad) c n l B cb n l _ (decide_eq_true rfl) HL.out HL.out HR.out (by omega) HB.out hcb (by have := HL.out; omega) (by have := HL.out; omega)).mono ?_
  rintro e w1 ⟨rfl, ⟨nd, rfl⟩⟩
  go_wp2
  go_ret
  exact ⟨rfl, ⟨⟨_, rfl⟩⟩⟩

set_option maxHeartbeats 4000000 in
set_option maxRecDepth 100000 in
theorem all_M (A B : Option Addr) (n c cb : Nat) (ls : List (List Int)) (w : World) (hn : ls.length = n) (hA : marked.C w A n ls) (hc : n ≤ c) (hB : Kd.C (Kd.slice 5 (Kd.int .u8)) w B n ls) (hcb : n ≤ cb) (ht : tot ls ≤ 20000) :
    Calls Try.prog 34 #[.slice A n c, .slice B n cb] w fun e w' => e = .returned (.bool true) ∧ Drawn0 w w' := by
  have HN := Aside0.mk hn
  have HA := Aside0.mk hA
  have HB := Aside0.mk hB
  have HT := Aside0.mk ht
  clear hA hB hn ht
  have hmax : n ≤ 9223372036854775807 := Kd.C_max HB.out
  go_enter Try.func34, Try.ntmps34
  go_wp2
  go_loopw [5] (fun i wr => ∃ k : Nat, k ≤ n ∧ i = .int .i64 k ∧ Aside0 (Drawn0 w wr)) (fun i _ => n - (intOf i).toNat)
  case atStart => exact ⟨0, Nat.zero_le _, rfl, ⟨⟨⟨0, rfl⟩⟩⟩⟩
  case round =>
    obtain ⟨k, hk, rfl, HD⟩ := hrel
    by_cases hlt : k < n
    · obtain ⟨ad, A1, c1, rfl, hx, hl, hi⟩ := at_M HA.out (k : Int) (by omega) (by omega)
      obtain ⟨bd, B1, d1, rfl, hy, hm, hj⟩ := at_L1 HB.out (k : Int) (by omega) (by omega)
      rw [Int.toNat_natCast] at hx hy
      have hpl : (rd_L1 ls k).length ≤ 20000 := Nat.le_trans (len_rd1 ls k (by rw [HN.out]; exact hlt)) HT.out
      obtain ⟨p, hp⟩ : ∃ p, p = rd_L1 ls k := ⟨_, rfl⟩
      rw [← hp] at hx hl hi hpl hy hm hj
      replace hx := pw_cell_below HD.out.below hx
      replace hy := pw_cell_below HD.out.below hy
      have HI := Aside0.mk (Kd.C_below hi HD.out.below)
      have HJ := Aside0.mk (Kd.C_below hj HD.out.below)
      clear hi hj hp
      go_wp2_with fail
      go_quiet (first | (go_at_call 25; exact Drawn0.quiet (untouched_C A1 p.length c1 p B1 d1 _ rfl hl (by repeat (first | exact HI.out | apply Kd.C_drewN | apply Kd.C_drew)) (by repeat (first | exact HJ.out | apply Kd.C_drewN | apply Kd.C_drew)) hm (by omega))))
      go_wp2
      go_roundw
      case rel => exact ⟨k + 1, by omega, by go_num, ⟨drawn_trans HD.out ⟨⟨_, rfl⟩⟩⟩⟩
      case measure => simp [intOf]; omega
    · have hkk : k = n := by omega
      subst hkk
      go_wp2
      go_ret
      exact ⟨rfl, HD.out⟩
end Go.Proofs.Ytnanaojjhmpilaa.PW
