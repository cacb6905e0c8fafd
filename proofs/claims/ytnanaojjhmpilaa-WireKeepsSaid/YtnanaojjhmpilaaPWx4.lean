/- The machine's side of functions, in one namespace: each function's call comes to what its Lean function tells. -/
import Derived.Test.YtnanaojjhmpilaaPWx0
namespace Go.Proofs.Ytnanaojjhmpilaa.PW
open Go.RowKit Go.Proofs.YtnanaojjhmpilaaW.PrintWords Go.Proofs.YtnanaojjhmpilaaW.PrintLast Go.Proofs.YtnanaojjhmpilaaW.PrintMore
attribute [local go_sem] max2_int min2_int max_two min_two max_three min_three max_four min_four   -- for this text's walks alone
set_option linter.unusedVariables false
set_option linter.unusedSimpArgs false

/-! ### heraldlaw2_joined: function 33 -/
def heraldlaw2_joined.l0 : Nat → List (List Int) → List Int → Int → Option (List Int)
  | 0, _, _, _ => none
  | k + 1, x0, x3, x4 => if x4 < (x0.length : Int) then (if 0 ≤ x4 then (if x3.length + (rd_L1 x0 x4).length < 140737488355328 then (heraldlaw2_joined.l0 k x0 (x3 ++ (rd_L1 x0 x4)) (wrap64 (x4 + 1))) else (none)) else (none)) else (some x3)
def heraldlaw2_joined.f (k : Nat) (l0 : List (List Int)) : Option (List Int) := heraldlaw2_joined.l0 k l0 ([] : List Int) 0
theorem heraldlaw2_joined.mono_l : ∀ k, (∀ y0 y1 y2, LeO (heraldlaw2_joined.l0 k y0 y1 y2) (heraldlaw2_joined.l0 (k + 1) y0 y1 y2))
  | 0 => fun _ _ _ r h => by simp [heraldlaw2_joined.l0] at h
  | k + 1 => by
    have ih0 := heraldlaw2_joined.mono_l k
    · intro y0 y1 y2
      unfold heraldlaw2_joined.l0
      repeat' first
      | (with_reducible exact ih0 _ _ _)
      | (with_reducible exact LeO.refl _)
      | (with_reducible exact LeO.none _)
      | (with_reducible refine LeO.ite ?_ ?_)
      | (with_reducible refine LeO.bind ?_ (fun _ => ?_))
      | exact ih0 _ _ _
      | exact LeO.none _
      | refine LeO.ite ?_ ?_
      | refine LeO.bind ?_ (fun _ => ?_)
theorem heraldlaw2_joined.mono : ∀ a0 k, LeO (heraldlaw2_joined.f k a0) (heraldlaw2_joined.f (k + 1) a0) := by
  intro a0 k
  have ih0 := heraldlaw2_joined.mono_l k
  unfold heraldlaw2_joined.f
  repeat' first
      | (with_reducible exact ih0 _ _ _)
      | (with_reducible exact LeO.refl _)
      | (with_reducible exact LeO.none _)
      | (with_reducible refine LeO.ite ?_ ?_)
      | (with_reducible refine LeO.bind ?_ (fun _ => ?_))
      | exact ih0 _ _ _
      | exact LeO.none _
      | refine LeO.ite ?_ ?_
      | refine LeO.bind ?_ (fun _ => ?_)
set_option maxHeartbeats 8000000 in
set_option maxRecDepth 100000 in
theorem heraldlaw2_joined.calls (k : Nat) (A0 : Option Addr) (c0 : Nat) (l0 : List (List Int)) (r : List Int) (w : World) (hr0 : Kd.C (Kd.slice 5 (Kd.int .u8)) w A0 l0.length l0) (hc0 : l0.length ≤ c0) (h : heraldlaw2_joined.f k l0 = some r) :
    Calls Try.prog 33 #[.slice A0 l0.length c0] w fun e w' => ∃ v0_ : Value, e = .returned (v0_) ∧ Kd.R (Kd.int .u8) 5 w' w.heap.size (fun _ => True) v0_ r ∧ Below w.heap.size w w' := by
  have HR0 := Aside0.mk hr0
  have HC0 := Aside0.mk hc0
  clear hr0 hc0
  have HB := Aside0.mk (Below.refl w.heap.size w)
  have H : (heraldlaw2_joined.l0 k l0 ([] : List Int) 0) = some r := h
  clear h
  have H' := Aside0.mk H
  clear H
  go_enter Try.func33, Try.ntmps33
  go_wp2
  go_loopg [3, 4] k (fun kq v3 v4 w' => ∃ (x3_1 : List Int) (x4_1 : Int), v4 = .int .i64 x4_1 ∧ Aside0 (heraldlaw2_joined.l0 kq l0 x3_1 x4_1 = some r) ∧ Aside0 (kq ≤ k) ∧ Aside0 (Kd.R (Kd.int .u8) 5 w' w.heap.size (fun _ => True) v3 x3_1) ∧ Aside0 (Below w.heap.size w w'))
  case atStart => exact ⟨(([] : List Int)), (0), (by first | rfl | (simp; done) | (simp [*]; done)), H', ⟨Nat.le_refl _⟩, ⟨by first | exact Kd.R_nil _ _ _ _ _ | exact Kd.N_nil _ _ _ _ _ | exact Kd.V_nil _ _ _ _ _ | exact Kd.Q_nil _ _ _ _ _ | exact Kd.S_nil _ _ _ _ _⟩, ⟨by repeat (first | (with_reducible first | exact HB.out | apply below_alloc | apply pw_below_drewN | apply below_drew1) | exact HB.out)⟩⟩
  case round =>
    clear H'
    obtain ⟨x3_1, x4_1, rfl, HA, HK1, HO_3, HB⟩ := hrel
    cases gk with
    | zero => exact absurd HA.out (by simp [heraldlaw2_joined.l0])
    | succ k1 =>
      have H := HA.out
      clear HA
      simp only [heraldlaw2_joined.l0] at H
      by_cases c2 : x4_1 < (l0.length : Int)
      · rw [if_pos c2] at H
        have c2b0 : decide (x4_1 < (l0.length : Int)) = true := decide_eq_true c2
        clear c2
        by_cases c3 : 0 ≤ x4_1
        · rw [if_pos c3] at H
          have c3b0 : decide (0 ≤ x4_1) = true := decide_eq_true c3
          clear c3
          by_cases c4 : x3_1.length + (rd_L1 l0 x4_1).length < 140737488355328
          · rw [if_pos c4] at H
            have LMc4 := Aside0.mk c4
            clear c4
            obtain ⟨y173, hy173⟩ : ∃ y_ : List Int, y_ = (x3_1 ++ (rd_L1 l0 x4_1)) := ⟨_, rfl⟩
            replace H : (heraldlaw2_joined.l0 k1 l0 y173 (wrap64 (x4_1 + 1))) = some r := by first | (rw [hy173]; with_reducible exact H) | (have H2_ := (Option.bind_some _ _).symm.trans H; rw [hy173]; with_reducible exact H2_) | (have H2_ := (Option.bind_some _ _).symm.trans H; with_reducible exact H2_) | with_reducible exact H | (rw [hy173]; exact H) | exact H
            have Ny173 := Aside0.mk hy173
            clear hy173
            have H' := Aside0.mk H
            clear H
            have p172 : 0 ≤ (x4_1 : Int) := of_decide_eq_true (by first | (with_reducible assumption) | assumption)
            have q172 : x4_1 < (l0.length : Int) := of_decide_eq_true (by first | (with_reducible assumption) | assumption)
            obtain ⟨ad172, A172_0, c172_0, e172, hx172_0, hl172_0, hi172_0⟩ := at_L1 HR0.out x4_1 p172 q172
            cases e172
            replace hx172_0 := (HB.out.cell (World.block_lt_of_cell? w _ hx172_0)).trans hx172_0
            have HR172_0 := Aside0.mk hi172_0
            have HC172_0 := Aside0.mk hl172_0
            clear hi172_0 hl172_0
            replace p172 := eq_true p172
            replace q172 := eq_true q172
            go_wp2_with (first | ((with_reducible refine gate_builtin (b := .append) (xs := #[.tmp 11, .tmp 15]) rfl ?_); at_builtin; refine Kd.R_append_rows (Kd.int .u8) (w0 := w) w.heap.size rfl (.tmp 11) (.tmp 15) 22 5 (.int .u8 0) 1 rfl Try.underlying22 info5 rfl (by decide) (by omega) u3 x3_1 (rd_L1 l0 x4_1) _ _ _ (fun _ => True) (fun _ => False) rfl rfl ?aO ?aR (fun _ _ h => h) (fun _ h => h.elim) ?aF ?aB ?aS ?aL ?_; (case aR => repeat (first | exact (Kd.C_below HR172_0.out HB.out) | (with_reducible refine Kd.C_alloc ?_ _) | (with_reducible refine Kd.C_drewN ?_ _) | (with_reducible refine Kd.C_drew ?_))); (case aB => exact (by repeat (first | (with_reducible first | exact HB.out | apply below_alloc | apply pw_below_drewN | apply below_drew1) | exact HB.out))); (case aF => exact (fun _ _ => trivial)); (case aO => exact (by (with_reducible repeat (first | apply Kd.R_alloc | apply Kd.R_drewN | apply Kd.R_drew)); exact HO_3.out)); (case aS => exact (below_size (by repeat (first | (with_reducible first | exact HB.out | apply below_alloc | apply pw_below_drewN | apply below_drew1) | exact HB.out)))); (case aL => have := LMc4.out; omega); intro v174 w5 ho hb hg hat; rw [← Ny173.out] at ho; have n0_ := Aside0.mk (hb); have n1_ := Aside0.mk (ho); clear HB; clear HO_3; have HB := n0_; have HO175 := n1_; clear n0_ n1_; clear ho hb hg hat))
            go_roundg k1
            case measure => have := HK1.out; omega
            case rel => exact ⟨(y173), (wrap64 (x4_1 + 1)), (by first | rfl | (simp; done) | (simp [*]; done)), H', ⟨by have := HK1.out; omega⟩, ⟨by (with_reducible repeat (first | apply Kd.R_alloc | apply Kd.R_drewN | apply Kd.R_drew)); exact HO175.out⟩, ⟨by repeat (first | (with_reducible first | exact HB.out | apply below_alloc | apply pw_below_drewN | apply below_drew1) | exact HB.out)⟩⟩
          · rw [if_neg c4] at H
            exact absurd H (by simp)
        · rw [if_neg c3] at H
          exact absurd H (by simp)
      · rw [if_neg c2] at H
        have c2b0 : decide (x4_1 < (l0.length : Int)) = false := decide_eq_false c2
        clear c2
        obtain rfl := Option.some.inj H
        go_wp2
        go_ret
        exact ⟨_, by first | rfl | (simp [errW_none, errW_some] <;> rfl) | (simp [*, errW_none, errW_some] <;> rfl), by (with_reducible repeat (first | apply Kd.R_alloc | apply Kd.R_drewN | apply Kd.R_drew)); exact HO_3.out, by repeat (first | (with_reducible first | exact HB.out | apply below_alloc | apply pw_below_drewN | apply below_drew1) | exact HB.out)⟩

-- NOT PRINTED: function 34 (heraldlaw2_allUntouched)

-- NOT PRINTED: function 6 (heraldlaw2_WireFrames)

/-! ### wire_ReadNumber: function 36 -/
def wire_ReadNumber.f (l0 : List Int) (a1 : Int) : Option (Int × Int × Int) := if bytesOk l0 = true ∧ l0.length ≤ 140737488355328 then some (readNum l0 a1) else none
set_option maxHeartbeats 4000000 in
set_option maxRecDepth 100000 in
theorem wire_ReadNumber.calls (A0 : Option Addr) (c0 : Nat) (l0 : List Int) (a1 : Int) (r1 r2 r3 : Int) (w : World) (hr0 : Kd.C (Kd.int .u8) w A0 l0.length l0) (hc0 : l0.length ≤ c0) (h : wire_ReadNumber.f l0 a1 = some (r1, r2, r3)) :
    Calls Try.prog 36 #[.slice A0 l0.length c0, .int .i64 a1] w fun e w' => e = .returned (.tuple #[.int .i64 r1, .int .i64 r2, .int .i64 r3]) ∧ Drawn0 w w' := by
  unfold wire_ReadNumber.f at h
  split at h
  case isFalse => cases h
  rename_i hok
  obtain ⟨hok, hm⟩ := hok
  have hr := Option.some.inj h
  clear h
  have HOK := Aside0.mk hok
  clear hok
  have HR0 := Aside0.mk hr0
  have HC0 := Aside0.mk hc0
  clear hr0 hc0
  unfold readNum at hr
  by_cases h1 : a1 < 0
  · rw [if_pos (by omega)] at hr
    cases hr
    go_enter Try.func36, Try.ntmps36
    go_wp2
    go_ret3
    exact ⟨rfl, Drawn0.refl _⟩
  by_cases h2 : a1 > l0.length
  · rw [if_pos (by omega)] at hr
    cases hr
    go_enter Try.func36, Try.ntmps36
    go_wp2
    go_ret3
    exact ⟨rfl, Drawn0.refl _⟩
  rw [if_neg (by omega)] at hr
  have hr' := Aside0.mk hr
  clear hr
  go_enter Try.func36, Try.ntmps36
  go_wp2_with (with_reducible refine stop_slice rfl ?_)
  refine from8 rfl _ _ rfl rfl rfl (by omega) (by omega) HC0.out HR0.out ?_
  intro A1 hr2
  have HR2 := Aside0.mk hr2
  clear hr2
  obtain ⟨n, hn⟩ : ∃ n : Nat, n = l0.length - a1.toNat := ⟨_, rfl⟩
  obtain ⟨s, hs⟩ : ∃ s : List Int, s = l0.drop a1.toNat := ⟨_, rfl⟩
  have hsl : s.length = n := by rw [hs, List.length_drop]; omega
  have HOK2 := Aside0.mk (hs ▸ bytesOk_drop HOK.out a1.toNat)
  rw [← hn, ← hs] at HR2
  rw [← hs] at hr'
  rw [← hn]
  have hna : (l0.length : Int) - a1 = n := by omega
  clear hs hn HR0
  go_wp2
  go_loop [7, 22] (fun v i => ∃ k : Nat, k ≤ n ∧ k ≤ 5 ∧ i = .int .i64 k ∧ ∃ x : Int, v = .int .i64 x ∧ Aside0 (0 ≤ x ∧ x < 128 ^ k) ∧ Aside0 (rnGo a1 (5 - k) k x (s.drop k) = (r1, r2, r3))) (fun _ i => n - (intOf i).toNat)
  case atStart => exact ⟨0, Nat.zero_le _, by omega, rfl, _, rfl, ⟨by simp⟩, ⟨by simpa using hr'.out⟩⟩
  case round =>
    obtain ⟨k, hk, hk5, rfl, x, rfl, hx, hgo⟩ := hrel
    by_cases hlt : k < n
    · by_cases hk6 : k = 5
      · have he := hgo.out
        rw [hk6, show 5 - 5 = 0 from rfl, rnGo] at he
        cases he
        obtain ⟨ad, rfl, hc⟩ := Kd.at_int HR2.out (k : Int) (by omega) (by omega)
        rw [Int.toNat_natCast] at hc
        have hge : (5 : Int) ≤ (l0.length : Int) - a1 := by omega
        have hkb : ((k : Int) == 5) = true := by simp [hk6]
        have hk8 : 5 ≤ k := by omega
        clear hgo hk6
        go_wp2
        go_ret3
        exact ⟨rfl, Drawn0.refl _⟩
      · have hk7 : k < 5 := by omega
        obtain ⟨ad, rfl, hc⟩ := Kd.at_int HR2.out (k : Int) (by omega) (by omega)
        rw [Int.toNat_natCast] at hc
        have hbb := Aside0.mk (bytesOk_rd HOK2.out k (by omega))
        have hstep := hgo.out
        rw [drop_rd s k (by omega), rnGo_step a1 x _ k hk7] at hstep
        obtain ⟨b, hb⟩ : ∃ b, b = rd s k := ⟨_, rfl⟩
        rw [← hb] at hc hbb hstep
        clear hb hgo
        have hds := digit_step x b k hk7 hx.out hbb.out
        by_cases hb1 : b ≥ 128
        · rw [if_pos hb1] at hstep
          have hstep2 := Aside0.mk hstep
          have hds2 := Aside0.mk hds
          clear hstep hds
          go_wp2
          go_round
          case rel =>
            refine ⟨k + 1, by omega, by omega, by go_num, _, rfl, ⟨?_⟩, ⟨?_⟩⟩
            · rw [hds2.out]; exact digit_bound x b k hk7 hx.out hbb.out
            · rw [hds2.out]; exact hstep2.out
          case measure => simp [intOf]; omega
        · rw [if_neg hb1] at hstep
          have hv := digit_bound x b k hk7 hx.out hbb.out
          rw [← hds] at hstep hv
          have hds2 := Aside0.mk hds
          clear hds
          obtain ⟨y, hy⟩ : ∃ y, y = Go.bits .or .i64 x (wrap64 (wrap64 (Go.bits .and .u8 b 127) * 2 ^ (7 * k))) := ⟨_, rfl⟩
          rw [← hy] at hstep hv
          have hstep2 := Aside0.mk hstep
          have hy2 := hy.symm
          have hv2 := Aside0.mk hv
          clear hstep hy hv
          have hk0 : b = 0 → k = 0 → y ≤ 2147483647 := by
            intro e1 e2
            subst e2
            have := hv2.out
            simp at this; omega
          by_cases hz : b = 0
          · by_cases hk1 : k = 0
            · have hyb := hk0 hz hk1
              have he := hstep2.out
              rw [if_neg (by omega)] at he
              cases he
              have hz2 : (b == 0) = true := beq_iff_eq.mpr hz
              have hk2 : k ≤ 0 := by omega
              clear hz hk0 hk1
              go_wp2
              go_ret3
              exact ⟨by simp, Drawn0.refl _⟩
            · have he := hstep2.out
              rw [if_pos (by omega)] at he
              cases he
              have hz2 : (b == 0) = true := beq_iff_eq.mpr hz
              have hk2 : 0 < k := by omega
              clear hz hk0 hk1
              go_wp2
              go_ret3
              exact ⟨rfl, Drawn0.refl _⟩
          · have hz2 : (b == 0) = false := beq_eq_false_iff_ne.mpr hz
            by_cases hbig : y > 2147483647
            · have he := hstep2.out
              rw [if_pos (by omega)] at he
              cases he
              clear hz hk0
              go_wp2
              go_ret3
              exact ⟨rfl, Drawn0.refl _⟩
            · have he := hstep2.out
              rw [if_neg (by omega)] at he
              cases he
              clear hz hk0
              go_wp2
              go_ret3
              exact ⟨by simp, Drawn0.refl _⟩
    · have hkn : s.drop k = [] := List.drop_eq_nil_of_le (by omega)
      by_cases hk6 : k = 5
      · have he := hgo.out
        rw [hk6, rnGo] at he
        cases he
        have hge : (5 : Int) ≤ (l0.length : Int) - a1 := by omega
        clear hkn hk6
        go_wp2
        go_ret3
        exact ⟨rfl, Drawn0.refl _⟩
      · have he := hgo.out
        obtain ⟨m, hm⟩ : ∃ m, 5 - k = m + 1 := ⟨5 - (k + 1), by omega⟩
        rw [hkn, hm, rnGo] at he
        cases he
        have hge : (l0.length : Int) - a1 < 5 := by omega
        clear hkn hk6 hm
        go_wp2
        go_ret3
        exact ⟨rfl, Drawn0.refl _⟩

/-! ### wire_ReadText: function 46 -/
def wire_ReadText.f (l0 : List Int) (a1 : Int) : Option (ByteArray × Int × Int) := if bytesOk l0 = true ∧ l0.length ≤ 140737488355328 then some (strOfNums (readText l0 a1).1, (readText l0 a1).2.1, (readText l0 a1).2.2) else none
set_option maxHeartbeats 4000000 in
set_option maxRecDepth 100000 in
theorem wire_ReadText.calls (A0 : Option Addr) (c0 : Nat) (l0 : List Int) (a1 : Int) (r1 : ByteArray) (r2 r3 : Int) (w : World) (hr0 : Kd.C (Kd.int .u8) w A0 l0.length l0) (hc0 : l0.length ≤ c0) (h : wire_ReadText.f l0 a1 = some (r1, r2, r3)) :
    Calls Try.prog 46 #[.slice A0 l0.length c0, .int .i64 a1] w fun e w' => e = .returned (.tuple #[.string r1, .int .i64 r2, .int .i64 r3]) ∧ Drawn0 w w' := by
  unfold wire_ReadText.f at h
  split at h
  case isFalse => cases h
  rename_i hok
  have hnum : wire_ReadNumber.f l0 a1 = some (readNum l0 a1) := by unfold wire_ReadNumber.f; rw [if_pos hok]
  have hr := Option.some.inj h
  clear h
  obtain ⟨x, q, e, hxq⟩ : ∃ x q e, readNum l0 a1 = (x, q, e) := ⟨_, _, _, rfl⟩
  unfold readText at hr
  rw [hxq] at hr hnum
  have hm := hok.2
  clear hok
  have HR0 := Aside0.mk hr0
  have HC0 := Aside0.mk hc0
  have HN := Aside0.mk hnum
  have HX := Aside0.mk hxq
  clear hr0 hc0 hnum hxq
  simp only at hr
  by_cases h1 : e ≠ 0
  · rw [if_pos h1] at hr
    cases hr
    have h2 : (e == 0) = false := beq_eq_false_iff_ne.mpr h1
    have h3 : (e != 0) = true := bne_iff_ne.mpr h1
    clear h1
    go_enter Try.func46, Try.ntmps46
    go_wp2_with (go_at_call 36; refine (wire_ReadNumber.calls A0 c0 l0 a1 x q e _ HR0.out HC0.out HN.out).mono ?_; rintro e1 w1 ⟨rfl, ⟨nd, rfl⟩⟩)
    go_ret3
    exact ⟨rfl, ⟨⟨_, rfl⟩⟩⟩
  · rw [if_neg h1] at hr
    obtain rfl : e = 0 := by omega
    clear h1
    obtain ⟨g0, g1, g2, g3, g4⟩ := readNum_ok HX.out
    by_cases h2 : x > 262144
    · rw [if_pos h2] at hr
      cases hr
      go_enter Try.func46, Try.ntmps46
      go_wp2_with (go_at_call 36; refine (wire_ReadNumber.calls A0 c0 l0 a1 x q 0 _ HR0.out HC0.out HN.out).mono ?_; rintro e1 w1 ⟨rfl, ⟨nd, rfl⟩⟩)
      go_ret3
      exact ⟨rfl, ⟨⟨_, rfl⟩⟩⟩
    · rw [if_neg h2] at hr
      by_cases h3 : x > l0.length - q
      · rw [if_pos h3] at hr
        cases hr
        go_enter Try.func46, Try.ntmps46
        go_wp2_with (go_at_call 36; refine (wire_ReadNumber.calls A0 c0 l0 a1 x q 0 _ HR0.out HC0.out HN.out).mono ?_; rintro e1 w1 ⟨rfl, ⟨nd, rfl⟩⟩)
        go_ret3
        exact ⟨rfl, ⟨⟨_, rfl⟩⟩⟩
      · rw [if_neg h3] at hr
        have hr1 := Aside0.mk hr
        clear hr
        go_enter Try.func46, Try.ntmps46
        go_wp2_with (first | (go_at_call 36; refine (wire_ReadNumber.calls A0 c0 l0 a1 x q 0 _ HR0.out HC0.out HN.out).mono ?_; rintro e1 w1 ⟨rfl, ⟨nd, rfl⟩⟩) | (with_reducible refine stop_slice rfl ?_))
        refine mid8 rfl _ _ _ rfl rfl rfl rfl (by omega) (by omega) (by omega) HC0.out (Kd.C_drewN HR0.out nd) ?_
        intro A1 hr2
        have HR2 := Aside0.mk hr2
        clear hr2
        go_wp2_with (with_reducible refine stop_convert rfl ?_)
        refine str8 rfl _ rfl rfl HR2.out ?_
        go_wp2
        go_ret3
        have he := hr1.out
        cases he
        exact ⟨rfl, ⟨⟨_, rfl⟩⟩⟩

end Go.Proofs.Ytnanaojjhmpilaa.PW
