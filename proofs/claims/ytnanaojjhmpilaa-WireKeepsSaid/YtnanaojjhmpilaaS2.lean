/- Streams: the reference's Says is the scan. -/
import Derived.Test.YtnanaojjhmpilaaS1
import Derived.Test.YtnanaojjhmpilaaPWx1
import Derived.Test.YtnanaojjhmpilaaPWx6
import Derived.Test.YtnanaojjhmpilaaPWx7
import Derived.Outline
namespace Go.Proofs.Ytnanaojjhmpilaa.PW
open Go.RowKit Go.Proofs.YtnanaojjhmpilaaW.PrintWords Go.Proofs.YtnanaojjhmpilaaW.PrintLast Go.Proofs.YtnanaojjhmpilaaW.PrintMore
set_option linter.unusedVariables false
set_option linter.unusedSimpArgs false

/-- What is told of the rest goes on from what was told so far. -/
def Told (l : List Int) (k : Nat) (B : List (List Int)) (sk : Nat) : Prop := B ++ (scan (l.drop k)).1 = (scan l).1 ∧ sk + (scan (l.drop k)).2.1 = (scan l).2.1
theorem told_zero (l : List Int) : Told l 0 [] 0 := ⟨by simp, by simp⟩
theorem told_skip {l : List Int} {k : Nat} {B : List (List Int)} {sk : Nat} (h : Told l k B sk) (hd : dec (l.drop k) = .skip) : Told l (k + 1) B (sk + 1) := by
  obtain ⟨h1, h2⟩ := h
  rw [scan_skip hd, List.drop_drop] at h1 h2
  exact ⟨h1, by rw [← h2]; simp only; omega⟩
theorem told_body {l : List Int} {k n : Nat} {B : List (List Int)} {sk : Nat} (h : Told l k B sk) (hd : dec (l.drop k) = .body n) : Told l (k + n + 14) (B ++ [((l.drop k).drop 10).take n]) sk := by
  obtain ⟨h1, h2⟩ := h
  rw [scan_body hd, List.drop_drop] at h1 h2
  rw [List.drop_drop] at h2
  exact ⟨by rw [← h1, show k + n + 14 = k + (n + 14) by omega]; simp, by rw [← h2, show k + n + 14 = k + (n + 14) by omega]⟩
theorem told_wait {l : List Int} {k : Nat} {B : List (List Int)} {sk : Nat} (h : Told l k B sk) (hd : dec (l.drop k) = .wait) : B = (scan l).1 ∧ sk = (scan l).2.1 := by
  obtain ⟨h1, h2⟩ := h
  rw [scan_wait hd] at h1 h2
  exact ⟨by simpa using h1, h2⟩
theorem R8_ok' {w : World} {base : Nat} {v : Value} {l : List Int} {ok : Nat → Prop} (h : R8 w base v l) (hok : ∀ k, v.ownBlock = some k → ok k) : Kd.R (Kd.int .u8) 5 w base ok v l :=
  Kd.R_mono (Kd.R_tight rfl h) (fun k hk => hok k hk.symm)
theorem headed_N (A : Option Addr) (c n : Nat) (l : List Int) (x : Int) (b : Bool) (w : World) (hn : l.length = n) (hr : C8 w A n l) (hc : n ≤ c) (hok : bytesOk l = true) (h10 : 10 ≤ n) (hm : n ≤ 1000000000) (hx : wordAt l 2 = x) (hb : headB l = b) :
    Calls Try.prog 59 #[.slice A n c] w fun e w' => e = .returned (.tuple #[.int .i64 x, .bool b]) ∧ Drawn0 w w' := by
  subst hn
  subst hx
  subst hb
  exact heraldref2_headed.calls A c l _ _ w hr hc (by unfold heraldref2_headed.f; rw [if_pos ⟨hok, by omega, by omega⟩])
theorem from4_N (A : Option Addr) (c n : Nat) (l : List Int) (i x : Int) (w : World) (hn : l.length = n) (hr : C8 w A n l) (hc : n ≤ c) (hx : heraldref2_from4.f l i = some x) :
    Calls Try.prog 60 #[.slice A n c, .int .i64 i] w fun e w' => e = .returned (.int .i64 x) ∧ Drawn0 w w' := by
  subst hn
  exact heraldref2_from4.calls A c l i x w hr hc hx
theorem refsum_N (A : Option Addr) (c n : Nat) (l : List Int) (x : Int) (w : World) (hn : l.length = n) (hr : C8 w A n l) (hc : n ≤ c) (hok : bytesOk l = true) (hm : n ≤ 1000000000) (hx : sumW l = x) :
    Calls Try.prog 24 #[.slice A n c] w fun e w' => e = .returned (.int .i64 x) ∧ Drawn0 w w' := by
  subst hn
  subst hx
  exact heraldref2_Sum.calls (l.length + 9) A c l _ w hr hc (ref_sum _ _ (by omega) hok (by omega))

set_option maxHeartbeats 16000000 in
set_option maxRecDepth 100000 in
theorem says_M (A0 : Option Addr) (c0 n : Nat) (l : List Int) (w : World) (hn : l.length = n) (hr : C8 w A0 n l) (hc : n ≤ c0) (hok : bytesOk l = true) (hm : n ≤ 1000000) :
    Calls Try.prog 41 #[.slice A0 n c0] w fun e w' => ∃ v : Value, e = .returned (.tuple #[v, .int .i64 ((scan l).2.1 : Nat)]) ∧ Kd.S (Kd.slice 5 (Kd.int .u8)) 22 w' w.heap.size (fun _ => True) v (scan l).1 ∧ Below w.heap.size w w' := by
  have HN := Aside0.mk hn
  have HR0 := Aside0.mk hr
  have HC0 := Aside0.mk hc
  have HOK := Aside0.mk hok
  have HMAX := Aside0.mk hm
  obtain ⟨X, hX⟩ : ∃ X, X = (scan l).1 := ⟨_, rfl⟩
  obtain ⟨Y, hY⟩ : ∃ Y, Y = (scan l).2.1 := ⟨_, rfl⟩
  rw [← hX, ← hY]
  have HX := Aside0.mk hX
  have HY := Aside0.mk hY
  clear hr hc hok hn hX hY
  go_enter Try.func41, Try.ntmps41
  go_wp2
  go_loopw [4, 5, 6] (fun v s i wr => ∃ (k : Nat) (B : List (List Int)) (sk : Nat), k ≤ n ∧ i = .int .i64 k ∧ s = .int .i64 sk ∧ sk ≤ k ∧ B.length ≤ k ∧ Aside0 (Told l k B sk) ∧ Aside0 (Kd.S (Kd.slice 5 (Kd.int .u8)) 22 wr w.heap.size (fun _ => True) v B) ∧ Aside0 (Below w.heap.size w wr)) (fun _ _ i _ => n - (intOf i).toNat)
  case atStart => exact ⟨0, [], 0, Nat.zero_le _, rfl, rfl, Nat.le_refl _, by simp, ⟨told_zero l⟩, ⟨Kd.S_nil _ _ _ _ _⟩, ⟨Below.refl _ _⟩⟩
  case round =>
    obtain ⟨k, B, sk, hk, rfl, rfl, hsk, hBl, HT, HO, HB⟩ := hrel
    by_cases hlt : k < n
    · go_wp2_with (with_reducible refine stop_slice rfl ?_)
      refine from8 rfl _ _ rfl rfl rfl (by omega) (by omega) HC0.out (Kd.C_below HR0.out HB.out) ?_
      intro A7 hr7
      rw [Int.toNat_natCast] at hr7 ⊢
      obtain ⟨R, hR⟩ : ∃ R, R = l.drop k := ⟨_, rfl⟩
      obtain ⟨m, hmm⟩ : ∃ m, m = n - k := ⟨_, rfl⟩
      obtain ⟨c7, hc7⟩ : ∃ c, c = c0 - k := ⟨_, rfl⟩
      rw [← hR, ← hmm] at hr7
      rw [← hmm, ← hc7]
      have hmc : m ≤ c7 := by have := HC0.out; omega
      have hmk : k + m = n := by omega
      have HRL := Aside0.mk (show R.length = m by rw [hR, List.length_drop, HN.out, hmm])
      have HRO := Aside0.mk (show bytesOk R = true by rw [hR]; exact bytesOk_drop HOK.out k)
      have HSK := Aside0.mk (show dec R = .skip → Told l (k + 1) B (sk + 1) from fun h => told_skip HT.out (by rw [← hR]; exact h))
      have HBD := Aside0.mk (show ∀ j, dec R = .body j → Told l (k + j + 14) (B ++ [(R.drop 10).take j]) sk from fun j h => by rw [hR]; exact told_body HT.out (by rw [← hR]; exact h))
      have HWT := Aside0.mk (show dec R = .wait → B = X ∧ sk = Y from fun h => by rw [HX.out, HY.out]; exact told_wait HT.out (by rw [← hR]; exact h))
      have HR7 := Aside0.mk hr7
      clear hr7 hR HT hmm hc7
      have hm0 : 0 < m := by omega
      obtain ⟨ad, hA, hx0⟩ := Kd.at_int HR7.out 0 (by omega) (by omega)
      subst hA
      rw [show ((0 : Int)).toNat = 0 from rfl, Addr.add_zero'] at hx0
      obtain ⟨b0, hb0⟩ : ∃ b, b = rd R 0 := ⟨_, rfl⟩
      rw [← hb0] at hx0
      by_cases h0 : b0 = 197
      · have k0 : (b0 != 197) = false := bne_eq_false_iff_eq.mpr h0
        have HO0 := Aside0.mk (show rd R 0 = 197 by rw [← hb0, h0])
        clear h0 hb0
        by_cases h1 : m < 2
        · have hd : dec R = .wait := by
            unfold dec opens
            rw [HRL.out, if_neg (by omega), HO0.out, decide_eq_true h1, if_neg (by simp), if_pos (by omega)]
          obtain ⟨hw1, hw2⟩ := HWT.out hd
          have HXX := Aside0.mk hw1
          subst hw2
          clear hw1 hd
          go_wp2
          go_ret2
          exact ⟨_, rfl, by rw [← HXX.out]; exact HO.out, HB.out⟩
        · obtain ⟨ad', hA, hx1⟩ := Kd.at_int HR7.out 1 (by omega) (by omega)
          cases hA
          simp only [show (1 : Int).toNat = 1 from rfl, Nat.reduceMul, Nat.reduceEqDiff, Go.Addr.add, ↓reduceIte] at hx1
          obtain ⟨b1, hb1⟩ : ∃ b, b = rd R 1 := ⟨_, rfl⟩
          rw [← hb1] at hx1
          by_cases h3 : b1 = 58
          · have k1 : (b1 != 58) = false := bne_eq_false_iff_eq.mpr h3
            have HO1 := Aside0.mk (show opens R = true by unfold opens; rw [HO0.out, ← hb1, h3]; simp)
            clear h3 hb1
            by_cases h10 : m < 10
            · have hd : dec R = .wait := by
                unfold dec
                rw [HRL.out, if_neg (by omega), HO1.out, if_neg (by simp), if_pos (by omega)]
              obtain ⟨hw1, hw2⟩ := HWT.out hd
              have HXX := Aside0.mk hw1
              subst hw2
              clear hw1 hd
              go_wp2
              go_ret2
              exact ⟨_, rfl, by rw [← HXX.out]; exact HO.out, HB.out⟩
            · have hwr := wordAt_range R HRO.out 2 (by rw [HRL.out]; omega)
              have hd0 : dec R = if headB R = false then .skip else if m < (wordAt R 2).toNat + 14 then .wait else if endsB (R.take ((wordAt R 2).toNat + 14)) = false then .skip else .body (wordAt R 2).toNat := by
                conv => lhs; unfold dec
                rw [HRL.out, if_neg (by omega), HO1.out, if_neg (by simp), if_neg (by omega)]
              have hhn : headB R = true → wordAt R 2 ≤ 262144 := by
                intro h; unfold headB at h; simp only [Bool.and_eq_true, decide_eq_true_eq] at h; omega
              obtain ⟨x, hx⟩ : ∃ x, wordAt R 2 = x := ⟨_, rfl⟩
              obtain ⟨hb, hhb⟩ : ∃ b, headB R = b := ⟨_, rfl⟩
              rw [hx] at hwr hd0 hhn
              rw [hhb] at hd0 hhn
              have HX2 := Aside0.mk hx
              have HHB := Aside0.mk hhb
              have HD0 := Aside0.mk hd0
              obtain ⟨hx00, hx01⟩ := hwr
              clear hx hhb hd0
              go_wp2_with fail
              refine (headed_N (some ad) c7 m R x hb _ HRL.out HR7.out hmc HRO.out (by omega) (by have := HMAX.out; omega) HX2.out HHB.out).mono ?_
              rintro e1 w1 ⟨rfl, hd⟩
              have HR8 := Aside0.mk (Kd.C_below HR7.out hd.below)
              have HO8 := Aside0.mk (Kd.S_below HO.out hd.below)
              have HB8 := Aside0.mk (below_step HB.out hd.below)
              clear hd HR7 HO HB
              cases hb with
              | false =>
                have HT1 := Aside0.mk (HSK.out (by rw [HD0.out, if_pos rfl]))
                clear HD0 HHB hhn
                go_wp2_with fail
                go_quiet (fail)
                obtain ⟨W3, hW3⟩ : ∃ W3 : World, W3 = w1.drewN nq := ⟨_, rfl⟩
                rw [← hW3]
                have HO9 := Aside0.mk (show Kd.S (Kd.slice 5 (Kd.int .u8)) 22 W3 w.heap.size (fun _ => True) u4 B from hW3 ▸ Kd.S_drewN HO8.out nq)
                have HB9 := Aside0.mk (show Below w.heap.size w W3 from hW3 ▸ pw_below_drewN HB8.out nq)
                clear hW3 HO8 HB8
                go_wp2
                go_roundw
                case rel => exact ⟨k + 1, B, sk + 1, by omega, by go_num, by go_num, by omega, by omega, HT1, HO9, HB9⟩
                case measure => simp [intOf]; omega
              | true =>
                have hx2 := hhn rfl
                clear hhn
                have wn : wrap64 (x + 14) = x + 14 := by unfold wrap64; omega
                have w10 : wrap64 (10 + x) = 10 + x := by unfold wrap64; omega
                by_cases h14 : (m : Int) < x + 14
                · have hd : dec R = .wait := by rw [HD0.out, if_neg (by simp), if_pos (by omega)]
                  obtain ⟨hw1, hw2⟩ := HWT.out hd
                  have HXX := Aside0.mk hw1
                  subst hw2
                  clear hw1 hd
                  go_wp2
                  go_ret2
                  exact ⟨_, rfl, by rw [← HXX.out]; exact HO8.out, HB8.out⟩
                · obtain ⟨q, hq⟩ : ∃ q : Nat, q = 10 + x.toNat := ⟨_, rfl⟩
                  have hqx : 10 + x = (q : Int) := by omega
                  have hqm : q + 4 ≤ m := by omega
                  have hm6 := HMAX.out
                  have hwd := from4_eq R HRO.out (q : Int) (by omega) (by rw [HRL.out]; omega) (by rw [HRL.out]; omega)
                  rw [Int.toNat_natCast] at hwd
                  have hends : endsB (R.take (x.toNat + 14)) = decide (wordAt R q = sumW (R.take q)) := by
                    have hl : (R.take (x.toNat + 14)).length = x.toNat + 14 := by rw [List.length_take, HRL.out]; omega
                    unfold endsB
                    rw [hl, show x.toNat + 14 - 4 = q by omega, List.take_take, Nat.min_eq_left (by omega)]
                    rw [word_same (R.take (x.toNat + 14)) R q (fun j hj => by
                      have := rd_left (R.take (x.toNat + 14)) (R.drop (x.toNat + 14)) (q + j) (by omega)
                      rw [List.take_append_drop] at this
                      exact this.symm)]
                  obtain ⟨y, hy⟩ : ∃ y, y = wordAt R q := ⟨_, rfl⟩
                  obtain ⟨sm, hsm⟩ : ∃ y, sumW (R.take q) = y := ⟨_, rfl⟩
                  rw [← hy] at hwd hends
                  rw [hsm] at hends
                  have HW := Aside0.mk hwd
                  have HSM := Aside0.mk hsm
                  have HQX := Aside0.mk hqx
                  have HTO := Aside0.mk (bytesOk_take HRO.out q)
                  have HTL := Aside0.mk (show (R.take q).length = q by rw [List.length_take, HRL.out]; omega)
                  obtain ⟨hcutt, hCt⟩ := cutt8 (A := some ad) (n := m) (c := c7) (xs := R) q (by omega) hmc
                  rw [← hqx] at hcutt
                  have HCt := Aside0.mk hCt
                  have HQC := Aside0.mk (show q ≤ c7 by omega)
                  have HQM := Aside0.mk (show q ≤ 1000000000 by omega)
                  have HMC := Aside0.mk hmc
                  have HQ := Aside0.mk hq
                  have HD1 := Aside0.mk (show dec R = if decide (y = sm) = false then .skip else .body x.toNat by rw [HD0.out, if_neg (by simp), if_neg (by omega), hends])
                  have h14b : decide ((m : Int) < x + 14) = false := decide_eq_false h14
                  clear hwd hsm hCt hends hy HD0 hq hqx
                  by_cases h4 : y = sm
                  · have k4 : (y != sm) = false := bne_eq_false_iff_eq.mpr h4
                    have k5 : (y == sm) = true := beq_iff_eq.mpr h4
                    have HT1 := Aside0.mk (HBD.out x.toNat (by rw [HD1.out, decide_eq_true h4, if_neg (by simp)]))
                    clear h4 HD1
                    go_wp2_with fail
                    go_quiet (first | (go_at_call 60; rw [HQX.out]; exact Drawn0.quiet (from4_N (some ad) c7 m R q y _ HRL.out (by repeat (first | exact HR8.out | apply Kd.C_drewN | apply Kd.C_drew)) HMC.out HW.out)) | (go_at_call 24; exact Drawn0.quiet (refsum_N (some ad) c7 q (R.take q) sm _ HTL.out (HCt.out _ (by repeat (first | exact HR8.out | apply Kd.C_drewN | apply Kd.C_drew))) HQC.out HTO.out HQM.out HSM.out)))
                    obtain ⟨W3, hW3⟩ : ∃ W3 : World, W3 = w1.drewN nq := ⟨_, rfl⟩
                    rw [← hW3]
                    have HO9 := Aside0.mk (show Kd.S (Kd.slice 5 (Kd.int .u8)) 22 W3 w.heap.size (fun _ => True) u4 B from hW3 ▸ Kd.S_drewN HO8.out nq)
                    have HB9 := Aside0.mk (show Below w.heap.size w W3 from hW3 ▸ pw_below_drewN HB8.out nq)
                    have HR9 := Aside0.mk (show C8 W3 (some ad) m R from hW3 ▸ Kd.C_drewN HR8.out nq)
                    clear hW3 HO8 HB8 HR8
                    have hx14 : x.toNat + 14 ≤ m := by have := HQ.out; omega
                    go_wp2_with (with_reducible refine stop_slice rfl ?_)
                    refine mid8 rfl _ _ _ rfl rfl rfl rfl (by omega) (by omega) (by omega) HMC.out HR9.out ?_
                    intro A10 hr10
                    obtain ⟨p, hp⟩ : ∃ p, p = (R.take (10 + x).toNat).drop (10 : Int).toNat := ⟨_, rfl⟩
                    obtain ⟨pn, hpn⟩ : ∃ j, j = (10 + x).toNat - (10 : Int).toNat := ⟨_, rfl⟩
                    rw [← hp, ← hpn] at hr10
                    rw [← hpn]
                    have HPN := Aside0.mk (show pn ≤ 1000000 by have := HMAX.out; omega)
                    have HP := Aside0.mk (show (R.drop 10).take x.toNat = p by
                      rw [hp, List.drop_take]
                      congr 1
                      omega)
                    rw [HP.out] at HT1
                    have HC10 := Aside0.mk hr10
                    clear hr10 hp hpn
                    go_wp2_with (with_reducible refine stop_append rfl ?_)
                    refine app8 (v := .slice none 0 0) W3 W3.heap.size rfl _ _ rfl rfl rfl (Kd.R_nil _ _ _ _ _) HC10.out (Below.refl _ _) (Nat.le_refl _) (by have := HPN.out; simp; omega) ?_
                    intro v11 w11 ho hb hg hat
                    replace ho : R8 w11 W3.heap.size v11 p := ho
                    have HOE := Aside0.mk (Kd.S_elder' HO9.out (Kd.R_base ho) hb)
                    have HNE := Aside0.mk (show ∀ k_, some k_ = v11.ownBlock → True ∧ some k_ ≠ (u4 : Value).ownBlock from fun k_ hk_ => ⟨trivial, fun he => by
                      have h1 := Kd.R_base ho k_ hk_.symm
                      have h2 := Kd.S_lt HO9.out k_ he.symm
                      omega⟩)
                    have HR11 := Aside0.mk (show R8 w11 w.heap.size v11 p from Kd.R_lower ho HB9.out.size)
                    have HB11 := Aside0.mk (below_then HB9.out HB9.out.size hb)
                    obtain ⟨A11, c11, rfl, hl11, _⟩ := Kd.R_reads ho
                    clear ho hb hg hat HO9 HB9 HR9 HC10
                    go_wp2_with (with_reducible refine stop_append rfl ?_)
                    refine Kd.S_append (Kd.slice 5 (Kd.int .u8)) (w0 := w) w.heap.size rfl (.tmp 81) (.tmp 83) 37 22 (.slice none 0 0) 24 rfl Try.underlying37 info22 rfl (by decide) (by omega) u4 B p [.slice A11 p.length c11] (fun _ => True) (fun k_ => some k_ = (Value.slice A11 p.length c11).ownBlock) rfl rfl (Kd.M_row (R8_ok' HR11.out (fun k_ h => h.symm))) HNE.out (fun _ _ => trivial) (Kd.S_mono HOE.out (fun k_ hk_ => ⟨trivial, fun e => hk_.2 e⟩)) HB11.out HB11.out.size (by have := HMAX.out; omega) ?_
                    intro v12 w12 ho hb hg hat
                    have HO12 := Aside0.mk ho
                    have HB12 := Aside0.mk hb
                    clear ho hb hg hat HOE HNE HR11 HB11
                    go_wp2
                    go_roundw
                    case rel => exact ⟨k + x.toNat + 14, B ++ [p], sk, by omega, by go_num, rfl, by omega, by simp; omega, HT1, HO12, HB12⟩
                    case measure => simp [intOf]; omega
                  · have k4 : (y != sm) = true := bne_iff_ne.mpr h4
                    have k5 : (y == sm) = false := beq_eq_false_iff_ne.mpr h4
                    have HT1 := Aside0.mk (HSK.out (by rw [HD1.out, decide_eq_false h4, if_pos rfl]))
                    clear h4 HD1
                    go_wp2_with fail
                    go_quiet (first | (go_at_call 60; rw [HQX.out]; exact Drawn0.quiet (from4_N (some ad) c7 m R q y _ HRL.out (by repeat (first | exact HR8.out | apply Kd.C_drewN | apply Kd.C_drew)) HMC.out HW.out)) | (go_at_call 24; exact Drawn0.quiet (refsum_N (some ad) c7 q (R.take q) sm _ HTL.out (HCt.out _ (by repeat (first | exact HR8.out | apply Kd.C_drewN | apply Kd.C_drew))) HQC.out HTO.out HQM.out HSM.out)))
                    obtain ⟨W3, hW3⟩ : ∃ W3 : World, W3 = w1.drewN nq := ⟨_, rfl⟩
                    rw [← hW3]
                    have HO9 := Aside0.mk (show Kd.S (Kd.slice 5 (Kd.int .u8)) 22 W3 w.heap.size (fun _ => True) u4 B from hW3 ▸ Kd.S_drewN HO8.out nq)
                    have HB9 := Aside0.mk (show Below w.heap.size w W3 from hW3 ▸ pw_below_drewN HB8.out nq)
                    clear hW3 HO8 HB8
                    go_wp2
                    go_roundw
                    case rel => exact ⟨k + 1, B, sk + 1, by omega, by go_num, by go_num, by omega, by omega, HT1, HO9, HB9⟩
                    case measure => simp [intOf]; omega
          · have k1 : (b1 != 58) = true := bne_iff_ne.mpr h3
            have hd : dec R = .skip := by
              unfold dec opens
              rw [HRL.out, if_neg (by omega), ← hb1, decide_eq_false h3, decide_eq_false h1]
              simp
            have HT1 := Aside0.mk (HSK.out hd)
            clear h3 hb1 hd
            go_wp2
            go_roundw
            case rel => exact ⟨k + 1, B, sk + 1, by omega, by go_num, by go_num, by omega, by omega, HT1, HO, HB⟩
            case measure => simp [intOf]; omega
      · have k0 : (b0 != 197) = true := bne_iff_ne.mpr h0
        have hd : dec R = .skip := by
          unfold dec opens
          rw [HRL.out, if_neg (by omega), ← hb0, decide_eq_false h0, Bool.false_and, if_pos rfl]
        have HT1 := Aside0.mk (HSK.out hd)
        clear h0 hb0 hd
        go_wp2
        go_roundw
        case rel => exact ⟨k + 1, B, sk + 1, by omega, by go_num, by go_num, by omega, by omega, HT1, HO, HB⟩
        case measure => simp [intOf]; omega
    · have hkk : k = n := by omega
      subst hkk
      have hw := told_wait HT.out (by rw [List.drop_eq_nil_of_le (by rw [HN.out]; omega)]; rfl)
      have HXX := Aside0.mk (show B = X by rw [HX.out]; exact hw.1)
      have hyy : sk = Y := by rw [HY.out]; exact hw.2
      subst hyy
      clear hw
      go_wp2
      go_ret2
      exact ⟨_, rfl, by rw [← HXX.out]; exact HO.out, HB.out⟩
end Go.Proofs.Ytnanaojjhmpilaa.PW
