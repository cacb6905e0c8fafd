/- Streams: Feed. -/
import Derived.Test.YtnanaojjhmpilaaS6
import Derived.Outline
namespace Go.Proofs.Ytnanaojjhmpilaa.PW
open Go.RowKit Go.Proofs.YtnanaojjhmpilaaW.PrintWords Go.Proofs.YtnanaojjhmpilaaW.PrintLast Go.Proofs.YtnanaojjhmpilaaW.PrintMore
set_option linter.unusedVariables false
set_option linter.unusedSimpArgs false

theorem scan_left_adv (l : List Int) (k : Nat) {D : Dec} (hd : dec (l.drop k) = D) : (scan (l.drop (k + adv D))).2.2 = (scan (l.drop k)).2.2 := by
  cases D with
  | wait => rfl
  | skip => rw [scan_skip hd, List.drop_drop]; rfl
  | body n =>
    rw [scan_body hd]
    simp only [adv, List.drop_drop]
theorem below_of_grown {w w1 : World} {row : Option Nat} {B : Nat} (hg : w.grownBy w1 row) (hB : B ≤ w.heap.size) (h : ∀ k, row = some k → B ≤ k) : Below B w w1 := (Below.refl B w).grown hg hB h
theorem copied {l : List Int} {k m : Nat} (hm : m = l.length - k) : ((l.drop k).take l.length ++ l.drop m).take m = l.drop k := by
  have h1 : (l.drop k).take l.length = l.drop k := List.take_of_length_le (by rw [List.length_drop]; omega)
  rw [h1, List.take_append_of_le_length (by rw [List.length_drop]; omega), List.take_of_length_le (by rw [List.length_drop]; omega)]

theorem own_len (A : Option Addr) (n m c c' : Nat) : (Value.slice A n c).ownBlock = (Value.slice A m c').ownBlock := by cases A <;> rfl
theorem strm_adv {wr w3 : World} {base b sk1 : Nat} {ok okf2 : Nat → Prop} {vo vf3 : Value} {l : List Int} {fs1 : List (List Int)} (hbb : base ≤ b) (hob : ok b) (hb : b < wr.heap.size) (hro : Kd.R (Kd.int .u8) 5 wr base (fun k => ok k ∧ k ≠ b ∧ ¬ okf2 k) vo l)
    (hof : ∀ k, okf2 k → ok k ∧ k ≠ b) (hfresh : ∀ k, wr.heap.size ≤ k → ok k) (hb4 : w3.heap[b]? = some (.cells #[vo, vf3, .int .i64 (sk1 : Int)] 53 (0, 0))) (hq4 : SQ (Kd.slice 5 (Kd.int .u8)) 22 w3 base (fun k => okf2 k ∨ wr.heap.size ≤ k) vf3 fs1) (hf4 : Frm wr w3 (fun k => k = b ∨ okf2 k)) : Strm w3 base ok b l fs1 sk1 :=
  ⟨hbb, hob, vo, vf3, _, hb4, Kd.R_mono (R_frm (Kd.R_bound hro) hf4 (fun k hk h2 => h2.elim hk.1.2.1 hk.1.2.2)) (fun k hk => ⟨hk.1.1, hk.1.2.1, fun h2 => h2.elim hk.1.2.2 (fun h3 => by have := hk.2.2.1; omega)⟩), hq4,
    fun k hk => hk.elim (hof k) (fun h2 => ⟨hfresh k h2, by omega⟩)⟩

def rg39.T6 : Bool × List (List Nat × List Nat) := (true, [([], []), ([0], [0]), ([1], [1]), ([2], [2]), ([], []), ([4], [4]), ([5], [5]), ([6], [6]), ([], []), ([7, 8], [7, 8]), ([3, 9], [3, 9]), ([10, 10, 0, 1, 2, 3, 4, 5, 6, 7, 8, 9, 10], [10])])
def rg39.B6 : List Nat := [0, 1, 3, 7, 0, 16, 48, 112, 0, 496, 1023, 2047]
theorem rg39.tab6 : rtab .any (opsOf Try.f39 6) = rg39.T6 := by kernel_rfl
theorem rg39.bits6 : waitsOk rg39.T6.2 rg39.B6 = true := by kernel_rfl
set_option maxHeartbeats 16000000 in
set_option maxRecDepth 100000 in
theorem feed_M (b base : Nat) (ok : Nat → Prop) (A0 : Option Addr) (c0 n sk : Nat) (X op l : List Int) (fs : List (List Int)) (w : World) (hn : X.length = n) (hr : C8 w A0 n X) (hc : n ≤ c0) (hok : bytesOk l = true)
    (hS : Strm w base ok b op fs sk) (hbase : base ≤ w.heap.size) (hl : op ++ X = l) (hm : l.length ≤ 1000000) (hfl : fs.length + l.length ≤ 1000000) (hsk : sk + l.length ≤ 1000000000) :
    Calls Try.prog 39 #[.pointer (some ⟨b, 0, none⟩), .slice A0 n c0] w fun e w' => (∃ v, e = .returned v) ∧ Strm w' base (fun k => ok k ∨ w.heap.size ≤ k) b (scan l).2.2 (fs ++ (scan l).1) (sk + (scan l).2.1) ∧ Frm w w' ok := by
  have HN := Aside0.mk hn
  have HR0 := Aside0.mk hr
  have HC0 := Aside0.mk hc
  have HOK := Aside0.mk hok
  have HMX := Aside0.mk (And.intro hm (And.intro hfl hsk))
  have HBS := Aside0.mk hbase
  have HL := Aside0.mk hl
  obtain ⟨hb0, hob, vo, vf, okf, hb, hro, hq, hof⟩ := hS
  have HOF := Aside0.mk hof
  have HOB := Aside0.mk hob
  have HBB := Aside0.mk hb0
  have HRO := Aside0.mk hro
  have HQ := Aside0.mk hq
  have HB := Aside0.mk hb
  have hcell0 := blk_cell hb 0
  simp only [List.getElem?_toArray, List.getElem?_cons_zero] at hcell0
  obtain ⟨Ao, co, rfl, hlo, hro'⟩ := Kd.R_reads hro
  have hlen : op.length + n ≤ 1000000 := by rw [← hl, List.length_append, hn] at hm; exact hm
  have HLN := Aside0.mk hlen
  clear hn hr hc hok hm hfl hsk hbase hl hob hof hro hq hro' hlo hlen hb0 hb
  go_enter Try.func39, Try.ntmps39
  go_wp2_with (with_reducible refine stop_append rfl ?_)
  refine app8 (v := .slice Ao op.length co) w base rfl (.tmp 13) (.tmp 14) rfl rfl rfl (Kd.R_mono HRO.out (fun _ _ => trivial)) HR0.out (Below.refl _ _) HBS.out (by have := HLN.out; omega) ?_
  intro v1 w1 ho1 hb1 hg1 hat1
  rw [HL.out] at ho1
  have hbw := blk_lt HB.out
  have hb2 := blk_grown HB.out hg1 (fun e => (HRO.out.1 b e.symm).2.1 rfl)
  have HRL := Aside0.mk (show ∀ k, v1.ownBlock = some k → (ok k ∨ w.heap.size ≤ k) ∧ k ≠ b ∧ ¬ (okf k ∧ k < w.heap.size) from fun k hk => by
    rcases hat1 with h | ⟨b', h, h2⟩
    · have := HRO.out.1 k (h ▸ hk)
      exact ⟨.inl this.1, this.2.1, fun h3 => this.2.2 h3.1⟩
    · have : b' = k := by rw [hk] at h; exact (Option.some.inj h).symm
      subst this
      exact ⟨.inr h2, by omega, fun h3 => by omega⟩)
  have HO1 := Aside0.mk (R8_ok' ho1 HRL.out)
  have HQ1 := Aside0.mk (show SQ (Kd.slice 5 (Kd.int .u8)) 22 w1 base (fun k => okf k ∧ k < w.heap.size) vf fs from
    SQ_mono (SQ_frm (SQ_bound HQ.out) (Frm.of_grown (S := fun k => (Value.slice Ao op.length co).ownBlock = some k) hg1 (fun k hk => hk)) (fun k hk h2 => (HRO.out.1 k h2).2.2 hk.1)) (fun k hk => ⟨hk.1, hk.2.2.1⟩))
  have HF1 := Aside0.mk (show Frm w w1 ok from Frm.of_grown hg1 (fun k hk => (HRO.out.1 k hk).1))
  have HB2 := Aside0.mk hb2
  have hcell1 := blk_cell hb2 0
  have hfz1 := blk_frozen hb2 0
  simp only [List.getElem?_toArray, List.getElem?_cons_zero] at hcell1
  obtain ⟨A1, c1, rfl, _⟩ := Kd.R_reads ho1
  clear ho1 hb1 hg1 hat1 hb2 hcell0
  go_wp2
  obtain ⟨W1, hW1⟩ : ∃ W : World, W = w1.setCell ⟨b, 0, none⟩ (.slice A1 l.length c1) := ⟨_, rfl⟩
  rw [← hW1]
  have HFR := Aside0.mk (show Frm w W1 ok by rw [hW1]; exact HF1.out.set_ (.inl HOB.out) _)
  have HST := Aside0.mk (show Strm W1 base (fun k => ok k ∨ w.heap.size ≤ k) b l fs sk by
    rw [hW1]
    refine ⟨HBB.out, .inl HOB.out, _, vf, (fun k => okf k ∧ k < w.heap.size), by simpa using blk_set HB2.out 0 (.slice A1 l.length c1), Kd.R_far HO1.out (fun k hk => hk.2.1) _, SQ_step HQ1.out (fun k hk _ => Below.heap_setCell w1 _ _ k (HOF.out k hk.1).2), fun k hk => ⟨.inl (HOF.out k hk.1).1, (HOF.out k hk.1).2⟩⟩)
  clear hW1 hcell1 hfz1
  go_loopw [4] (fun v4 wr => ∃ (k : Nat) (B : List (List Int)) (s : Nat), k ≤ l.length ∧ v4 = .int .i64 (k : Int) ∧ B.length + s ≤ k ∧ Aside0 (Told l k B s ∧ (scan (l.drop k)).2.2 = (scan l).2.2) ∧ Aside0 (Strm wr base (fun k => ok k ∨ w.heap.size ≤ k) b l (fs ++ B) (sk + s)) ∧ Aside0 (Frm w wr ok)) (fun v4 _ => l.length - (intOf v4).toNat)
  case atStart => exact ⟨0, [], 0, Nat.zero_le _, rfl, by simp, ⟨told_zero l, by simp⟩, ⟨by simpa using HST.out⟩, HFR⟩
  case round =>
    obtain ⟨k, B, s, hk, rfl, hBs, HT, HS, HF⟩ := hrel
    obtain ⟨_, _, vo2, vf2, okf2, hb3, hro3, hq3, hof3⟩ := HS.out
    obtain ⟨A2, c2, rfl, hlc2, hrd2⟩ := Kd.R_reads hro3
    have HRO3 := Aside0.mk hro3
    have HQ3 := Aside0.mk hq3
    have HOF3 := Aside0.mk hof3
    have HB3 := Aside0.mk hb3
    have HC2 := Aside0.mk hrd2
    have hcell3 := blk_cell hb3 0
    have hfz3 := blk_frozen hb3 0
    simp only [List.getElem?_toArray, List.getElem?_cons_zero] at hcell3
    have HLC := Aside0.mk hlc2
    obtain ⟨D, hD⟩ : ∃ D, dec (l.drop k) = D := ⟨_, rfl⟩
    have HD := Aside0.mk hD
    have hmx := HMX.out.1
    have hkl : (k : Int) ≤ (l.length : Int) := by omega
    clear hro3 hq3 hof3 hb3 hrd2 hD
    go_wp2_with (with_reducible refine stop_slice rfl ?_)
    refine from8 rfl _ _ rfl rfl rfl (by omega) (by omega) HLC.out HC2.out ?_
    intro A7 hr7
    rw [Int.toNat_natCast] at hr7 ⊢
    obtain ⟨m, hm⟩ : ∃ m, m = l.length - k := ⟨_, rfl⟩
    obtain ⟨c7, hc7⟩ : ∃ c, c = c2 - k := ⟨_, rfl⟩
    obtain ⟨q, hq⟩ : ∃ q, q = adv D := ⟨_, rfl⟩
    obtain ⟨R, hR⟩ : ∃ R, R = l.drop k := ⟨_, rfl⟩
    rw [← hR, ← hm] at hr7
    rw [← hm, ← hc7]
    have HR7 := Aside0.mk hr7
    have HMK := Aside0.mk hm
    have HRK := Aside0.mk hR
    have HQA := Aside0.mk hq
    have hqm : q ≤ m := by
      have h1 := adv_le HD.out
      rw [List.length_drop] at h1
      omega
    have hkm : k + m = l.length := by omega
    have hRL : R.length = m := by rw [hR, List.length_drop]; exact hm.symm
    have hRO : bytesOk R = true := by rw [hR]; exact bytesOk_drop HOK.out k
    have hRD : dec R = D := by rw [hR]; exact HD.out
    have HSQ := Aside0.mk (decide_S (D := D) b base (.slice A2 l.length c2) vf2 A7 c7 m (sk + s) R (fs ++ B) okf2 wr hRL hr7 (by omega) hRO (by omega) (by have := HMX.out; omega)
      HB3.out HQ3.out (by have := HMX.out; rw [List.length_append]; omega) (Nat.le_trans HBS.out HF.out.size) (fun k hk => (HOF3.out k hk).2) hRD)
    have HRO := Aside0.mk hRL
    clear hr7 hm hc7 hR hRL hRO hRD
    by_cases hw : D = .wait
    · have kq : ((q : Int) == 0) = true := by rw [hq, hw]; rfl
      have HW := Aside0.mk hw
      clear hq hw
      go_wp2_with fail
      refine HSQ.out.mono ?_
      rintro e w3 ⟨rfl, vf3, hb4, hq4, hf4⟩
      rw [← HQA.out]
      have hS4 := strm_adv HBB.out (.inl HOB.out) (blk_lt HB3.out) HRO3.out HOF3.out (fun k hk => .inr (Nat.le_trans HF.out.size hk)) hb4 hq4 hf4
      obtain ⟨ht1, ht2⟩ := told_wait HT.out.1 (HD.out.trans HW.out)
      have ht3 := HT.out.2
      rw [scan_wait (HD.out.trans HW.out)] at ht3
      rw [HW.out, ht1, ht2] at hS4
      simp only [bodOf, skOf, List.append_nil, Nat.add_zero] at hS4
      obtain ⟨_, _, vo4, vf4, okf4, hb5, hro5, hq5, hof5⟩ := hS4
      obtain ⟨A4, c4, rfl, hlc4, hrd4⟩ := Kd.R_reads hro5
      have HF5 := Aside0.mk (show Frm w w3 ok from HF.out.then_ hf4 (fun k hk hlt => hk.elim (fun e => e ▸ HOB.out) (fun h => (HOF3.out k h).1.elim (fun h => h) (fun h => by omega))))
      have hcell5 := blk_cell hb5 0
      have hfz5 := blk_frozen hb5 0
      simp only [List.getElem?_toArray, List.getElem?_cons_zero] at hcell5
      have HTX := Aside0.mk ht3
      have HB5 := Aside0.mk hb5
      have HRO5 := Aside0.mk hro5
      have HQ5 := Aside0.mk hq5
      have HOF5 := Aside0.mk hof5
      obtain ⟨A6, hcutf, hCf'⟩ := cutf8 (A := A4) (n := l.length) (c := c4) (xs := l) k (by omega) hlc4
      rw [show l.length - k = m by omega] at hcutf hCf'
      have HC5 := Aside0.mk (hCf' w3.drew (Kd.C_drew hrd4))
      clear hb4 hq4 hf4 ht1 ht2 ht3 hb5 hro5 hq5 hof5 hrd4 hCf' HSQ HT HS HF HRO3 HQ3 HOF3 HB3 HC2
      have hcell6 : w3.drew.cell? ⟨b, 0, none⟩ = some (.slice A4 l.length c4) := by rw [World.cell?_drew]; exact hcell5
      have HO6 := Aside0.mk (show R8 w3.drew base (.slice A4 l.length c4) l from Kd.R_mono (Kd.R_drew HRO5.out) (fun _ _ => trivial))
      have HBD := Aside0.mk (show Below base w3.drew w3.drew from Below.refl _ _)
      have HML := Aside0.mk (show m ≤ l.length by omega)
      go_wp2
      refine start_ (n := 12) (S := fun w' => w'.cell? ⟨b, 0, none⟩ = some (.slice A4 l.length c4)) (ds := []) #[false, false, false, false, false, false, false, false, false, false, false, false] (by kernel_rfl) rfl rfl (hcell6) (fun hHeld => ?_)
      refine with_tabW rg39.tab6 rg39.bits6 (fun HT_ HW_ => ?_)
      refine pure_ (i := 0) (N := some 31) (v := ?_) (a' := ?_) #[true, false, false, false, false, false, false, false, false, false, false, false] rfl rfl (any_of HT_.out (by kernel_rfl)) (fun _ _ _ h => h) (Or.inl ⟨by rfl, ?_⟩) ?_ ?_
      rotate_left
      · intro w'
        go_simp
        with_reducible rfl
      rotate_left
      · simp only [Act.put, List.setIfInBounds_toArray, List.set_cons_zero, List.set_cons_succ, i64_w, i32_w]
        rfl
      refine pure_ (i := 1) (N := some 32) (v := ?_) (a' := ?_) #[true, true, false, false, false, false, false, false, false, false, false, false] rfl rfl (any_of HT_.out (by kernel_rfl)) (fun _ _ _ h => h) (Or.inl ⟨by rfl, ?_⟩) ?_ ?_
      rotate_left
      · intro w'
        go_simp
        with_reducible rfl
      rotate_left
      · simp only [Act.put, List.setIfInBounds_toArray, List.set_cons_zero, List.set_cons_succ, i64_w, i32_w]
        rfl
      refine pure_ (i := 2) (N := some 33) (v := ?_) (a' := ?_) #[true, true, true, false, false, false, false, false, false, false, false, false] rfl rfl (any_of HT_.out (by kernel_rfl)) (fun _ _ _ h => h) (Or.inl ⟨by rfl, ?_⟩) ?_ ?_
      rotate_left
      · intro w'
        go_simp
        with_reducible rfl
      rotate_left
      · simp only [Act.put, List.setIfInBounds_toArray, List.set_cons_zero, List.set_cons_succ, i64_w, i32_w]
        rfl
      refine pure_ (i := 4) (N := some 35) (v := ?_) (a' := ?_) #[true, true, true, false, true, false, false, false, false, false, false, false] rfl rfl (any_of HT_.out (by kernel_rfl)) (fun _ _ _ h => h) (Or.inl ⟨by rfl, ?_⟩) ?_ ?_
      rotate_left
      · intro w'
        go_simp
        with_reducible rfl
      rotate_left
      · simp only [Act.put, List.setIfInBounds_toArray, List.set_cons_zero, List.set_cons_succ, i64_w, i32_w]
        rfl
      refine pure_ (i := 5) (N := some 36) (v := ?_) (a' := ?_) #[true, true, true, false, true, true, false, false, false, false, false, false] rfl rfl (any_of HT_.out (by kernel_rfl)) (fun _ _ _ h => h) (Or.inl ⟨by rfl, ?_⟩) ?_ ?_
      rotate_left
      · intro w'
        go_simp
        with_reducible rfl
      rotate_left
      · simp only [Act.put, List.setIfInBounds_toArray, List.set_cons_zero, List.set_cons_succ, i64_w, i32_w]
        rfl
      refine pure_ (i := 6) (N := some 37) (v := ?_) (a' := ?_) #[true, true, true, false, true, true, true, false, false, false, false, false] rfl rfl (any_of HT_.out (by kernel_rfl)) (fun _ _ _ h => h) (Or.inl ⟨by rfl, ?_⟩) ?_ ?_
      rotate_left
      · intro w'
        go_simp
        with_reducible rfl
      rotate_left
      · simp only [Act.put, List.setIfInBounds_toArray, List.set_cons_zero, List.set_cons_succ, i64_w, i32_w]
        rfl
      refine pure_ (i := 8) (N := some 39) (v := ?_) (a' := ?_) #[true, true, true, false, true, true, true, false, true, false, false, false] rfl rfl (any_of HT_.out (by kernel_rfl)) (fun _ _ _ h => h) (Or.inl ⟨by rfl, ?_⟩) ?_ ?_
      rotate_left
      · intro w'
        go_simp
        with_reducible rfl
      rotate_left
      · simp only [Act.put, List.setIfInBounds_toArray, List.set_cons_zero, List.set_cons_succ, i64_w, i32_w]
        rfl
      refine take_ (i := 3) (N := some 34) (v := ?_) (a' := ?_) #[true, true, true, true, true, true, true, false, true, false, false, false] rfl rfl (take_ofW HT_.out HW_.out (by kernel_rfl)) (fun _ _ _ h => h) (Or.inl ⟨by rfl, ?_⟩) hHeld ?_ ?_
      rotate_left
      · intro w' s0
        go_simp
        with_reducible rfl
      rotate_left
      · simp only [Act.put, List.setIfInBounds_toArray, List.set_cons_zero, List.set_cons_succ, i64_w, i32_w]
        rfl
      refine take_ (i := 7) (N := some 38) (v := ?_) (a' := ?_) #[true, true, true, true, true, true, true, true, true, false, false, false] rfl rfl (take_ofW HT_.out HW_.out (by kernel_rfl)) (fun _ _ _ h => h) (Or.inl ⟨by rfl, ?_⟩) hHeld ?_ ?_
      rotate_left
      · intro w' s0
        go_simp
        with_reducible rfl
      rotate_left
      · simp only [Act.put, List.setIfInBounds_toArray, List.set_cons_zero, List.set_cons_succ, i64_w, i32_w]
        rfl
      refine pure_ (i := 9) (N := some 40) (v := ?_) (a' := ?_) #[true, true, true, true, true, true, true, true, true, true, false, false] rfl rfl (any_of HT_.out (by kernel_rfl)) (fun _ _ _ h => h) (Or.inl ⟨by rfl, ?_⟩) ?_ ?_
      rotate_left
      · intro w'
        go_simp
        with_reducible rfl
      rotate_left
      · simp only [Act.put, List.setIfInBounds_toArray, List.set_cons_zero, List.set_cons_succ, i64_w, i32_w]
        rfl
      refine one_ (i := 10) (N := some 41) #[true, true, true, true, true, true, true, true, true, true, true, false] rfl rfl (one_of HT_.out (by kernel_rfl)) (by decide) (fun K hK => ?_)
      refine copy8_step w3.drew base (by rfl) rfl (.tmp 34) (.tmp 40) rfl rfl rfl HO6.out HC5.out HBD.out ?_
      intro w5 ho5 hb5 hg5
      rw [Nat.min_eq_left HML.out]
      have hcell7 : w5.cell? ⟨b, 0, none⟩ = some (.slice A4 l.length c4) := hg5.cell hcell6 (fun e => (HRO5.out.1 b e.symm).2.1 rfl)
      have HO7 := Aside0.mk ho5
      have HG7 := Aside0.mk hg5
      clear ho5 hb5 hg5
      refine hK.out _ _ (hcell7) (fun hHeld => ?_)
      clear hK K
      refine norm_ (a' := ?_) ?_ ?_
      rotate_left
      · show Act.put _ (some 41) _ = _
        simp only [Act.put, List.setIfInBounds_toArray, List.set_cons_zero, List.set_cons_succ, i64_w, i32_w]
        rfl
      refine pure_ (i := 11) (N := some 6) (v := ?_) (a' := ?_) #[true, true, true, true, true, true, true, true, true, true, true, true] rfl rfl (any_of HT_.out (by kernel_rfl)) (fun _ _ _ h => h) (Or.inl ⟨by rfl, ?_⟩) ?_ ?_
      rotate_left
      · intro w'
        go_simp
        with_reducible rfl
      rotate_left
      · simp only [Act.put, List.setIfInBounds_toArray, List.set_cons_zero, List.set_cons_succ, i64_w, i32_w]
        rfl
      refine done_ (done_of HT_.out (by kernel_rfl)) ?_
      have hne7 : ∀ k_, (Value.slice A4 l.length c4).ownBlock = some k_ → k_ ≠ b := fun k_ hk_ => (HRO5.out.1 k_ hk_).2.1
      have hb7 : w5.heap[b]? = some (.cells #[.slice A4 l.length c4, vf4, .int .i64 ((sk + (scan l).2.1 : Nat) : Int)] 53 (0, 0)) := blk_grown (w := w3.drew) HB5.out HG7.out (fun e => hne7 b e.symm rfl)
      have hcell8 := blk_cell hb7 0
      have hfz8 := blk_frozen hb7 0
      simp only [List.getElem?_toArray, List.getElem?_cons_zero] at hcell8
      have HB7 := Aside0.mk hb7
      have HNE := Aside0.mk hne7
      have HMC := Aside0.mk (show m ≤ c4 by omega)
      have HKM := Aside0.mk (show m = l.length - k by omega)
      clear hb7 hne7 hcell5 hfz5 hcell6
      go_wp2_with (with_reducible refine stop_slice rfl ?_)
      refine to8 rfl _ _ rfl rfl rfl (by omega) (by have := HMC.out; omega) ?_
      rw [Int.toNat_natCast]
      go_wp2
      go_end0
      refine ⟨⟨_, rfl⟩, ?_, ?_⟩
      · have hr9 := Kd.R_take HO7.out (m := m) (by rw [List.length_append, List.length_take, List.length_drop, List.length_drop]; omega)
        rw [copied HKM.out, show l.drop k = (scan l).2.2 from HTX.out] at hr9
        refine ⟨HBB.out, .inl HOB.out, .slice A4 m c4, vf4, okf4, by simpa using blk_set HB7.out 0 (.slice A4 m c4), Kd.R_far (R8_ok' hr9 (fun k_ hk_ => HRO5.out.1 k_ ((own_len A4 l.length m c4 c4).trans hk_))) (fun k_ hk_ => hk_.2.1) _, ?_, HOF5.out⟩
        exact SQ_step (SQ_frm (w := w3) (w1 := w5) (S := fun k_ => (Value.slice A4 l.length c4).ownBlock = some k_) HQ5.out (Frm.of_grown (w := w3) ⟨HG7.out.os, HG7.out.tape, HG7.out.output, HG7.out.size, HG7.out.block⟩ (fun k_ hk_ => hk_)) (fun k_ hk_ h2 => (HRO5.out.1 k_ h2).2.2 hk_)) (fun k_ hk_ _ => Below.heap_setCell w5 _ _ k_ (HOF5.out k_ hk_).2)
      · refine Frm.set_ (HF5.out.then_ (w1 := w3) (S1 := fun k_ => (Value.slice A4 l.length c4).ownBlock = some k_) (Frm.of_grown (w := w3) ⟨HG7.out.os, HG7.out.tape, HG7.out.output, HG7.out.size, HG7.out.block⟩ (fun k_ hk_ => hk_)) (fun k_ hk_ hlt => (HRO5.out.1 k_ hk_).1.elim (fun h => h) (fun h => by omega))) (.inl HOB.out) _
    · have hq0 : 0 < q := by rw [hq]; exact adv_pos hw
      have kq : ((q : Int) == 0) = false := by simp; omega
      clear hq hw
      go_wp2_with fail
      refine HSQ.out.mono ?_
      rintro e w3 ⟨rfl, vf3, hb4, hq4, hf4⟩
      rw [← HQA.out]
      go_wp2
      go_roundw
      case rel =>
        refine ⟨k + q, B ++ bodOf R D, s + skOf D, by omega, by go_num, ?_, ?_, ⟨?_⟩, ⟨?_⟩⟩
        · have := bodOf_le R D
          have := HQA.out
          rw [List.length_append]
          omega
        · rw [HQA.out, HRK.out]
          exact ⟨told_adv HT.out.1 HD.out, (scan_left_adv l k HD.out).trans HT.out.2⟩
        · rw [← List.append_assoc, ← Nat.add_assoc]
          exact strm_adv HBB.out (.inl HOB.out) (blk_lt HB3.out) HRO3.out HOF3.out (fun k hk => .inr (Nat.le_trans HF.out.size hk)) hb4 hq4 hf4
        · exact HF.out.then_ hf4 (fun k hk hlt => hk.elim (fun e => e ▸ HOB.out) (fun h => (HOF3.out k h).1.elim (fun h => h) (fun h => by omega)))
      case measure => simp [intOf]; omega
end Go.Proofs.Ytnanaojjhmpilaa.PW
