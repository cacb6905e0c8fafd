/- The machine's side of functions, in one namespace: each function's call comes to what its Lean function tells. -/
import Derived.Test.YtdbniihjkiecbaaPWx0
import Derived.Test.YtdbniihjkiecbaaPWx6
import Derived.Test.YtdbniihjkiecbaaPWx12
import Derived.Test.YtdbniihjkiecbaaPWx13
import Derived.Test.YtdbniihjkiecbaaPWx14
import Derived.Test.YtdbniihjkiecbaaPWx15
namespace Go.Proofs.Ytdbniihjkiecbaa.PW
open Go.RowKit Go.Proofs.YtdbniihjkiecbaaW.PrintWords Go.Proofs.YtdbniihjkiecbaaW.PrintLast Go.Proofs.YtdbniihjkiecbaaW.PrintMore
attribute [local go_sem] max2_int min2_int max_two min_two max_three min_three max_four min_four   -- for this text's walks alone
set_option linter.unusedVariables false
set_option linter.unusedSimpArgs false

/-! ### note_EncodeEntry: function 52 -/
set_option maxHeartbeats 4000000 in
set_option maxRecDepth 100000 in
theorem writer_number (base g : Nat) (L : List Int) (v : Int) (w : World) (hP : PageAt w base 130 g L) (hbase : base ≤ w.heap.size) (hl : L.length ≤ 100000000000) (h0 : 0 ≤ v) (h1 : v ≤ 2147483647) :
    Calls Try.prog 79 #[.pointer (some ⟨g, 0, none⟩), .int .i64 v] w fun e w' => (∃ x, e = .returned x) ∧ PageAt w' base 130 g (L ++ (numEnc v).1) ∧ Frm w w' (pg w base g) := by
  obtain ⟨hbg, v0, hg, ho⟩ := hP
  have HG := Aside0.mk hg
  have HO := Aside0.mk ho
  have HLN := Aside0.mk (numEnc_len v)
  clear hg ho
  go_enter Try.func79, Try.ntmps79
  go_wp2_with fail
  refine (wire_Number.calls 20 v (numEnc v).1 (numEnc v).2 w (wire_Number.eq 20 (Nat.le_refl _) v)).mono ?_
  rintro e w1 ⟨v1, rfl, ho1, hb1⟩
  obtain ⟨A1, n1, c1, rfl, hn1, hc1⟩ := R8_form ho1
  have HC1 := Aside0.mk (R8_C ho1)
  have HB1 := Aside0.mk hb1
  have hg1 : w1.heap[g]? = some (.cells #[v0] 130 (0, 0)) := (hb1.block g (blk_lt HG.out)).trans HG.out
  have hc0 : w1.cell? ⟨g, 0, none⟩ = some v0 := blk_cell hg1 0
  have hE : (numEnc v).2 = 0 := by rw [numEnc_ok h0 h1]
  rw [hE]
  have HN1 := Aside0.mk hn1
  clear ho1 hb1 hE hn1 hg1
  go_wp2_with (with_reducible refine stop_append rfl ?_)
  refine app8 (v := v0) w1 base rfl _ _ rfl rfl rfl (R8_keep HO.out (fun k hk => HB1.out.block k (R8_lt HO.out k hk).2)) HC1.out (Below.refl _ _) (Nat.le_trans hbase HB1.out.size) (by have := HLN.out; have := HN1.out; omega) ?_
  intro v2 w2 ho2 hb2 hg2 hat
  have hw2 : w2.heap[g]? = some (.cells #[v0] 130 (0, 0)) := by
    have h1 : w1.heap[g]? = some (.cells #[v0] 130 (0, 0)) := (HB1.out.block g (blk_lt HG.out)).trans HG.out
    exact (hg2.block g (blk_lt h1) (fun e => absurd (typed_ne ⟨_, HG.out⟩ (own_type (R8_own HO.out) g e.symm)) (by decide))).trans h1
  have hc2 : w2.cell? ⟨g, 0, none⟩ = some v0 := blk_cell hw2 0
  have hf2 : w2.frozen? ⟨g, 0, none⟩ = false := blk_frozen hw2 0
  obtain ⟨A2, n2, c2, rfl, _, _⟩ := R8_form ho2
  have HO2 := Aside0.mk ho2
  have HG2 := Aside0.mk hg2
  clear ho2 hb2 hg2 hat hw2 hc0
  go_wp2
  refine bodyPost_end (results_none rfl _ _ _) rfl ?_
  exact ⟨⟨_, rfl⟩, page_end (by decide) hbg HG.out HO.out HB1.out HO2.out HG2.out⟩
set_option maxHeartbeats 4000000 in
set_option maxRecDepth 100000 in
theorem writer_text (base g : Nat) (L : List Int) (s : ByteArray) (w : World) (hP : PageAt w base 130 g L) (hbase : base ≤ w.heap.size) (hl : L.length ≤ 100000000000) (h0 : s.size ≤ 262144) :
    Calls Try.prog 90 #[.pointer (some ⟨g, 0, none⟩), .string s] w fun e w' => (∃ x, e = .returned x) ∧ PageAt w' base 130 g (L ++ (textEnc s).1) ∧ Frm w w' (pg w base g) := by
  obtain ⟨hbg, v0, hg, ho⟩ := hP
  have HG := Aside0.mk hg
  have HO := Aside0.mk ho
  have HLN := Aside0.mk (textEnc_len (s := s))
  clear hg ho
  go_enter Try.func90, Try.ntmps90
  go_wp2_with fail
  refine (wire_Text.calls 20 s (textEnc s).1 (textEnc s).2 w (wire_Text.eq 20 (Nat.le_refl _) s)).mono ?_
  rintro e w1 ⟨v1, rfl, ho1, hb1⟩
  obtain ⟨A1, n1, c1, rfl, hn1, hc1⟩ := R8_form ho1
  have HC1 := Aside0.mk (R8_C ho1)
  have HB1 := Aside0.mk hb1
  have hg1 : w1.heap[g]? = some (.cells #[v0] 130 (0, 0)) := (hb1.block g (blk_lt HG.out)).trans HG.out
  have hc0 : w1.cell? ⟨g, 0, none⟩ = some v0 := blk_cell hg1 0
  have hE : (textEnc s).2 = 0 := by rw [textEnc_ok h0]
  rw [hE]
  have HN1 := Aside0.mk hn1
  clear ho1 hb1 hE hn1 hg1
  go_wp2_with (with_reducible refine stop_append rfl ?_)
  refine app8 (v := v0) w1 base rfl _ _ rfl rfl rfl (R8_keep HO.out (fun k hk => HB1.out.block k (R8_lt HO.out k hk).2)) HC1.out (Below.refl _ _) (Nat.le_trans hbase HB1.out.size) (by have := HLN.out; have := HN1.out; omega) ?_
  intro v2 w2 ho2 hb2 hg2 hat
  have hw2 : w2.heap[g]? = some (.cells #[v0] 130 (0, 0)) := by
    have h1 : w1.heap[g]? = some (.cells #[v0] 130 (0, 0)) := (HB1.out.block g (blk_lt HG.out)).trans HG.out
    exact (hg2.block g (blk_lt h1) (fun e => absurd (typed_ne ⟨_, HG.out⟩ (own_type (R8_own HO.out) g e.symm)) (by decide))).trans h1
  have hc2 : w2.cell? ⟨g, 0, none⟩ = some v0 := blk_cell hw2 0
  have hf2 : w2.frozen? ⟨g, 0, none⟩ = false := blk_frozen hw2 0
  obtain ⟨A2, n2, c2, rfl, _, _⟩ := R8_form ho2
  have HO2 := Aside0.mk ho2
  have HG2 := Aside0.mk hg2
  clear ho2 hb2 hg2 hat hw2 hc0
  go_wp2
  refine bodyPost_end (results_none rfl _ _ _) rfl ?_
  exact ⟨⟨_, rfl⟩, page_end (by decide) hbg HG.out HO.out HB1.out HO2.out HG2.out⟩
theorem note_Entry_eq (s v k se rq : Int) (l : List S40) (r : Nat) (hr : 0 < r) : note_mayEntry.f r s v k se rq l = some (entOk s v k se rq l) := by
  obtain ⟨r, rfl⟩ : ∃ m, r = m + 1 := ⟨r - 1, by omega⟩
  unfold note_mayEntry.f note_numbers.f note_mayOps.f entOk
  have hz : ((l.length : Int) == 0) = decide (l.length = 0) := by
    by_cases h : l.length = 0
    · rw [h]; rfl
    · rw [decide_eq_false h]; exact beq_eq_false_iff_ne.mpr (by omega)
  have ho : l.length = 0 → opsOk l = true := fun h => by
    have : l = [] := List.length_eq_zero_iff.1 h
    rw [this]; rfl
  simp only [Option.bind_some, note_mayEntry.j0, hz, List.all_cons, List.all_nil, Bool.and_true]
  obtain ⟨ol, hol⟩ : ∃ ol, opsOk l = ol := ⟨_, rfl⟩
  rw [hol] at ho ⊢
  obtain ⟨nl, hnl⟩ : ∃ nl, nl = l.length := ⟨_, rfl⟩
  rw [← hnl] at ho ⊢
  clear hz hol hnl
  by_cases hs : s < 1
  · simp [hs, show ¬ 1 ≤ s by omega]
  have hs1 : 1 ≤ s := by omega
  by_cases hse : se < 1
  · simp [hs, hs1, hse, show ¬ 1 ≤ se by omega]
  have hse1 : 1 ≤ se := by omega
  by_cases hk : k < 1
  · simp [hs, hs1, hse, hse1, hk, show ¬ 1 ≤ k by omega]
  have hk1 : 1 ≤ k := by omega
  by_cases hk4 : k > 4
  · simp [hs, hs1, hse, hse1, hk, hk1, hk4, show ¬ k ≤ 4 by omega]
  have hk5 : k ≤ 4 := by omega
  simp only [hs, hse, hk, hk4, hs1, hse1, hk1, hk5, if_false, decide_true, Bool.true_and]
  cases numOk s <;> cases numOk v <;> cases numOk se <;> cases numOk rq <;> by_cases he : k = 1 <;> by_cases hq : rq = 0 <;> by_cases hn : nl = 0 <;> cases ol <;> simp_all
theorem mayEntry_N (s v k se rq : Int) (A : Option Addr) (c n : Nat) (l : List S40) (w : World) (hn : l.length = n) (hC : Kd.C k40 w A n l) (hc : n ≤ c) :
    Calls Try.prog 68 #[.agg #[.int .i64 s, .int .i64 v, .int .i64 k, .int .i64 se, .int .i64 rq, .slice A n c]] w fun e w' => e = .returned (.bool (entOk s v k se rq l)) ∧ Below w.heap.size w w' := by
  subst hn
  exact note_mayEntry.calls 1 s v k se rq A c l _ w hC hc (note_Entry_eq s v k se rq l _ (by decide))
theorem numOk_iff {v : Int} (h : numOk v = true) : 0 ≤ v ∧ v ≤ 2147483647 := by
  unfold numOk at h
  simpa using h
theorem opOk_parts {o : S40} (h : opOk o = true) : (0 ≤ o.f0 ∧ o.f0 ≤ 2147483647) ∧ (0 ≤ o.f4 ∧ o.f4 ≤ 2147483647) ∧ (o.f3 = -1 ∨ 0 ≤ o.f3 ∧ o.f3 ≤ 2147483647) ∧ o.f1.size ≤ 256 ∧ o.f2.size ≤ 256 := by
  unfold opOk at h
  simp only [Bool.and_eq_true, Bool.or_eq_true, decide_eq_true_eq] at h
  obtain ⟨h0, h4, h3, h1, h2⟩ := h
  exact ⟨numOk_iff h0, numOk_iff h4, h3.imp (fun h => h) numOk_iff, h1, h2⟩
set_option maxHeartbeats 16000000 in
set_option maxRecDepth 100000 in
theorem put_op (b g : Nat) (M : List Int) (o : S40) (w : World) (hok : opOk o = true) (hb : b ≤ w.heap.size) (hP : PageAt w b 130 g M) (hl : M.length ≤ 3000000) :
    Calls Try.prog 81 #[.pointer (some ⟨g, 0, none⟩), .agg #[.int .i64 o.f0, .string o.f1, .string o.f2, .int .i64 o.f3, .int .i64 o.f4]] w fun e w' => (∃ x, e = .returned x) ∧ PageAt w' b 130 g (M ++ opEnc o) ∧ Frm w w' (pg w b g) := by
  have hu40 := Try.underlying40
  have HOK := Aside0.mk (opOk_parts hok)
  have HP := Aside0.mk hP
  obtain ⟨M10, hM10⟩ : ∃ M10, M10 = M := ⟨_, rfl⟩
  subst hM10
  have N10 := Aside0.mk hl
  clear hok hP hl
  go_enter Try.func81, Try.ntmps81
  go_wp2_with fail
  obtain ⟨p, hp⟩ : ∃ p, p = w.heap.size := ⟨_, rfl⟩
  obtain ⟨w10, hw10⟩ : ∃ w10, w10 = w.alloc (.cells #[.int .i64 o.f0, .string o.f1, .string o.f2, .int .i64 o.f3, .int .i64 o.f4] 40) := ⟨_, rfl⟩
  rw [← hw10, ← hp]
  have HA := Aside0.mk (show Below w.heap.size w w10 by rw [hw10]; exact below_alloc (Below.refl _ _) _)
  have HPB := Aside0.mk (show w10.heap[p]? = some (.cells #[.int .i64 o.f0, .string o.f1, .string o.f2, .int .i64 o.f3, .int .i64 o.f4] 40 (0, 0)) by rw [hw10, hp]; exact heap_alloc_new w _)
  have HNE := Aside0.mk (show p ≠ g by have := HP.out.lt; omega)
  have P10 := Aside0.mk (HP.out.below HA.out)
  have F10 := Aside0.mk (Frm.refl w10 (pg w10 b g))
  have HBS := Aside0.mk (show b ≤ w10.heap.size from Nat.le_trans hb HA.out.size)
  clear hp hw10
  refine (writer_number b g M10 o.f0 w10 P10.out (Nat.le_trans HBS.out F10.out.size) (by have := N10.out; omega) HOK.out.1.1 HOK.out.1.2).mono ?_
  rintro y11 w11 ⟨⟨z11, rfl⟩, hp, hf⟩
  obtain ⟨M11, hM⟩ : ∃ M, M10 ++ (numEnc o.f0).1 = M := ⟨_, rfl⟩
  rw [hM] at hp
  have E11 := Aside0.mk hM
  have N11 := Aside0.mk (show M11.length ≤ 3000005 by have h1 := N10.out; have h2 := numEnc_len o.f0; rw [← hM, List.length_append]; omega)
  have P11 := Aside0.mk hp
  have F11 := Aside0.mk (pg_then F10.out hf)
  clear hp hf hM
  have q0 : w11.cell? ⟨p, 0, none⟩ = some (.int .i64 o.f0) := blk_cell (pg_block F11.out HPB.out (by decide) HNE.out) 0
  have q1 : w11.cell? ⟨p, 1, none⟩ = some (.string o.f1) := blk_cell (pg_block F11.out HPB.out (by decide) HNE.out) 1
  have q2 : w11.cell? ⟨p, 2, none⟩ = some (.string o.f2) := blk_cell (pg_block F11.out HPB.out (by decide) HNE.out) 2
  have q3 : w11.cell? ⟨p, 3, none⟩ = some (.int .i64 o.f3) := blk_cell (pg_block F11.out HPB.out (by decide) HNE.out) 3
  have q4 : w11.cell? ⟨p, 4, none⟩ = some (.int .i64 o.f4) := blk_cell (pg_block F11.out HPB.out (by decide) HNE.out) 4
  go_wp2_with fail
  refine (writer_text b g M11 o.f1 w11 P11.out (Nat.le_trans HBS.out F11.out.size) (by have := N11.out; omega) (by have := HOK.out.2.2.2.1; omega)).mono ?_
  rintro y12 w12 ⟨⟨z12, rfl⟩, hp, hf⟩
  obtain ⟨M12, hM⟩ : ∃ M, M11 ++ (textEnc o.f1).1 = M := ⟨_, rfl⟩
  rw [hM] at hp
  have E12 := Aside0.mk hM
  have N12 := Aside0.mk (show M12.length ≤ 3262154 by have h1 := N11.out; have h2 := textEnc_len (s := o.f1); rw [← hM, List.length_append]; omega)
  have P12 := Aside0.mk hp
  have F12 := Aside0.mk (pg_then F11.out hf)
  clear hp hf hM q0 q1 q2 q3 q4
  have q0 : w12.cell? ⟨p, 0, none⟩ = some (.int .i64 o.f0) := blk_cell (pg_block F12.out HPB.out (by decide) HNE.out) 0
  have q1 : w12.cell? ⟨p, 1, none⟩ = some (.string o.f1) := blk_cell (pg_block F12.out HPB.out (by decide) HNE.out) 1
  have q2 : w12.cell? ⟨p, 2, none⟩ = some (.string o.f2) := blk_cell (pg_block F12.out HPB.out (by decide) HNE.out) 2
  have q3 : w12.cell? ⟨p, 3, none⟩ = some (.int .i64 o.f3) := blk_cell (pg_block F12.out HPB.out (by decide) HNE.out) 3
  have q4 : w12.cell? ⟨p, 4, none⟩ = some (.int .i64 o.f4) := blk_cell (pg_block F12.out HPB.out (by decide) HNE.out) 4
  go_wp2_with fail
  refine (writer_text b g M12 o.f2 w12 P12.out (Nat.le_trans HBS.out F12.out.size) (by have := N12.out; omega) (by have := HOK.out.2.2.2.2; omega)).mono ?_
  rintro y13 w13 ⟨⟨z13, rfl⟩, hp, hf⟩
  obtain ⟨M13, hM⟩ : ∃ M, M12 ++ (textEnc o.f2).1 = M := ⟨_, rfl⟩
  rw [hM] at hp
  have E13 := Aside0.mk hM
  have N13 := Aside0.mk (show M13.length ≤ 3524303 by have h1 := N12.out; have h2 := textEnc_len (s := o.f2); rw [← hM, List.length_append]; omega)
  have P13 := Aside0.mk hp
  have F13 := Aside0.mk (pg_then F12.out hf)
  clear hp hf hM q0 q1 q2 q3 q4
  have q0 : w13.cell? ⟨p, 0, none⟩ = some (.int .i64 o.f0) := blk_cell (pg_block F13.out HPB.out (by decide) HNE.out) 0
  have q1 : w13.cell? ⟨p, 1, none⟩ = some (.string o.f1) := blk_cell (pg_block F13.out HPB.out (by decide) HNE.out) 1
  have q2 : w13.cell? ⟨p, 2, none⟩ = some (.string o.f2) := blk_cell (pg_block F13.out HPB.out (by decide) HNE.out) 2
  have q3 : w13.cell? ⟨p, 3, none⟩ = some (.int .i64 o.f3) := blk_cell (pg_block F13.out HPB.out (by decide) HNE.out) 3
  have q4 : w13.cell? ⟨p, 4, none⟩ = some (.int .i64 o.f4) := blk_cell (pg_block F13.out HPB.out (by decide) HNE.out) 4
  by_cases hv : o.f3 = -1
  · have hv1 : (o.f3 == -1) = true := beq_iff_eq.mpr hv
    have hv2 : decide (o.f3 = -1) = true := decide_eq_true hv
    have HV := Aside0.mk hv
    clear hv
    go_wp2_with fail
    refine (writer_number b g M13 0 w13 P13.out (Nat.le_trans HBS.out F13.out.size) (by have := N13.out; omega) (by decide) (by decide)).mono ?_
    rintro y14 w14 ⟨⟨z14, rfl⟩, hp, hf⟩
    obtain ⟨M14, hM⟩ : ∃ M, M13 ++ (numEnc 0).1 = M := ⟨_, rfl⟩
    rw [hM] at hp
    have E14 := Aside0.mk hM
    have N14 := Aside0.mk (show M14.length ≤ 3524308 by have h1 := N13.out; have h2 := numEnc_len 0; rw [← hM, List.length_append]; omega)
    have P14 := Aside0.mk hp
    have F14 := Aside0.mk (pg_then F13.out hf)
    clear hp hf hM q0 q1 q2 q3 q4
    have q0 : w14.cell? ⟨p, 0, none⟩ = some (.int .i64 o.f0) := blk_cell (pg_block F14.out HPB.out (by decide) HNE.out) 0
    have q1 : w14.cell? ⟨p, 1, none⟩ = some (.string o.f1) := blk_cell (pg_block F14.out HPB.out (by decide) HNE.out) 1
    have q2 : w14.cell? ⟨p, 2, none⟩ = some (.string o.f2) := blk_cell (pg_block F14.out HPB.out (by decide) HNE.out) 2
    have q3 : w14.cell? ⟨p, 3, none⟩ = some (.int .i64 o.f3) := blk_cell (pg_block F14.out HPB.out (by decide) HNE.out) 3
    have q4 : w14.cell? ⟨p, 4, none⟩ = some (.int .i64 o.f4) := blk_cell (pg_block F14.out HPB.out (by decide) HNE.out) 4
    go_wp2_with fail
    refine (writer_number b g M14 o.f4 w14 P14.out (Nat.le_trans HBS.out F14.out.size) (by have := N14.out; omega) HOK.out.2.1.1 HOK.out.2.1.2).mono ?_
    rintro y15 w15 ⟨⟨z15, rfl⟩, hp, hf⟩
    obtain ⟨M15, hM⟩ : ∃ M, M14 ++ (numEnc o.f4).1 = M := ⟨_, rfl⟩
    rw [hM] at hp
    have E15 := Aside0.mk hM
    have N15 := Aside0.mk (show M15.length ≤ 3524313 by have h1 := N14.out; have h2 := numEnc_len o.f4; rw [← hM, List.length_append]; omega)
    have P15 := Aside0.mk hp
    have F15 := Aside0.mk (pg_then F14.out hf)
    clear hp hf hM 
    clear q0 q1 q2 q3 q4 hv1 hv2
    have PE := Aside0.mk (show PageAt w15 b 130 g (M10 ++ opEnc o) by
      have h := P15.out
      rw [← E15.out, ← E14.out, ← E13.out, ← E12.out, ← E11.out] at h; unfold opEnc; rw [if_pos HV.out]; simp only [List.append_assoc] at h ⊢
      exact h)
    have FE := Aside0.mk (pg_then (Frm.of_below HA.out (pg w b g)) F15.out)
    go_wp2
    refine bodyPost_end (results_none rfl _ _ _) rfl ?_
    exact ⟨⟨_, rfl⟩, PE.out, FE.out⟩
  · have hv1 : (o.f3 == -1) = false := beq_eq_false_iff_ne.mpr hv
    have hv2 : decide (o.f3 = -1) = false := decide_eq_false hv
    have HV := Aside0.mk hv
    have HV2 := Aside0.mk (show 0 ≤ o.f3 ∧ o.f3 ≤ 2147483647 from HOK.out.2.2.1.resolve_left hv)
    clear hv
    go_wp2_with fail
    refine (writer_number b g M13 1 w13 P13.out (Nat.le_trans HBS.out F13.out.size) (by have := N13.out; omega) (by decide) (by decide)).mono ?_
    rintro y14 w14 ⟨⟨z14, rfl⟩, hp, hf⟩
    obtain ⟨M14, hM⟩ : ∃ M, M13 ++ (numEnc 1).1 = M := ⟨_, rfl⟩
    rw [hM] at hp
    have E14 := Aside0.mk hM
    have N14 := Aside0.mk (show M14.length ≤ 3524308 by have h1 := N13.out; have h2 := numEnc_len 1; rw [← hM, List.length_append]; omega)
    have P14 := Aside0.mk hp
    have F14 := Aside0.mk (pg_then F13.out hf)
    clear hp hf hM q0 q1 q2 q3 q4
    have q0 : w14.cell? ⟨p, 0, none⟩ = some (.int .i64 o.f0) := blk_cell (pg_block F14.out HPB.out (by decide) HNE.out) 0
    have q1 : w14.cell? ⟨p, 1, none⟩ = some (.string o.f1) := blk_cell (pg_block F14.out HPB.out (by decide) HNE.out) 1
    have q2 : w14.cell? ⟨p, 2, none⟩ = some (.string o.f2) := blk_cell (pg_block F14.out HPB.out (by decide) HNE.out) 2
    have q3 : w14.cell? ⟨p, 3, none⟩ = some (.int .i64 o.f3) := blk_cell (pg_block F14.out HPB.out (by decide) HNE.out) 3
    have q4 : w14.cell? ⟨p, 4, none⟩ = some (.int .i64 o.f4) := blk_cell (pg_block F14.out HPB.out (by decide) HNE.out) 4
    go_wp2_with fail
    refine (writer_number b g M14 o.f3 w14 P14.out (Nat.le_trans HBS.out F14.out.size) (by have := N14.out; omega) (HV2.out.1) (HV2.out.2)).mono ?_
    rintro y15 w15 ⟨⟨z15, rfl⟩, hp, hf⟩
    obtain ⟨M15, hM⟩ : ∃ M, M14 ++ (numEnc o.f3).1 = M := ⟨_, rfl⟩
    rw [hM] at hp
    have E15 := Aside0.mk hM
    have N15 := Aside0.mk (show M15.length ≤ 3524313 by have h1 := N14.out; have h2 := numEnc_len o.f3; rw [← hM, List.length_append]; omega)
    have P15 := Aside0.mk hp
    have F15 := Aside0.mk (pg_then F14.out hf)
    clear hp hf hM q0 q1 q2 q3 q4
    have q0 : w15.cell? ⟨p, 0, none⟩ = some (.int .i64 o.f0) := blk_cell (pg_block F15.out HPB.out (by decide) HNE.out) 0
    have q1 : w15.cell? ⟨p, 1, none⟩ = some (.string o.f1) := blk_cell (pg_block F15.out HPB.out (by decide) HNE.out) 1
    have q2 : w15.cell? ⟨p, 2, none⟩ = some (.string o.f2) := blk_cell (pg_block F15.out HPB.out (by decide) HNE.out) 2
    have q3 : w15.cell? ⟨p, 3, none⟩ = some (.int .i64 o.f3) := blk_cell (pg_block F15.out HPB.out (by decide) HNE.out) 3
    have q4 : w15.cell? ⟨p, 4, none⟩ = some (.int .i64 o.f4) := blk_cell (pg_block F15.out HPB.out (by decide) HNE.out) 4
    go_wp2_with fail
    refine (writer_number b g M15 o.f4 w15 P15.out (Nat.le_trans HBS.out F15.out.size) (by have := N15.out; omega) HOK.out.2.1.1 HOK.out.2.1.2).mono ?_
    rintro y16 w16 ⟨⟨z16, rfl⟩, hp, hf⟩
    obtain ⟨M16, hM⟩ : ∃ M, M15 ++ (numEnc o.f4).1 = M := ⟨_, rfl⟩
    rw [hM] at hp
    have E16 := Aside0.mk hM
    have N16 := Aside0.mk (show M16.length ≤ 3524318 by have h1 := N15.out; have h2 := numEnc_len o.f4; rw [← hM, List.length_append]; omega)
    have P16 := Aside0.mk hp
    have F16 := Aside0.mk (pg_then F15.out hf)
    clear hp hf hM 
    clear q0 q1 q2 q3 q4 hv1 hv2
    have PE := Aside0.mk (show PageAt w16 b 130 g (M10 ++ opEnc o) by
      have h := P16.out
      rw [← E16.out, ← E15.out, ← E14.out, ← E13.out, ← E12.out, ← E11.out] at h; unfold opEnc; rw [if_neg HV.out]; simp only [List.append_assoc] at h ⊢
      exact h)
    have FE := Aside0.mk (pg_then (Frm.of_below HA.out (pg w b g)) F16.out)
    go_wp2
    refine bodyPost_end (results_none rfl _ _ _) rfl ?_
    exact ⟨⟨_, rfl⟩, PE.out, FE.out⟩
set_option maxHeartbeats 16000000 in
set_option maxRecDepth 100000 in
theorem put_list (wb : World) (b g : Nat) (M0 : List Int) (A : Option Addr) (c n : Nat) (l : List S40) (w0 : World) (hb : b = wb.heap.size) (hn : l.length = n) (hC : Kd.C k40 wb A n l) (hn4 : n ≤ 4) (hok : l.all opOk = true) (hB : Below wb.heap.size wb w0) (hP : PageAt w0 b 130 g M0) (hl : M0.length ≤ 1000) :
    Calls Try.prog 80 #[.pointer (some ⟨g, 0, none⟩), .slice A n c, .func (.func 81) #[] #[]] w0 fun e w' => (∃ x, e = .returned x) ∧ PageAt w' b 130 g (M0 ++ opsEnc l) ∧ Frm w0 w' (pg w0 b g) := by
  have hu40 := Try.underlying40
  have HB := Aside0.mk (show Below b wb w0 by rw [hb]; exact hB)
  have HC := Aside0.mk hC
  have HN := Aside0.mk hn
  have HBS := Aside0.mk (show b ≤ w0.heap.size by rw [hb]; exact hB.size)
  have P0 := Aside0.mk hP
  have N0 := Aside0.mk hl
  have F0 := Aside0.mk (Frm.refl w0 (pg w0 b g))
  have Hb := Aside0.mk hb
  have HOKL := Aside0.mk hok
  clear hB hC hn hP hl hb hok
  go_enter Try.func80, Try.ntmps80
  go_wp2_with fail
  refine (writer_number b g M0 (n : Int) w0 P0.out (Nat.le_trans HBS.out F0.out.size) (by have := N0.out; omega) (by omega) (by omega)).mono ?_
  rintro y1 w1 ⟨⟨z1, rfl⟩, hp, hf⟩
  obtain ⟨M1, hM⟩ : ∃ M, M0 ++ (numEnc (n : Int)).1 = M := ⟨_, rfl⟩
  rw [hM] at hp
  have E1 := Aside0.mk hM
  have N1 := Aside0.mk (show M1.length ≤ 1005 by have h1 := N0.out; have h2 := numEnc_len (n : Int); rw [← hM, List.length_append]; omega)
  have P1 := Aside0.mk hp
  have F1 := Aside0.mk (pg_then F0.out hf)
  clear hp hf hM 
  go_wp2
  go_loopw [14] (fun v14 wr => ∃ k : Nat, k ≤ n ∧ v14 = .int .i64 (k : Int) ∧ Aside0 (PageAt wr b 130 g (M1 ++ opsEncs (l.take k))) ∧ Aside0 (Frm w0 wr (pg w0 b g))) (fun v14 _ => n + 1 - (intOf v14).toNat)
  case atStart => exact ⟨0, Nat.zero_le _, rfl, ⟨by rw [List.take_zero]; simpa [opsEncs] using P1.out⟩, F1⟩
  case round =>
    obtain ⟨k, hk, rfl, PK, FK⟩ := hrel
    by_cases hlt : k < n
    · have hd1 : decide ((k : Int) < (n : Int)) = true := decide_eq_true (by omega)
      have hd2 : decide (k < n) = true := decide_eq_true hlt
      obtain ⟨ad, rfl, f0, f1, f2, f3, f4⟩ := at_T40 HC.out (k : Int) (by omega) (by omega)
      obtain ⟨o, ho⟩ : ∃ o, rd_T40 l (k : Int) = o := ⟨_, rfl⟩
      rw [ho, Int.toNat_natCast] at f0 f1 f2 f3 f4
      have hbw := pg_belowB Hb.out HB.out FK.out
      replace f0 := pw_cell_below hbw f0
      replace f1 := pw_cell_below hbw f1
      replace f2 := pw_cell_below hbw f2
      replace f3 := pw_cell_below hbw f3
      replace f4 := pw_cell_below hbw f4
      have HO := Aside0.mk ho
      have HOO := Aside0.mk (show opOk o = true by
        have hkl : k < l.length := by rw [HN.out]; exact hlt
        have h1 := List.all_eq_true.1 HOKL.out l[k] (List.getElem_mem hkl)
        have h2 : l[k] = o := by rw [← ho]; simp [rd_T40, hkl]
        rw [← h2]; exact h1)
      obtain ⟨w10, hw10⟩ : ∃ w10, w10 = wr := ⟨_, rfl⟩
      subst hw10
      have HLT := Aside0.mk (show k < l.length by rw [HN.out]; exact hlt)
      clear ho hbw
      go_wp2_with fail
      have HBk := Aside0.mk (show Below w10.heap.size w10 (w10.alloc (.cells #[.int .i64 o.f0, .string o.f1, .string o.f2, .int .i64 o.f3, .int .i64 o.f4] 40)) from below_alloc (Below.refl _ _) _)
      have hlen : (M1 ++ opsEncs (l.take k)).length ≤ 3000000 := by
        have h1 := N1.out
        have h2 := opsEncs_len (l.take k)
        have h3 : (l.take k).length ≤ 4 := by rw [List.length_take, HN.out]; omega
        rw [List.length_append]
        omega
      refine (put_op b g (M1 ++ opsEncs (l.take k)) o _ HOO.out (Nat.le_trans HBS.out (Nat.le_trans FK.out.size HBk.out.size)) (PK.out.below HBk.out) hlen).mono ?_
      rintro y11 w11 ⟨⟨z11, rfl⟩, hp, hf⟩
      have P11 := Aside0.mk (show PageAt w11 b 130 g (M1 ++ opsEncs (l.take (k + 1))) by rw [opsEncs_take HLT.out, HO.out, ← List.append_assoc]; exact hp)
      have F11 := Aside0.mk (pg_then FK.out (pg_then (Frm.of_below HBk.out (pg w10 b g)) hf))
      clear hp hf f0 f1 f2 f3 f4 hlen PK FK HBk
      go_wp2
      go_roundw
      case rel => exact ⟨k + 1, by omega, by go_num, P11, F11⟩
      case measure => simp [intOf]; omega
    · have hd1 : decide ((k : Int) < (n : Int)) = false := decide_eq_false (by omega)
      have hd2 : decide (k < n) = false := decide_eq_false hlt
      have hkn : l.take k = l := List.take_of_length_le (by rw [HN.out]; omega)
      rw [hkn] at PK
      have PF := Aside0.mk (show PageAt wr b 130 g (M0 ++ opsEnc l) by
        unfold opsEnc
        rw [HN.out, ← List.append_assoc, E1.out]
        exact PK.out)
      clear PK hkn
      go_wp2
      refine bodyPost_end (results_none rfl _ _ _) rfl ?_
      exact ⟨⟨_, rfl⟩, PF.out, FK.out⟩
theorem encs_take {vs : List Int} {k : Nat} {x : Int} (h : vs[k]? = some x) : ((vs.take (k + 1)).map fun v => (numEnc v).1).flatten = ((vs.take k).map fun v => (numEnc v).1).flatten ++ (numEnc x).1 := by
  rw [List.take_add_one, h, List.map_append, List.flatten_append]
  simp
theorem encs_len (vs : List Int) : ((vs.map fun v => (numEnc v).1).flatten).length ≤ vs.length * 5 := by
  induction vs with
  | nil => simp
  | cons v vs ih =>
    have := numEnc_len v
    rw [List.map_cons, List.flatten_cons, List.length_append, List.length_cons, Nat.add_mul]
    omega
theorem entOk_parts {s v k se rq : Int} {l : List S40} (h : entOk s v k se rq l = true) : (∀ x ∈ [s, v, k, se, rq], 0 ≤ x ∧ x ≤ 2147483647) ∧ l.length ≤ 4 ∧ l.all opOk = true := by
  have h4 := entOk_ops h
  unfold entOk at h
  simp only [Bool.and_eq_true, decide_eq_true_eq] at h
  obtain ⟨⟨h1, h2⟩, h3, ⟨h5, h6⟩, h7, ⟨h8, h9⟩, h10⟩ := h
  have hs := numOk_iff h2
  have hv := numOk_iff h3
  have hse := numOk_iff h6
  have hrq := numOk_iff h7
  refine ⟨fun x hx => ?_, h4, ?_⟩
  · simp only [List.mem_cons, List.not_mem_nil, or_false] at hx
    rcases hx with rfl | rfl | rfl | rfl | rfl
    · exact hs
    · exact hv
    · omega
    · exact hse
    · exact hrq
  · split at h10
    · simp only [Bool.and_eq_true, decide_eq_true_eq] at h10
      unfold opsOk at h10
      simp only [Bool.and_eq_true] at h10
      exact h10.2.1
    · simp only [Bool.and_eq_true, decide_eq_true_eq] at h10
      have : l = [] := List.length_eq_zero_iff.1 h10.2
      rw [this]; rfl
set_option maxHeartbeats 16000000 in
set_option maxRecDepth 100000 in
theorem put_entry (wb : World) (b g : Nat) (M : List Int) (s v k se rq : Int) (A : Option Addr) (c n : Nat) (l : List S40) (w : World) (hb : b = wb.heap.size) (hn : l.length = n) (hC : Kd.C k40 wb A n l) (hok : entOk s v k se rq l = true) (hB : Below wb.heap.size wb w) (hP : PageAt w b 130 g M) (hl : M.length ≤ 900) :
    Calls Try.prog 69 #[.pointer (some ⟨g, 0, none⟩), .agg #[.int .i64 s, .int .i64 v, .int .i64 k, .int .i64 se, .int .i64 rq, .slice A n c]] w fun e w' => (∃ x, e = .returned x) ∧ PageAt w' b 130 g (M ++ (([s, v, k, se, rq].map fun v => (numEnc v).1).flatten ++ opsEnc l)) ∧ Frm w w' (pg w b g) := by
  have hu24 := Try.underlying24
  obtain ⟨hnum, hn4, hall⟩ := entOk_parts hok
  rw [hn] at hn4
  have HALL := Aside0.mk hall
  have HNUM := Aside0.mk hnum
  have Hb := Aside0.mk hb
  have HC := Aside0.mk hC
  have HN := Aside0.mk hn
  have HB := Aside0.mk hB
  have HBB := Aside0.mk (show b ≤ w.heap.size by rw [hb]; exact hB.size)
  have HP := Aside0.mk hP
  have HL := Aside0.mk hl
  have hv0 : [s, v, k, se, rq].length = 5 := rfl
  have HVS := Aside0.mk (show ∀ i, i < 5 → ∃ x, ([s, v, k, se, rq] : List Int)[i]? = some x ∧ (#[Value.int .i64 s, .int .i64 v, .int .i64 k, .int .i64 se, .int .i64 rq] : Array Value)[i]? = some (.int .i64 x) from fun i hi =>
    match i, hi with
    | 0, _ => ⟨s, rfl, rfl⟩
    | 1, _ => ⟨v, rfl, rfl⟩
    | 2, _ => ⟨k, rfl, rfl⟩
    | 3, _ => ⟨se, rfl, rfl⟩
    | 4, _ => ⟨rq, rfl, rfl⟩
    | i + 5, h => by omega)
  clear hC hn hB hP hl hb hok hnum hall hv0
  go_enter Try.func69, Try.ntmps69
  go_wp2
  obtain ⟨p, hp⟩ : ∃ p, p = w.heap.size := ⟨_, rfl⟩
  obtain ⟨w9, hw9⟩ : ∃ w9, w9 = w.alloc (.cells #[.int .i64 s, .int .i64 v, .int .i64 k, .int .i64 se, .int .i64 rq, .slice A n c] 24) := ⟨_, rfl⟩
  obtain ⟨w10, hw10⟩ : ∃ w10, w10 = w9.alloc (.cells #[.int .i64 s, .int .i64 v, .int .i64 k, .int .i64 se, .int .i64 rq] 3) := ⟨_, rfl⟩
  obtain ⟨q, hq⟩ : ∃ q, q = w.heap.size + 1 := ⟨_, rfl⟩
  rw [← hw9, ← hw10, ← hq, ← hp]
  have HA9 := Aside0.mk (show Below w.heap.size w w9 by rw [hw9]; exact below_alloc (Below.refl _ _) _)
  have hz9 : w9.heap.size = w.heap.size + 1 := by rw [hw9]; simp
  have HA := Aside0.mk (show Below w.heap.size w w10 by rw [hw10]; exact below_alloc HA9.out _)
  have HPB := Aside0.mk (show w10.heap[p]? = some (.cells #[.int .i64 s, .int .i64 v, .int .i64 k, .int .i64 se, .int .i64 rq, .slice A n c] 24 (0, 0)) by
    rw [hw10]
    refine (Below.heap_alloc _ _ _ (by omega)).trans ?_
    rw [hw9, hp]; exact heap_alloc_new w _)
  have HQB := Aside0.mk (show w10.heap[q]? = some (.cells #[.int .i64 s, .int .i64 v, .int .i64 k, .int .i64 se, .int .i64 rq] 3 (0, 0)) by rw [hw10, hq, ← hz9]; exact heap_alloc_new w9 _)
  have HNE := Aside0.mk (show p ≠ g ∧ q ≠ g by have := HP.out.lt; omega)
  have P10 := Aside0.mk (HP.out.below HA.out)
  have F10 := Aside0.mk (Frm.refl w10 (pg w10 b g))
  have HBS := Aside0.mk (show b ≤ w10.heap.size from Nat.le_trans HBB.out HA.out.size)
  clear hp hw10 hw9 hq hz9 HA9
  go_loopw [5, 18] (fun v5 v18 wr => ∃ i : Nat, i ≤ 5 ∧ v18 = .int .i64 (i : Int) ∧ Aside0 (PageAt wr b 130 g (M ++ ((([s, v, k, se, rq] : List Int).take i).map fun v => (numEnc v).1).flatten)) ∧ Aside0 (Frm w10 wr (pg w10 b g))) (fun _ v18 _ => 6 - (intOf v18).toNat)
  case atStart => exact ⟨0, Nat.zero_le _, rfl, ⟨by simpa using P10.out⟩, F10⟩
  case round =>
    obtain ⟨i, hi, rfl, PK, FK⟩ := hrel
    by_cases hlt : i < 5
    · have hd1 : decide ((i : Int) < 5) = true := decide_eq_true (by omega)
      have hd2 : decide (i < 5) = true := decide_eq_true hlt
      obtain ⟨x, hx1, hx2⟩ := HVS.out i hlt
      have hc : wr.cell? ⟨q, i, none⟩ = some (.int .i64 x) := (blk_cell (pg_block FK.out HQB.out (by decide) HNE.out.2) i).trans hx2
      have HX := Aside0.mk hx1
      have HXR := Aside0.mk (HNUM.out x (List.mem_of_getElem? hx1))
      clear hx1 hx2
      go_wp2_with fail
      refine (writer_number b g _ x wr PK.out (Nat.le_trans HBS.out FK.out.size) (by
        have h1 := encs_len (([s, v, k, se, rq] : List Int).take i)
        have h2 : (([s, v, k, se, rq] : List Int).take i).length ≤ 5 := by rw [List.length_take]; omega
        have h3 := HL.out
        rw [List.length_append]
        omega) HXR.out.1 HXR.out.2).mono ?_
      rintro y11 w11 ⟨⟨z11, rfl⟩, hp, hf⟩
      have P11 := Aside0.mk (show PageAt w11 b 130 g (M ++ ((([s, v, k, se, rq] : List Int).take (i + 1)).map fun v => (numEnc v).1).flatten) by rw [encs_take HX.out, ← List.append_assoc]; exact hp)
      have F11 := Aside0.mk (pg_then FK.out hf)
      clear hp hf hc PK FK
      go_wp2
      go_roundw
      case rel => exact ⟨i + 1, by omega, by go_num, P11, F11⟩
      case measure => simp [intOf]; omega
    · have hd1 : decide ((i : Int) < 5) = false := decide_eq_false (by omega)
      have hd2 : decide (i < 5) = false := decide_eq_false hlt
      have hi5 : i = 5 := by omega
      subst hi5
      have P12 := Aside0.mk (show PageAt wr b 130 g (M ++ (([s, v, k, se, rq] : List Int).map fun v => (numEnc v).1).flatten) from PK.out)
      have hb5 := pg_block FK.out HPB.out (by decide) HNE.out.1
      have q5 : wr.cell? ⟨p, 5, none⟩ = some (.slice A n c) := blk_cell hb5 5
      have F12 := Aside0.mk FK.out
      clear hb5 PK FK
      go_wp2_with fail
      refine (put_list wb b g _ A c n l wr Hb.out HN.out HC.out hn4 HALL.out (pg_belowB Hb.out (by rw [Hb.out]; exact HB.out) (pg_then (Frm.of_below HA.out _) F12.out)) P12.out (by
        have h1 := encs_len ([s, v, k, se, rq] : List Int)
        have h3 := HL.out
        rw [List.length_append]
        simp only [List.length_cons, List.length_nil] at h1
        omega)).mono ?_
      rintro y13 w13 ⟨⟨z13, rfl⟩, hp, hf⟩
      have P13 := Aside0.mk (show PageAt w13 b 130 g (M ++ (([s, v, k, se, rq].map fun v => (numEnc v).1).flatten ++ opsEnc l)) by rw [← List.append_assoc]; exact hp)
      have F13 := Aside0.mk (pg_then (Frm.of_below HA.out (pg w b g)) (pg_then F12.out hf))
      clear hp hf q5
      go_wp2
      refine bodyPost_end (results_none rfl _ _ _) rfl ?_
      exact ⟨⟨_, rfl⟩, P13.out, F13.out⟩
def note_EncodeEntry.f (s v k se rq : Int) (l : List S40) : Option (List Int × Int) := some (if entOk s v k se rq l = true then (entBytes s v k se rq l, 0) else ([], 30))
set_option maxHeartbeats 8000000 in
set_option maxRecDepth 100000 in
theorem note_EncodeEntry.calls (s v k se rq : Int) (A : Option Addr) (c : Nat) (l : List S40) (r1 : List Int) (r2 : Int) (w : World) (hr0_5 : Kd.C k40 w A l.length l) (hc0_5 : l.length ≤ c) (h : note_EncodeEntry.f s v k se rq l = some (r1, r2)) :
    Calls Try.prog 52 #[.agg #[.int .i64 s, .int .i64 v, .int .i64 k, .int .i64 se, .int .i64 rq, .slice A l.length c]] w fun e w' => ∃ v0_ : Value, e = .returned (.tuple #[v0_, .int .i64 r2]) ∧ Kd.R (Kd.int .u8) 5 w' w.heap.size (fun _ => True) v0_ r1 ∧ Below w.heap.size w w' := by
  have hu24 := Try.underlying24
  obtain ⟨n, hn⟩ : ∃ n, l.length = n := ⟨_, rfl⟩
  rw [hn] at hr0_5 hc0_5 ⊢
  unfold note_EncodeEntry.f at h
  replace h := Option.some.inj h
  have HC := Aside0.mk hr0_5
  have HN := Aside0.mk hn
  clear hr0_5 hn
  obtain ⟨ok, hok⟩ : ∃ ok, entOk s v k se rq l = ok := ⟨_, rfl⟩
  rw [hok] at h
  have HOK := Aside0.mk hok
  have HH := Aside0.mk h
  clear h hok
  go_enter Try.func52, Try.ntmps52
  go_wp2_with fail
  obtain ⟨p, hp⟩ : ∃ p, p = w.heap.size := ⟨_, rfl⟩
  obtain ⟨w1, hw1⟩ : ∃ w1, w1 = w.alloc (.cells #[.int .i64 s, .int .i64 v, .int .i64 k, .int .i64 se, .int .i64 rq, .slice A n c] 24) := ⟨_, rfl⟩
  rw [← hw1, ← hp]
  have HA := Aside0.mk (show Below w.heap.size w w1 by rw [hw1]; exact below_alloc (Below.refl _ _) _)
  have HPB := Aside0.mk (show w1.heap[p]? = some (.cells #[.int .i64 s, .int .i64 v, .int .i64 k, .int .i64 se, .int .i64 rq, .slice A n c] 24 (0, 0)) by rw [hw1, hp]; exact heap_alloc_new w _)
  have HPW := Aside0.mk (show p = w.heap.size from hp)
  clear hp hw1
  refine (mayEntry_N s v k se rq A c n l w1 HN.out (Kd.C_below HC.out HA.out) hc0_5).mono ?_
  rintro e2 w2 ⟨rfl, hb⟩
  rw [HOK.out]
  have HB2 := Aside0.mk (below_step HA.out hb)
  have hp2 : w2.heap[p]? = some (.cells #[.int .i64 s, .int .i64 v, .int .i64 k, .int .i64 se, .int .i64 rq, .slice A n c] 24 (0, 0)) := (hb.block p (blk_lt HPB.out)).trans HPB.out
  clear hb
  cases ok
  · have hr := HH.out
    simp only [Bool.false_eq_true, if_false, Prod.mk.injEq] at hr
    obtain ⟨rfl, rfl⟩ := hr
    clear hp2
    go_wp2
    refine bodyPost_ret (results_tmp2 rfl _ _ _) rfl ?_
    exact ⟨_, rfl, Kd.R_nil _ _ _ _ _, HB2.out⟩
  · have hr := HH.out
    simp only [if_true, Prod.mk.injEq] at hr
    obtain ⟨rfl, rfl⟩ := hr
    have hn4 : n ≤ 4 := by rw [← HN.out]; exact entOk_ops HOK.out
    have hp3 : (w2.alloc (.cells #[.slice none 0 0] 130)).heap[p]? = some (.cells #[.int .i64 s, .int .i64 v, .int .i64 k, .int .i64 se, .int .i64 rq, .slice A n c] 24 (0, 0)) := (Below.heap_alloc _ _ _ (blk_lt hp2)).trans hp2
    have k0 := blk_cell hp3 0
    have k1 := blk_cell hp3 1
    have k2 := blk_cell hp3 2
    have k3 := blk_cell hp3 3
    have k4 := blk_cell hp3 4
    have k5 := blk_cell hp3 5
    clear hp2 hp3
    go_wp2_with fail
    obtain ⟨w3, hw3⟩ : ∃ w3, w3 = w2.alloc (.cells #[.slice none 0 0] 130) := ⟨_, rfl⟩
    obtain ⟨g, hg⟩ : ∃ g, g = w2.heap.size := ⟨_, rfl⟩
    rw [← hw3, ← hg]
    have HG := Aside0.mk (show w3.heap[g]? = some (.cells #[.slice none 0 0] 130 (0, 0)) by rw [hw3, hg]; exact heap_alloc_new w2 _)
    have HB3 := Aside0.mk (show Below w.heap.size w w3 by rw [hw3]; exact below_alloc HB2.out _)
    have HGE := Aside0.mk (show w.heap.size ≤ g by rw [hg]; exact HB2.out.size)
    clear hw3 hg k0 k1 k2 k3 k4 k5
    refine (put_entry w w.heap.size g [] s v k se rq A c n l w3 rfl HN.out HC.out HOK.out HB3.out ⟨HGE.out, _, HG.out, Kd.R_nil _ _ _ _ _⟩ (by simp)).mono ?_
    rintro e4 w4 ⟨⟨z4, rfl⟩, hp4, hf4⟩
    have HB4 := Aside0.mk (pg_below HB3.out hf4)
    obtain ⟨_, v4, hg4, ho4⟩ := hp4
    obtain ⟨A4, n4, c4, rfl, hn4', hc4⟩ := R8_form ho4
    have HO4 := Aside0.mk (show R8 w4 w.heap.size (.slice A4 n4 c4) (entBytes s v k se rq l) by
      have h : [] ++ (([s, v, k, se, rq].map fun v => (numEnc v).1).flatten ++ opsEnc l) = entBytes s v k se rq l := by unfold entBytes; simp
      rw [← h]; exact ho4)
    have q0 : w4.cell? ⟨g, 0, none⟩ = some (.slice A4 n4 c4) := blk_cell hg4 0
    clear hf4 hg4 ho4 hn4' hc4
    go_wp2
    refine bodyPost_ret (results_tmp2 rfl _ _ _) rfl ?_
    exact ⟨_, rfl, HO4.out, HB4.out⟩

end Go.Proofs.Ytdbniihjkiecbaa.PW
