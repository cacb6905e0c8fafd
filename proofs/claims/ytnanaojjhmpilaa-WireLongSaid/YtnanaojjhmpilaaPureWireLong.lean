/- WireLong: bodies about the greatest length, whatever number and fill byte is given: framed they are taken out again, or refused; no condition. -/
import Derived.Test.YtnanaojjhmpilaaPWx8
namespace Go.Proofs.Ytnanaojjhmpilaa.Pure
open Go.RowKit Go.Proofs.Ytnanaojjhmpilaa.PW Go.Proofs.YtnanaojjhmpilaaW.PrintWords Go.Proofs.YtnanaojjhmpilaaW.PrintLast

theorem frame_two (a b : List Int) (h : a.length + b.length ≤ 262144) : wire_Frame.f [a, b] = some (frameOf (a ++ b), 0) := by
  unfold wire_Frame.f
  have h1 : piecesOk [a, b] = true := by unfold piecesOk; simp; omega
  have h2 : tot [a, b] ≤ 262144 := by unfold tot; simp; omega
  rw [if_neg (by rw [h1]; decide), if_pos h2]
  simp
theorem frame_two_long (a b : List Int) (h : a.length + b.length > 262144) (h2 : a.length + b.length ≤ 300000) : wire_Frame.f [a, b] = some ([], 2) := by
  unfold wire_Frame.f
  have h1 : piecesOk [a, b] = true := by unfold piecesOk; simp; omega
  have h2 : ¬ tot [a, b] ≤ 262144 := by unfold tot; simp; omega
  rw [if_neg (by rw [h1]; decide), if_neg h2]
theorem bytesOk_set (l : List Int) (i : Nat) (v : Int) (h : bytesOk l = true) (h0 : 0 ≤ v) (h1 : v < 256) : bytesOk (l.set i v) = true := by
  unfold bytesOk at *
  rw [List.all_eq_true] at *
  intro x hx
  rcases List.mem_or_eq_of_mem_set hx with hx | rfl
  · exact h x hx
  · simp; omega
theorem bytesOk_zeros (n : Nat) : bytesOk (List.replicate n 0) = true := by
  unfold bytesOk
  rw [List.all_eq_true]
  intro x hx
  rw [List.mem_replicate] at hx
  simp [hx.2]

theorem long_loop (n fill : Int) (hn0 : 262141 ≤ n) (hn1 : n ≤ 262147) (hf0 : 0 ≤ fill) (hf1 : fill < 256) (d : Nat) : ∀ (k : Nat) (l : List Int) (x : Int), l.length = n.toNat → bytesOk l = true → 0 ≤ x → n - x ≤ 97 * d → d + 300000 < k →
    heraldlaw2_WireLong.l0 k n fill l x = some true := by
  induction d with
  | zero =>
    intro k l x hl hb hx hd hk
    obtain ⟨k, rfl⟩ : ∃ m, k = m + 1 := ⟨k - 1, by omega⟩
    simp only [heraldlaw2_WireLong.l0]
    have e3 : wrap64 (Int.tdiv n 3) = n / 3 := by rw [Int.tdiv_eq_ediv_of_nonneg (by omega)]; unfold wrap64; omega
    rw [if_neg (by omega), e3, if_pos (by omega), if_pos (by omega)]
    have hsum : (l.take (n / 3).toNat).length + (l.drop (n / 3).toNat).length = n.toNat := by rw [List.length_take, List.length_drop]; omega
    by_cases hbig : n > 262144
    · rw [frame_two_long _ _ (by omega) (by omega)]
      simp only [Option.bind_some]
      rw [if_pos hbig]; rfl
    · rw [frame_two _ _ (by omega), List.take_append_drop]
      simp only [Option.bind_some]
      have hu : wire_Unframe.f (frameOf l) = some (l, 0) := by
        unfold wire_Unframe.f
        rw [if_pos ⟨frameOf_ok l hb, by rw [frameOf_length]; omega⟩, unframe_frame l hb (by omega)]
      rw [if_neg hbig, hu]
      simp only [Option.bind_some]
      have e14 : wrap64 (n + 14) = n + 14 := by unfold wrap64; omega
      rw [if_pos True.intro, e14, frameOf_length, if_pos (by omega), if_pos True.intro, heraldlaw2_same.eq k l l (by omega) (by omega)]
      simp
  | succ d ih =>
    intro k l x hl hb hx hd hk
    by_cases hlt : x < n
    · obtain ⟨k, rfl⟩ : ∃ m, k = m + 1 := ⟨k - 1, by omega⟩
      simp only [heraldlaw2_WireLong.l0]
      rw [if_pos hlt, if_pos hx, if_pos (by omega)]
      have e : wrap64 (x + 97) = x + 97 := by unfold wrap64; omega
      rw [e]
      exact ih k _ (x + 97) (by rw [List.length_set]; exact hl) (bytesOk_set l _ _ hb hf0 hf1) (by omega) (by omega) (by omega)
    · exact ih k l x hl hb hx (by omega) (by omega)

/-- The statement over numbers and lists. -/
theorem WireLong : heraldlaw2_WireLong.Pure := by
  intro n fill hn hf
  have hf' : 0 ≤ fill ∧ fill < 256 := by
    simp [Lit.wf, IntKind.min, IntKind.max, IntKind.signed, IntKind.bits] at hf
    omega
  refine ⟨310000 + 1, ?_⟩
  generalize hk : 310000 = k
  have hz : wire_Frame.f ([] : List (List Int)) = some (frameOf [], 0) := by
    unfold wire_Frame.f
    rw [if_neg (by decide), if_pos (by decide)]; rfl
  have hl : (frameOf ([] : List Int)).length = 14 := by rw [frameOf_length]; rfl
  unfold heraldlaw2_WireLong.f
  by_cases h0 : n < 262141
  · rw [if_pos h0]
    simp only [heraldlaw2_WireLong.j0, if_true]
    rw [hz]; simp only [Option.bind_some]; rw [hl, if_pos (by omega)]; rfl
  · rw [if_neg h0]
    simp only [heraldlaw2_WireLong.j0]
    by_cases h1 : n > 262147
    · simp only [h1, decide_true, if_true]
      rw [hz]; simp only [Option.bind_some]; rw [hl, if_pos (by omega)]; rfl
    · simp only [h1, decide_false, Bool.false_eq_true, if_false]
      rw [if_pos (by omega), if_pos (by omega)]
      exact long_loop n fill (by omega) (by omega) hf'.1 hf'.2 3000 k _ 0 (by rw [List.length_replicate]) (bytesOk_zeros _) (by omega) (by omega) (by omega)

end Go.Proofs.Ytnanaojjhmpilaa.Pure
