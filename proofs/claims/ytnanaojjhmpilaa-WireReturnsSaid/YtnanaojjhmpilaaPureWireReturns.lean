/- WireReturns: for every number, text and bytes ahead and behind, what Number and Text write is read again with the place behind it told; no condition. -/
import Derived.Test.YtnanaojjhmpilaaPWx10
namespace Go.Proofs.Ytnanaojjhmpilaa.Pure
open Go.RowKit Go.Proofs.Ytnanaojjhmpilaa.PW Go.Proofs.YtnanaojjhmpilaaW.PrintWords Go.Proofs.YtnanaojjhmpilaaW.PrintLast

theorem str_bytes (s : ByteArray) : strOfNums (bytesOf s) = s := by
  unfold strOfNums bytesOf
  rw [List.map_map]
  have : ((fun n : Int => UInt8.ofNat n.toNat) ∘ fun b : UInt8 => (b.toNat : Int)) = id := by
    funext b; simp
  rw [this, List.map_id]

theorem returns_tail (k : Nat) (v : Int) (s : ByteArray) (ahead behind : List Int) (h0 : 0 ≤ v) (h1 : v ≤ 2147483647) (hs : s.size ≤ 20000) (ha : ahead.length ≤ 20000) (hb : behind.length ≤ 20000) (hao : bytesOk ahead = true) (hbo : bytesOk behind = true) :
    heraldlaw2_WireReturns.j2 (k + 1) v s ahead behind (numBytes 4 v) (numBytes 4 s.size ++ bytesOf s) false = some true := by
  have l1 := numBytes_len 4 v
  have l2 := numBytes_len 4 (s.size : Int)
  have l3 : (bytesOf s).length = s.size := bytesOf_length s
  have l4 : (numBytes 4 (s.size : Int) ++ bytesOf s).length = (numBytes 4 (s.size : Int)).length + s.size := by rw [List.length_append, l3]
  simp only [heraldlaw2_WireReturns.j2, Bool.false_eq_true, if_false, Option.bind_some, List.nil_append, List.length_nil, List.length_append]
  rw [if_pos (by omega), if_pos (by omega), if_pos (by omega), if_pos (by omega)]
  have hd : ahead ++ numBytes 4 v ++ (numBytes 4 ↑s.size ++ bytesOf s) ++ behind = ahead ++ (numBytes 4 v ++ ((numBytes 4 ↑s.size ++ bytesOf s) ++ behind)) := by simp [List.append_assoc]
  have hd2 : ahead ++ numBytes 4 v ++ (numBytes 4 ↑s.size ++ bytesOf s) ++ behind = (ahead ++ numBytes 4 v) ++ ((numBytes 4 ((bytesOf s).length : Int) ++ bytesOf s) ++ behind) := by rw [l3]; simp [List.append_assoc]
  have hok : bytesOk (ahead ++ numBytes 4 v ++ (numBytes 4 ↑s.size ++ bytesOf s) ++ behind) = true :=
    bytesOk_append (bytesOk_append (bytesOk_append hao (numBytes_ok 4 v h0)) (bytesOk_append (numBytes_ok 4 _ (by omega)) (bytesOf_ok s))) hbo
  have hlen : (ahead ++ numBytes 4 v ++ (numBytes 4 ↑s.size ++ bytesOf s) ++ behind).length ≤ 140737488355328 := by simp only [List.length_append]; omega
  have r1 := readNum_written ahead ((numBytes 4 ↑s.size ++ bytesOf s) ++ behind) v h0 h1
  rw [← hd] at r1
  have r2 := readText_written (ahead ++ numBytes 4 v) behind (bytesOf s) (by omega)
  rw [← hd2] at r2
  have e0 : wrap64 ((ahead.length : Int) + ((numBytes 4 v).length : Int)) = ((ahead ++ numBytes 4 v).length : Nat) := by rw [List.length_append]; unfold wrap64; omega
  have f1 : wire_ReadNumber.f (ahead ++ numBytes 4 v ++ (numBytes 4 ↑s.size ++ bytesOf s) ++ behind) (ahead.length : Int) = some (v, ((ahead.length + (numBytes 4 v).length : Nat) : Int), 0) := by
    unfold wire_ReadNumber.f; rw [if_pos ⟨hok, hlen⟩, r1]
  have f2 : wire_ReadText.f (ahead ++ numBytes 4 v ++ (numBytes 4 ↑s.size ++ bytesOf s) ++ behind) (((ahead ++ numBytes 4 v).length : Nat) : Int) = some (s, (((ahead ++ numBytes 4 v).length + (numBytes 4 ((bytesOf s).length : Int) ++ bytesOf s).length : Nat) : Int), 0) := by
    unfold wire_ReadText.f; rw [if_pos ⟨hok, hlen⟩, r2, str_bytes]
  rw [e0, f1, f2]
  simp only [Option.bind_some]
  rw [if_pos True.intro, if_pos True.intro, if_pos (by rw [List.length_append]), if_pos True.intro, if_pos True.intro]
  congr 1
  rw [beq_iff_eq, l3]
  simp only [List.length_append]
  unfold wrap64
  omega

/-- The statement over numbers and lists. -/
theorem WireReturns : heraldlaw2_WireReturns.Pure := by
  intro v s ahead behind hv hs ha1 ha2 ha hb1 hb2 hb
  refine ⟨50 + 1 + 1 + 1, ?_⟩
  generalize hk : 50 = k
  unfold heraldlaw2_WireReturns.f heraldlaw2_awake.f
  simp only [Option.bind_some, if_true]
  have big : heraldlaw2_WireReturns.j0 (k + 1 + 1 + 1) v s ahead behind true = some true := by simp only [heraldlaw2_WireReturns.j0, if_true]
  by_cases h1 : (s.size : Int) > 20000
  · rw [if_pos h1, big]
  rw [if_neg h1]
  by_cases h2 : (ahead.length : Int) > 20000
  · rw [if_pos h2, big]
  rw [if_neg h2]
  by_cases h3 : (behind.length : Int) > 20000
  · rw [decide_eq_true h3, big]
  rw [decide_eq_false h3]
  simp only [heraldlaw2_WireReturns.j0, Bool.false_eq_true, if_false]
  rw [wire_Number.eq _ (by omega)]
  simp only [Option.bind_some]
  unfold numEnc
  by_cases n0 : v < 0
  · rw [if_pos n0, if_pos (.inl n0)]
    simp [heraldlaw2_WireReturns.j1]
  · rw [if_neg n0]
    by_cases n1 : v > 2147483647
    · rw [if_pos (.inr n1), decide_eq_true n1]
      simp [heraldlaw2_WireReturns.j1]
    · rw [if_neg (by omega), decide_eq_false n1]
      simp only [heraldlaw2_WireReturns.j1, Bool.false_eq_true, if_false]
      rw [wire_Text.eq _ (by omega)]
      simp only [Option.bind_some]
      have he : textEnc s = (numBytes 4 s.size ++ bytesOf s, 0) := by unfold textEnc; rw [if_neg (by omega)]
      rw [he]
      have := returns_tail k v s ahead behind (by omega) (by omega) (by omega) (by omega) (by omega) (bytesOk_of_wf _ ha) (bytesOk_of_wf _ hb)
      simpa using this

end Go.Proofs.Ytnanaojjhmpilaa.Pure
