/- Frames and what is read out of them, in plain lists of bytes. -/
import Derived.Test.YtdbniihjkiecbaaK3
namespace Go.Proofs.Ytdbniihjkiecbaa.PW
open Go.RowKit Go.Proofs.YtdbniihjkiecbaaW.PrintWords Go.Proofs.YtdbniihjkiecbaaW.PrintLast Go.Proofs.YtdbniihjkiecbaaW.PrintMore
set_option linter.unusedVariables false
set_option linter.unusedSimpArgs false

theorem bytesOk_append {a b : List Int} (ha : bytesOk a = true) (hb : bytesOk b = true) : bytesOk (a ++ b) = true := by
  unfold bytesOk at *
  rw [List.all_append, ha, hb]; rfl
theorem four4_ok (v : Int) : bytesOk (four4 v) = true := by
  unfold four4 bytesOk
  simp
  omega
theorem four4_len (v : Int) : (four4 v).length = 4 := rfl
theorem numBytes_ok (n : Nat) : ∀ x : Int, 0 ≤ x → bytesOk (numBytes n x) = true := by
  induction n with
  | zero => intro x h; unfold numBytes bytesOk; simp; omega
  | succ n ih =>
    intro x h
    unfold numBytes
    split
    · have := ih (x / 128) (by omega)
      unfold bytesOk at *
      rw [List.all_cons, this]
      simp; omega
    · unfold bytesOk; simp; omega
theorem bytesOf_ok (s : ByteArray) : bytesOk (bytesOf s) = true := by
  unfold bytesOk bytesOf
  rw [List.all_eq_true]
  intro x hx
  simp only [List.mem_map] at hx
  obtain ⟨b, _, rfl⟩ := hx
  have := b.toNat_lt
  simp; omega
theorem bytesOf_str (l : List Int) (hb : bytesOk l = true) : bytesOf (strOfNums l) = l := by
  unfold bytesOf strOfNums
  simp only [List.map_map]
  conv => rhs; rw [← List.map_id l]
  apply List.map_congr_left
  intro x hx
  unfold bytesOk at hb
  rw [List.all_eq_true] at hb
  have := hb x hx
  simp at this
  simp
  omega
end Go.Proofs.Ytdbniihjkiecbaa.PW
