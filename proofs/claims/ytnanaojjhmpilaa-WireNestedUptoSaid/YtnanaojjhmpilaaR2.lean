/- An argument []int, opened. -/
import Derived.Test.YtnanaojjhmpilaaR1
namespace Go.Proofs.Ytnanaojjhmpilaa.PW
open Go.ChangeShapes Go.WideShapes Go.ChangeAt Go.RowKit Go.Proofs.YtnanaojjhmpilaaW.PrintWords Go.Proofs.YtnanaojjhmpilaaW.PrintLast Go.Proofs.YtnanaojjhmpilaaW.PrintMore
set_option linter.unusedVariables false
theorem open_nums {H : Type} {enc : TypeId × Value → H} {W : World} {a : Option Addr} {len cap : Nat} {d : DataW H} {p : List MemPlace} (h0 : DataW.Trod enc Try.prog W 0 (fun _ => true) true 50 (.slice a len cap) d p) :
    ∃ l0 : List Int, l0.length = len ∧ Kd.C (Kd.int .i64) W a len l0 ∧ len ≤ cap ∧ len ≤ Rows.uptoBulk d := by
  obtain ⟨fuel, hf⟩ := h0
  rcases open_ints Try.underlying50 Try.underlying3 (by kernel_rfl) hf with ⟨hcs, hx⟩ | ⟨x, l, c, zs, hcs, _, hl, hm, hz, hx, hcell, hwz⟩
  · simp [Value.cells] at hcs
    obtain ⟨rfl, rfl, rfl⟩ := hcs
    exact ⟨[], rfl, ⟨rfl, by omega, fun h => absurd h (by omega)⟩, Nat.le_refl _, Nat.zero_le _⟩
  · simp [Value.cells] at hcs
    obtain ⟨rfl, rfl, rfl⟩ := hcs
    simp only [Prod.mk.injEq] at hx
    obtain ⟨rfl, rfl⟩ := hx
    have hz' : zs.length = cap := by simpa using hz
    obtain ⟨l, h1, h2, _, _, h5⟩ := ReadsInt.ofRowC (.inr ⟨x, rfl, hl, hm, hz', hcell, hwz⟩)
    refine ⟨l, h1.symm, ?_, hl, ?_⟩
    · rw [h1]; exact Kd.C_of_reads (enc := Value.int .i64) (d := (0 : Int)) (h1 := fun _ => rfl) h2
    · have := bulk_len (lits (H := H) .i64 (zs.take len))
      have e : (lits (H := H) .i64 (zs.take len)).length = len := by simp [lits]; omega
      simp only [Rows.uptoBulk]
      omega
end Go.Proofs.Ytnanaojjhmpilaa.PW
