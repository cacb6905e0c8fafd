/- An argument of type [][]byte, opened: its rows, and what the bound on its bulk tells of them. -/
import Derived.Test.YtnanaojjhmpilaaRows
import Derived.Test.YtnanaojjhmpilaaM6
import Derived.WalkKit
import Derived.ProofKit
import Derived.OpenShut
import Derived.ChangeOld
import Derived.Below
import Derived.JoinedCond
import Derived.Deep.Matrix
namespace Go.Proofs.Ytnanaojjhmpilaa.PW
open Go.ChangeShapes Go.WideShapes Go.ChangeAt Go.RowKit Go.Deep
open Go.Proofs.YtnanaojjhmpilaaW.PrintWords Go.Proofs.YtnanaojjhmpilaaW.PrintLast Go.Proofs.YtnanaojjhmpilaaW.PrintMore
set_option linter.unusedVariables false

theorem bulk_one {H : Type} (d : DataW H) : 1 ≤ Rows.uptoBulk d := by
  cases d with
  | lit l => cases l <;> simp [Rows.uptoBulk]
  | nil => simp [Rows.uptoBulk]
  | ptr d => simp [Rows.uptoBulk]
  | slice elems spare => simp [Rows.uptoBulk]
  | agg parts => simp [Rows.uptoBulk]
  | iface t d => simp [Rows.uptoBulk]
  | map entries => simp [Rows.uptoBulk]
  | held h => simp [Rows.uptoBulk]
theorem bulk_len {H : Type} (l : List (DataW H)) : l.length ≤ Rows.uptoBulkAll l := by
  induction l with
  | nil => simp [Rows.uptoBulkAll]
  | cons x r ih => have := bulk_one x; simp only [Rows.uptoBulkAll, List.length_cons]; omega
theorem bulk_row {H : Type} (k : IntKind) (A : Option Addr) (L C : Nat) (Z : List Int) (h1 : L ≤ C) (h2 : Z.length = C) (h3 : A = none → C = 0) : L + 1 ≤ Rows.uptoBulk (intRow (H := H) k A L Z) := by
  cases A with
  | none => have := h3 rfl; have := bulk_one (intRow (H := H) k none L Z); omega
  | some a =>
    simp only [intRow, Rows.uptoBulk]
    have := bulk_len (lits (H := H) k (Z.take L))
    have e : (lits (H := H) k (Z.take L)).length = L := by simp [lits]; omega
    omega
theorem bulk_rows {H : Type} (g : Nat → List Int) (D : Nat → DataW H) : ∀ rs : List Nat, (∀ r ∈ rs, (g r).length + 1 ≤ Rows.uptoBulk (D r)) → tot (rs.map g) + rs.length ≤ Rows.uptoBulkAll (rs.map D) := by
  intro rs
  induction rs with
  | nil => intro _; simp [tot, Rows.uptoBulkAll]
  | cons r t ih =>
    intro h
    have h1 := h r List.mem_cons_self
    have h2 := ih (fun q hq => h q (List.mem_cons_of_mem _ hq))
    have e : tot ((r :: t).map g) = (g r).length + tot (t.map g) := by unfold tot; simp
    simp only [List.map_cons, Rows.uptoBulkAll, List.length_cons] at h2 ⊢
    rw [List.map_cons] at e
    omega

/-- WHAT A [][]byte ARGUMENT READS AS. -/
theorem open_pieces {H : Type} {enc : TypeId × Value → H} {W : World} {a : Option Addr} {len cap : Nat} {d : DataW H} {p : List MemPlace} (h0 : DataW.Trod enc Try.prog W 0 (fun _ => true) true 37 (.slice a len cap) d p) :
    ∃ l0 : List (List Int), l0.length = len ∧ Kd.C (Kd.slice 5 (Kd.int .u8)) W a len l0 ∧ len ≤ cap ∧ (∀ q ∈ l0, bytesOk q = true) ∧ tot l0 + len ≤ Rows.uptoBulk d := by
  obtain ⟨fuel, hf⟩ := h0
  rcases open_int_rows Try.underlying37 Try.underlying22 Try.underlying5 (by kernel_rfl) (by kernel_rfl) hf with ⟨hcs0, hx⟩ | ⟨a1, len', cap', A, L, C, Z, hcs0, _, hl, hm, hx, hrows⟩
  · simp [Value.cells] at hcs0
    obtain ⟨rfl, rfl, rfl⟩ := hcs0
    simp only [Prod.mk.injEq] at hx
    obtain ⟨rfl, rfl⟩ := hx
    exact ⟨[], rfl, ⟨rfl, by omega, fun h => absurd h (by omega)⟩, Nat.le_refl _, by simp, by simp [tot, Rows.uptoBulk]⟩
  · simp [Value.cells] at hcs0
    obtain ⟨rfl, rfl, rfl⟩ := hcs0
    simp only [Prod.mk.injEq] at hx
    obtain ⟨rfl, rfl⟩ := hx
    have each : ∀ r, r < len → ∃ q : List Int, q.length = L r ∧ C8 W (A r) q.length q ∧ (∀ x ∈ q, (Lit.int .u8 x).wf = true) ∧ q.length ≤ C r := by
      intro r hr
      obtain ⟨hc, hLC, hCm, hZ, hwf, hnone, hsome⟩ := hrows r (by omega)
      have hrow : ((A r) = none ∧ L r = 0 ∧ C r = 0 ∧ Z r = []) ∨ ∃ x, (A r) = some x ∧ L r ≤ C r ∧ C r ≤ maxLen ∧ (Z r).length = C r ∧ (∀ i, i < (Z r).length → W.cell? (x.add i) = some (.int .u8 ((Z r).getD i 0))) ∧ ∀ n ∈ Z r, (Lit.int .u8 n).wf = true := by
        rcases hA : A r with _ | x
        · have hC0 := hnone hA
          have hL0 : L r = 0 := by omega
          exact .inl ⟨rfl, hL0, hC0, List.eq_nil_of_length_eq_zero (by omega)⟩
        · exact .inr ⟨x, rfl, hLC, hCm, hZ, fun i hi => (hsome x hA).2 i (by omega), hwf⟩
      obtain ⟨l, h1, h2, h3, h4, h5⟩ := ReadsInt.ofRowC hrow
      exact ⟨l, h1.symm, Kd.C_of_reads (d := (0 : Int)) (h1 := fun _ => rfl) h2, h4, h5⟩
    obtain ⟨g, hg⟩ := choose_lt each
    have hlen : ((List.range len).map g).length = len := by simp
    have hmax : maxLen = 9223372036854775807 := rfl
    refine ⟨(List.range len).map g, hlen, ⟨hlen, by omega, fun _ => ⟨a1, rfl, fun j q hj => ?_⟩⟩, hl, fun q hq => ?_, ?_⟩
    · rw [List.getElem?_map] at hj
      obtain ⟨j', hj', rfl⟩ := Option.map_eq_some_iff.1 hj
      obtain ⟨hjl, he⟩ := List.getElem?_eq_some_iff.1 hj'
      rw [List.getElem_range] at he
      subst he
      rw [List.length_range] at hjl
      obtain ⟨h1, h2, h3, h4⟩ := hg j hjl
      refine ⟨[.slice (A j) (g j).length (C j)], rfl, ⟨A j, C j, rfl, h4, h2⟩, fun i u hu => ?_⟩
      obtain ⟨rfl, rfl⟩ : i = 0 ∧ u = .slice (A j) (g j).length (C j) := by
        cases i with
        | zero => exact ⟨rfl, by simpa using hu.symm⟩
        | succ i => simp at hu
      rw [show j * (Kd.slice 5 (Kd.int .u8)).sz + 0 = j from Nat.mul_one j, h1]
      exact (hrows j (by omega)).1
    · obtain ⟨r, hr, rfl⟩ := List.mem_map.1 hq
      rw [List.mem_range] at hr
      exact bytesOk_of_wf _ (hg r hr).2.2.1
    · have hb := bulk_rows g (fun r => intRow (H := H) .u8 (A r) (L r) (Z r)) (List.range len) (fun r hr => by
        rw [List.mem_range] at hr
        obtain ⟨_, hLC, _, hZ, _, hnone, _⟩ := hrows r (by omega)
        rw [(hg r hr).1]
        exact bulk_row .u8 (A r) (L r) (C r) (Z r) hLC hZ hnone)
      rw [List.length_range] at hb
      simp only [Rows.uptoBulk]
      omega
end Go.Proofs.Ytnanaojjhmpilaa.PW
