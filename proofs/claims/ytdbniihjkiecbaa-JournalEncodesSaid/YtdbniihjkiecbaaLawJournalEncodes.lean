/- JournalEncodes: what Encode writes of any number and record is what the document's own answer says, other ops laid into the same list too: for all numbers and records; no condition. -/
import Derived.Test.YtdbniihjkiecbaaRows
import Derived.Test.YtdbniihjkiecbaaX2
import Derived.WalkKit
import Derived.ProofKit
import Derived.OpenShut
import Derived.ShutString
import Derived.ChangeOld
import Derived.Below
import Derived.SizedLaws
namespace Go.Proofs.Ytdbniihjkiecbaa.journalEncodes
open Go.ChangeShapes Go.WideShapes Go.ChangeAt Go.RowKit
open Go.ChangeMaps (open_string shut_string)
set_option linter.unusedVariables false
theorem own : ownKnob Try.prog.godebug = none := by kernel_rfl
theorem laidOut : laidOutB Try.prog = true := by kernel_rfl
set_option maxRecDepth 100000 in
theorem lifted (os : Os) (started : os.Started) (H : Type) (enc : TypeId × Value → H) :
    ReturnsInHanded {} Try.checked os 3 .any (Rows.journalEncodesSpec.pre6 enc Try.prog Try.f3 Rows.journalEncodesRow.domain false) (Rows.journalEncodesSpec.post enc Try.prog Try.f3 false true false false) := by
  refine returnsInHanded_of_change_sized (C := Try.checked) own started (by kernel_rfl) Try.func3
    (ChangeSpec.witness6 (enc := enc) (C := Try.checked) false ⟨#[], #[.int .i64 0, .agg #[.int .i64 0, .int .i64 0, .int .i64 0, .int .i64 0, .int .i64 0, .int .i64 0, .slice none 0 0, .int .i64 0, .int .i64 0, .int .i64 0, .int .i64 0, .int .i64 0, .string ⟨#[]⟩]], []⟩ 8 (by kernel_rfl) (by kernel_rfl) (by kernel_rfl) (by kernel_rfl)) ?_
  intro W base args ds gs before hval0 hW hcnd hsz0 _
  have hsz : (DataW.weightsEach Try.prog (Try.f3.params.toList ++ Rows.journalEncodesSpec.plain.varTypes Try.prog) (ds ++ gs)).all (· ≤ reachBytes) = true := hsz0
  have hval : ∀ (j : Nat) t v, Try.f3.params[j]? = some t → args[j]? = some v → Value.okWide Try.prog W .any base t v := hval0
  have hW' := hW
  obtain ⟨p, q, hA0, hV, rfl, hfz, hnd⟩ := hW
  have hA : DataW.TrodAll enc Try.prog W 0 (fun _ => true) true Try.f3.params.toList args.toList ds p := hA0
  rw [Try.params3] at hA hval hsz
  obtain ⟨v0, vs0, d0, ds0, p0, q0, hargs, rfl, rfl, h0, r0⟩ := trodAll_cons hA
  obtain ⟨v1, vs1, d1, ds1, p1, q1, rfl, rfl, rfl, h1, r1⟩ := trodAll_cons r0
  obtain ⟨rfl, rfl, rfl⟩ := trodAll_nil r1
  obtain rfl : args = #[v0, v1] := by cases args; simp_all
  obtain ⟨rfl, rfl⟩ := trodVars_none hV
  obtain ⟨a0, rfl, rfl, rfl, w0⟩ := open_int Try.underlying3 (hval 0 3 v0 rfl rfl) h0
  obtain ⟨cs, rfl, hcs⟩ := okWide_struct Try.underlying28 (hval 1 28 v1 rfl rfl)
  have k1 := h1
  have lt1 : ∀ x ∈ p1, x.block < W.heap.size := by obtain ⟨m, hm⟩ := k1; exact DataW.trod_lt m _ _ _ hm
  have hw1 : PW.Wt 28 d1 := fun n hn => by
    have := List.all_eq_true.1 hsz n (DataW.weights_mem_each (j := 1) (t := 28) (d := d1) rfl rfl n hn)
    simpa using this
  obtain ⟨kd, s, v, k, se, rq, A, len, c, vn, vp, vb, st, of, y, l, hcl, hll, hlc, hC, hb⟩ : ∃ kd s v k se rq A len c vn vp vb st of, ∃ (y : ByteArray) (l : List PW.S40), cs.toList = [.int .i64 kd, .int .i64 s, .int .i64 v, .int .i64 k, .int .i64 se, .int .i64 rq, .slice A len c, .int .i64 vn, .int .i64 vp, .int .i64 vb, .int .i64 st, .int .i64 of, .string y] ∧ l.length = len ∧ len ≤ c ∧ Go.Proofs.YtdbniihjkiecbaaW.PrintWords.Kd.C PW.k40 W A len l ∧ len ≤ 2513169434843 := by
    obtain ⟨fuel, hf⟩ := h1
    exact PW.open28 hf hw1
  obtain rfl : cs = #[.int .i64 kd, .int .i64 s, .int .i64 v, .int .i64 k, .int .i64 se, .int .i64 rq, .slice A len c, .int .i64 vn, .int .i64 vp, .int .i64 vb, .int .i64 st, .int .i64 of, .string y] := Array.toList_inj.1 hcl
  clear hA0 hval0 hsz0 hsz
  refine (PW.journalEncodes_walk a0 kd s v k se rq A c len l vn vp vb st of y W hll hC hlc hb).mono fun e W' ⟨he, bel⟩ => ?_
  subst he
  exact ⟨_, rfl, _, _, _, [], _, [], hW', trodAll_mk1 (shut_bool Try.underlying4 _), (trodAll_cons_mk (shut_int Try.underlying3 w0) (trodAll_cons_mk (Below.trod laidOut (by kernel_rfl) (of_decide_eq_true (by kernel_rfl)) k1 bel lt1) trodAll_mk0)), rfl, bel.frame _, fun h => by cases h⟩
theorem over : Rows.journalEncodesRow.holds Try.pinned (OpenSpec.ofChange Rows.journalEncodesSpec) :=
  OpenClaim.holds_of_wide 3 Try.f3 rfl rfl rfl rfl rfl rfl rfl ⟨rfl, rfl, rfl, rfl, rfl⟩ rfl rfl rfl rfl rfl (by kernel_rfl) Try.func3 (by kernel_rfl)
    (of_decide_eq_true (by kernel_rfl)) (by unfold Func.isWrapper; first | (rw [if_pos (by decide +kernel)]; kernel_rfl) | (rw [if_neg (by decide +kernel)]; exact ⟨rfl, rfl⟩))
    (fun os started H enc _ => lifted os started H enc)
theorem proved : Rows.JournalEncodesSaid := over
#print axioms proved
end Go.Proofs.Ytdbniihjkiecbaa.journalEncodes
namespace Go.Proofs.Ytdbniihjkiecbaa
/-- The row, under a short name, for the claim. -/
theorem journalEncodes_holds : Rows.JournalEncodesSaid := journalEncodes.proved
end Go.Proofs.Ytdbniihjkiecbaa
