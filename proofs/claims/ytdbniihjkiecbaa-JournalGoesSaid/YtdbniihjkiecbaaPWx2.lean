/- The machine's side of functions, in one namespace: each function's call comes to what its Lean function tells. -/
import Derived.Test.YtdbniihjkiecbaaPWx0
namespace Go.Proofs.Ytdbniihjkiecbaa.PW
open Go.RowKit Go.Proofs.YtdbniihjkiecbaaW.PrintWords Go.Proofs.YtdbniihjkiecbaaW.PrintLast Go.Proofs.YtdbniihjkiecbaaW.PrintMore
attribute [local go_sem] max2_int min2_int max_two min_two max_three min_three max_four min_four   -- for this text's walks alone
set_option linter.unusedVariables false
set_option linter.unusedSimpArgs false

theorem eqA40 (d : Nat) (w : World) (x0 y0 : Int) (x1 y1 : ByteArray) (x2 y2 : ByteArray) (x3 y3 : Int) (x4 y4 : Int) :
    (Op.equalIn (d + 2) 40 (.agg #[.int .i64 x0, .string x1, .string x2, .int .i64 x3, .int .i64 x4]) (.agg #[.int .i64 y0, .string y1, .string y2, .int .i64 y3, .int .i64 y4])).run Try.prog w = .ok (x0 == y0 && (x1.toList == y1.toList && (x2.toList == y2.toList && (x3 == y3 && (x4 == y4))))) w := by
  refine eqA_of Try.underlying40 (by kernel_rfl) ?_
  refine eqf_cons (by rfl) (by go_simp; rfl) (by go_simp; rfl) (by go_simp) ?_
  refine eqf_cons (by rfl) (by go_simp; rfl) (by go_simp; rfl) (by go_simp) ?_
  refine eqf_cons (by rfl) (by go_simp; rfl) (by go_simp; rfl) (by go_simp) ?_
  refine eqf_cons (by rfl) (by go_simp; rfl) (by go_simp; rfl) (by go_simp) ?_
  exact eqf_last (by rfl) (by go_simp; rfl) (by go_simp; rfl) (by go_simp)
end Go.Proofs.Ytdbniihjkiecbaa.PW
