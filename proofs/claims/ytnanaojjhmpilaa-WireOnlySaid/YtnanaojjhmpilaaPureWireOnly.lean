/- WireOnly: for all bytes and every place, bytes that are read as a number or as a text are just those that are written for what was read; no condition. -/
import Derived.Test.YtnanaojjhmpilaaPWx11
namespace Go.Proofs.Ytnanaojjhmpilaa.Pure
open Go.RowKit Go.Proofs.Ytnanaojjhmpilaa.PW Go.Proofs.YtnanaojjhmpilaaW.PrintWords Go.Proofs.YtnanaojjhmpilaaW.PrintLast

/-- What is left over lists of bytes. -/
theorem WireOnly : heraldlaw2_WireOnly.Pure := by
  intro l0 a1 h1 h2 h3 h4
  unfold heraldlaw2_WireOnly.f
  rw [if_pos ⟨bytesOk_of_wf _ h3, by omega⟩]

end Go.Proofs.Ytnanaojjhmpilaa.Pure
