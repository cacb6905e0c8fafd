/- WireUnframes: for all bytes, Unframe tells what the document's Unframe tells, also of turned bytes and of its own written frames, and leaves what it reads as it was; no condition. -/
import Derived.Test.YtnanaojjhmpilaaM4
namespace Go.Proofs.Ytnanaojjhmpilaa.Pure
open Go.RowKit Go.Proofs.Ytnanaojjhmpilaa.PW Go.Proofs.YtnanaojjhmpilaaW.PrintWords Go.Proofs.YtnanaojjhmpilaaW.PrintLast

/-- What is left over lists of bytes. -/
theorem WireUnframes : heraldlaw2_WireUnframes.Pure := by
  intro l0 h1 h2 h3
  unfold heraldlaw2_WireUnframes.f
  rw [if_pos ⟨bytesOk_of_wf _ h3, by omega⟩]

end Go.Proofs.Ytnanaojjhmpilaa.Pure
