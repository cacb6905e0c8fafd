/- WireReads: for all bytes and every place, the readers tell what the document's tell, also of turned lists, and leave what they read as it was; no condition. -/
import Derived.Test.YtnanaojjhmpilaaM3
namespace Go.Proofs.Ytnanaojjhmpilaa.Pure
open Go.RowKit Go.Proofs.Ytnanaojjhmpilaa.PW Go.Proofs.YtnanaojjhmpilaaW.PrintWords Go.Proofs.YtnanaojjhmpilaaW.PrintLast

/-- What is left over lists of bytes. -/
theorem WireReads : heraldlaw2_WireReads.Pure := by
  intro l0 a1 h1 h2 h3 h4
  unfold heraldlaw2_WireReads.f
  rw [if_pos ⟨bytesOk_of_wf _ h3, by omega⟩]

end Go.Proofs.Ytnanaojjhmpilaa.Pure
