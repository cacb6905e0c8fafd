/- WireSums: for all bytes, Sum is the document's Sum, of the same list also when other bytes stand in it, and the list and the room behind it are left as they were; no condition. -/
import Derived.Test.YtnanaojjhmpilaaM2
namespace Go.Proofs.Ytnanaojjhmpilaa.Pure
open Go.RowKit Go.Proofs.Ytnanaojjhmpilaa.PW Go.Proofs.YtnanaojjhmpilaaW.PrintWords Go.Proofs.YtnanaojjhmpilaaW.PrintLast

/-- What is left over lists of bytes. -/
theorem WireSums : heraldlaw2_WireSums.Pure := by
  intro l0 h1 h2 h3
  unfold heraldlaw2_WireSums.f
  rw [if_pos ⟨bytesOk_of_wf _ h3, by omega⟩]

end Go.Proofs.Ytnanaojjhmpilaa.Pure
