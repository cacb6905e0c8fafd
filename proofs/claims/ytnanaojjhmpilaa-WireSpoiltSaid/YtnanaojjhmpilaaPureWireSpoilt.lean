/- WireSpoilt: for every body, place, turn and cut: a frame is taken out as it was; with one byte turned, cut short, or with one more it is refused; no condition. -/
import Derived.Test.YtnanaojjhmpilaaPWx12
namespace Go.Proofs.Ytnanaojjhmpilaa.Pure
open Go.RowKit Go.Proofs.Ytnanaojjhmpilaa.PW Go.Proofs.YtnanaojjhmpilaaW.PrintWords Go.Proofs.YtnanaojjhmpilaaW.PrintLast

/-- What is left over lists of bytes. -/
theorem WireSpoilt : heraldlaw2_WireSpoilt.Pure := by
  intro l0 a1 a2 a3 h1 h2 h3 h4 h5 h6
  unfold heraldlaw2_WireSpoilt.f
  simp [Lit.wf, IntKind.min, IntKind.max, IntKind.signed, IntKind.bits] at h4 h5 h6
  rw [if_pos ⟨bytesOk_of_wf _ h3, by omega, by omega, by omega, by omega⟩]

end Go.Proofs.Ytnanaojjhmpilaa.Pure
