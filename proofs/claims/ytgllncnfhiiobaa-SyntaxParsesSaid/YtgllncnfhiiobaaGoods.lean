/- Which names are good, by the program and by the document's answer. -/
import Derived.Test.YtgllncnfhiiobaaPx3
import Derived.Test.YtgllncnfhiiobaaEvPos
set_option linter.unusedVariables false
set_option linter.unusedSimpArgs false
namespace Go.Proofs.Ytgllncnfhiiobaa.Pure
open Go.RowKit Go.Proofs.Ytgllncnfhiiobaa.P Go.Proofs.YtgllncnfhiiobaaW.PrintWords Go.Proofs.YtgllncnfhiiobaaW.PrintLast Go.Proofs.Ytgllncnfhiiobaa

theorem letter_ref (c : UInt8) : primerref04_letter.f (c.toNat : Int) = some (Lx.letter c) := by
  revert c
  exact all_bytes (by decide +kernel)
theorem rest_ref (c : UInt8) : primerref04_rest.f (c.toNat : Int) = some (Lx.inName c) := by
  revert c
  exact all_bytes (by decide +kernel)

end Go.Proofs.Ytgllncnfhiiobaa.Pure
