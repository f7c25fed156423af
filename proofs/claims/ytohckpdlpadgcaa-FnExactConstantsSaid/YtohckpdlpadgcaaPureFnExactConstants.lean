/- The law FnExactConstants tells true: every constant is the document's. No condition. -/
import Derived.Test.YtohckpdlpadgcaaPFnExactConstantsx1
namespace Go.Proofs.Ytohckpdlpadgcaa.Pure
open Go.RowKit Go.Proofs.Ytohckpdlpadgcaa.PFnExactConstants Go.Proofs.YtohckpdlpadgcaaW.PrintWords Go.Proofs.YtohckpdlpadgcaaW.PrintLast

/-- YOURS: laws_FnExactConstants.f  = some true
What it reaches (each with k first where it has rounds; `.mono`: more rounds tell the same; `.l0`, ..: its loops, with `.mono_l`): laws_FnExactConstants.f -/
theorem FnExactConstants : laws_FnExactConstants.Pure := by
  rfl

end Go.Proofs.Ytohckpdlpadgcaa.Pure
