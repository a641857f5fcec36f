/- Contracts of Go functions: called with what reads as these lists and numbers, a function returns what its plain Lean function says, and leaves what was there. Written by a program of this session. -/
import Derived.Test.YtnnlmackofopeaaDoorPFrx0
import Derived.Test.YtnnlmackofopeaaDoorPFrx1
import Derived.Test.YtnnlmackofopeaaDoorPFrx2
namespace Go.Proofs.YtnnlmackofopeaaDoor.PFr
open Go.RowKit Go.Proofs.YtnnlmackofopeaaDoorW.PrintWords Go.Proofs.YtnnlmackofopeaaDoorW.PrintLast Go.Proofs.YtnnlmackofopeaaDoorW.PrintMore
attribute [local go_sem] max2_int min2_int max_two min_two max_three min_three max_four min_four   -- for this text's walks alone
set_option linter.unusedVariables false
set_option linter.unusedSimpArgs false

end Go.Proofs.YtnnlmackofopeaaDoor.PFr
