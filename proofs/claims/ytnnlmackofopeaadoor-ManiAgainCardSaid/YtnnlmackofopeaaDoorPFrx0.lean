/- Contracts of Go functions: called with what reads as these lists and numbers, a function returns what its plain Lean function says, and leaves what was there. Written by a program of this session. -/
import Derived.Test.YtnnlmackofopeaaDoorProg
import Derived.Below
import Derived.Deep.Draws
import Derived.Deep.AppendLies
import Derived.Maps.AppendAt
import Derived.OwnWalk
import Derived.Laws.BytesArg
import Derived.Laws.MakeOwn
import Derived.Laws.OwnMore
import Derived.Deep.OwnRows
import Derived.Tactics
import Derived.Lib.ConvBytes
import Derived.Laws.Slices
import Derived.WalkKit
import Derived.KernelRfl
import Derived.RowKit3
import Derived.Deep.LoopGhost
import Derived.Deep.QuietTactic
import Derived.BigQuiet
import Derived.WideLaws
import Derived.Deep.DeepCutAuto
import Derived.Deep.CutBlock
import Derived.Deep.RegionHeld3
import Derived.Laws.Rows
import Derived.Lib.AppendStr
import Derived.ArgAppend
import Derived.Laws.IdiomCopy
import Derived.OrdersHeld
import Derived.Laws.BitsLemmas
import Derived.RowKit
import Derived.WalkMore
import Derived.ScopeJumps
import Derived.Laws.CopyOwn
import Derived.Lib.SlBytesConst
import Derived.Lib.SliceRun
import Derived.ChangeKeysEq
import Derived.Test.YtnnlmackofopeaaDoorWWords
import Derived.Test.YtnnlmackofopeaaDoorWLast
import Derived.Test.YtnnlmackofopeaaDoorWTab
import Derived.Test.YtnnlmackofopeaaDoorWFour
import Derived.Test.YtnnlmackofopeaaDoorWQPut
import Derived.Test.YtnnlmackofopeaaDoorWApart
import Derived.Test.YtnnlmackofopeaaDoorWArr
import Derived.Test.YtnnlmackofopeaaDoorWZeros
import Derived.Test.YtnnlmackofopeaaDoorWFoot
import Derived.Test.YtnnlmackofopeaaDoorWKept
import Derived.Test.YtnnlmackofopeaaDoorWShare
import Derived.Test.YtnnlmackofopeaaDoorWN
import Derived.Test.YtnnlmackofopeaaDoorWFootNe
import Derived.Test.YtnnlmackofopeaaDoorWAt
import Derived.Test.YtnnlmackofopeaaDoorWEqStruct
import Derived.Test.YtnnlmackofopeaaDoorWRepsOne
import Derived.Test.YtnnlmackofopeaaDoorWInv
import Derived.Test.YtnnlmackofopeaaDoorWInvWords
import Derived.Test.YtnnlmackofopeaaDoorWGuard
import Derived.Test.YtnnlmackofopeaaDoorWNEv
import Derived.Test.YtnnlmackofopeaaDoorWMore
namespace Go.Proofs.YtnnlmackofopeaaDoor.PFr
open Go.RowKit Go.Proofs.YtnnlmackofopeaaDoorW.PrintWords Go.Proofs.YtnnlmackofopeaaDoorW.PrintLast Go.Proofs.YtnnlmackofopeaaDoorW.PrintMore
attribute [local go_sem] max2_int min2_int max_two min_two max_three min_three max_four min_four   -- for this text's walks alone
set_option linter.unusedVariables false
set_option linter.unusedSimpArgs false



def errW : Option Int → Value
  | none => .nilIface
  | some c => .iface 0 (.int .i64 c)
theorem errW_none : errW none = .nilIface := rfl
theorem errW_some (c : Int) : errW (some c) = .iface 0 (.int .i64 c) := rfl

theorem info5 : (Tryd.prog.info? 5).map (fun i => (i.zero, i.size, i.bytes)) = some (some (.int .u8 0), 1, 1) := by kernel_rfl
-- the values' own types

end Go.Proofs.YtnnlmackofopeaaDoor.PFr
