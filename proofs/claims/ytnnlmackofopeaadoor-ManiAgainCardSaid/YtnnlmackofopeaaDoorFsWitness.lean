/- A world that has the two tables. -/
import Derived.Test.YtnnlmackofopeaaDoorRows
import Derived.LaidHandle
import Derived.LaidLaws
import Derived.ChangeSame
import Derived.ChangeVars
import Derived.JoinedOf
import Derived.ProofKit
import Derived.WalkKit
namespace Go.Proofs.YtnnlmackofopeaaDoor.Fs
open Go.RowKit
noncomputable def gNo (n : String) : Nat := (Tryd.prog.globalNamed n).getD 0
def flatV : Nat → DataW Unit → List Value
  | n + 1, .agg l => l.flatMap (flatV n)
  | _ + 1, .lit (.int k v) => [.int k v]
  | _, _ => []
noncomputable def laidW (os : Os) : World :=
  let w0 := World.holding Tryd.prog os ⟨#[], #[], []⟩
  { w0 with heap := (w0.heap.modify (gNo "unicode/utf8.acceptRanges") fun
      | .cells _ t fz => .cells (flatV 4 Rows.laid_unicode_utf8_acceptRanges).toArray t fz
      | o => o).modify (gNo "unicode/utf8.first") fun
      | .cells _ t fz => .cells (flatV 4 Rows.laid_unicode_utf8_first).toArray t fz
      | o => o }
theorem laidW_met (os : Os) (args : Array Value) : laidMetH Tryd.prog [("unicode/utf8.acceptRanges", Rows.laid_unicode_utf8_acceptRanges), ("unicode/utf8.first", Rows.laid_unicode_utf8_first)] ((laidW os).forCall (fun _ _ => 0) ⟨#[], args, []⟩).memory :=
  laidMetH_of_parts (laidMet_of_run' 8 (by kernel_rfl) (by kernel_rfl)) (by kernel_rfl)
end Go.Proofs.YtnnlmackofopeaaDoor.Fs
