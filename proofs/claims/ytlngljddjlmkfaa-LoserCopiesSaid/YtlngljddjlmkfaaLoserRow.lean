/- Whatever the reader accepts at the type of entries is an entry. -/
import Derived.Test.YtlngljddjlmkfaaRowKd
import Derived.Test.YtlngljddjlmkfaaPLsx0
namespace Go.Proofs.Ytlngljddjlmkfaa.RowKd
open Go.RowKit Go.ChangeShapes Go.WideShapes Go.Proofs.YtlngljddjlmkfaaW.PrintWords Go.Proofs.Ytlngljddjlmkfaa.PLs

theorem tells37 : Tells Try.prog 37 k37 (fun y : S37 => y.f0.size ≤ maxLen ∧ (Lit.int .u64 y.f1).wf = true) :=
  tells_iso (fun x : S37 => (x.f0, x.f1)) (fun p => ⟨p.1, p.2⟩) (fun _ => rfl)
    (tells_struct2 Try.underlying37 rfl (by kernel_rfl) (by kernel_rfl) (tells_string (by kernel_rfl) (by kernel_rfl)) (tells_int (by kernel_rfl) (by kernel_rfl)))
end Go.Proofs.Ytlngljddjlmkfaa.RowKd
