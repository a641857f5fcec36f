/- Whatever the reader accepts at the type of entries is an entry. -/
import Derived.Test.YtmfngihgoanhpaaRowKd
import Derived.Test.YtmfngihgoanhpaaPRunx0
namespace Go.Proofs.Ytmfngihgoanhpaa.RowKd
open Go.RowKit Go.ChangeShapes Go.WideShapes Go.Proofs.YtmfngihgoanhpaaW.PrintWords Go.Proofs.Ytmfngihgoanhpaa.PRun

theorem tells44 : Tells Try.prog 44 k44 (fun y : S44 => y.f0.size ≤ maxLen ∧ (Lit.int .u64 y.f1).wf = true) :=
  tells_iso (fun x : S44 => (x.f0, x.f1)) (fun p => ⟨p.1, p.2⟩) (fun _ => rfl)
    (tells_struct2 Try.underlying44 rfl (by kernel_rfl) (by kernel_rfl) (tells_string (by kernel_rfl) (by kernel_rfl)) (tells_int (by kernel_rfl) (by kernel_rfl)))
end Go.Proofs.Ytmfngihgoanhpaa.RowKd
