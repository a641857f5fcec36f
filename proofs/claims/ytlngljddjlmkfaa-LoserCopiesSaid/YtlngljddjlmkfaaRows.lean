/-
  No cell of these rows narrows 'for every input' (looked for: loops, veiled, ifaces, maps, wideKeys, modest, calm, conditions, laid).
  DERIVED. THE GIVEN ROWS OF THIS SEAT. 5 by the template 'for every input the law returns true; each argument reads behind the call as it read before'; 0 by the template 'total and deterministic' (their statements: YtlngljddjlmkfaaTotals.lean).
  GIVEN WITH THE SEED: the statements are not yours to turn. If you find one false, say at which input.
  Laid BY PROGRAM, IN A SANDBOX (cutbox-rows.mjs): the forced cells as the released guide's own fill.sh prints them over the translation 086d18db936ec720… (all of the seat's roots in one cut). By AI agents, Wed Nov 11 2026. No macro, syntax, notation, axiom, sorry.
-/
import Derived.Test.YtlngljddjlmkfaaChecked
import GoSem.Claim
import GoSem.ClaimJoined
import GoSem.ClaimMapViews
import Derived.JoinedTies
import Derived.KernelRfl
namespace Go.Proofs.Ytlngljddjlmkfaa
/- THE CELL 'sum', in the pinned program and in every row, IS THE sha256 OF THE DUMP (.gsa) THAT YtlngljddjlmkfaaProg.lean LOADS. Nothing in Lean hashes anything: it is a label: what it is worth is what the hold of that sum in a sandbox is worth. -/
noncomputable def Try.pinned : Pinned := { name := "ytlngljddjlmkfaa", sum := "086d18db936ec72086b2fc3b0ae4dbada57914ed1efbf4437d50c03711ee0dd4", checked := Try.checked }
namespace Rows
def none {H : Type} : Left H := { results := [], args := [] }

/-- 'manteletlaw11.LoserMerges': WHATEVER THE INPUT: true; the input reads as it did. -/
def loserMergesSpec : ChangeSpec := { name := "loserMerges", fn := fun _ => fun
  | [d] => { results := [.lit (.bool true)], args := [d] }
  | _ => none }
def loserMergesRow : OpenClaim := { program := "ytlngljddjlmkfaa", sum := "086d18db936ec72086b2fc3b0ae4dbada57914ed1efbf4437d50c03711ee0dd4", func := "mantelet/manteletlaw11.LoserMerges", spec := "loserMerges", unfollowed := true, recurses := true, apart := false }
def LoserMergesSaid : Prop := loserMergesRow.holds Try.pinned (OpenSpec.ofChange loserMergesSpec)

/-- ITS FALSE NEIGHBOUR: 'it returns false'. Refute it at one input. -/
def loserMergesWrong : ChangeSpec := { name := "loserMerges", fn := fun _ => fun
  | [d] => { results := [.lit (.bool false)], args := [d] }
  | _ => none }
def LoserMergesWrongFalsely : Prop := loserMergesRow.holds Try.pinned (OpenSpec.ofChange loserMergesWrong)

/-- 'manteletlaw11.LoserOrder': WHATEVER THE INPUT: true; the input reads as it did. -/
def loserOrderSpec : ChangeSpec := { name := "loserOrder", fn := fun _ => fun
  | [d1, d2] => { results := [.lit (.bool true)], args := [d1, d2] }
  | _ => none }
def loserOrderRow : OpenClaim := { program := "ytlngljddjlmkfaa", sum := "086d18db936ec72086b2fc3b0ae4dbada57914ed1efbf4437d50c03711ee0dd4", func := "mantelet/manteletlaw11.LoserOrder", spec := "loserOrder", unfollowed := true, recurses := true, apart := false }
def LoserOrderSaid : Prop := loserOrderRow.holds Try.pinned (OpenSpec.ofChange loserOrderSpec)

/-- ITS FALSE NEIGHBOUR: 'it returns false'. Refute it at one input. -/
def loserOrderWrong : ChangeSpec := { name := "loserOrder", fn := fun _ => fun
  | [d1, d2] => { results := [.lit (.bool false)], args := [d1, d2] }
  | _ => none }
def LoserOrderWrongFalsely : Prop := loserOrderRow.holds Try.pinned (OpenSpec.ofChange loserOrderWrong)

/-- 'manteletlaw11.LoserTwice': WHATEVER THE INPUT: true; the input reads as it did. -/
def loserTwiceSpec : ChangeSpec := { name := "loserTwice", fn := fun _ => fun
  | [d1, d2] => { results := [.lit (.bool true)], args := [d1, d2] }
  | _ => none }
def loserTwiceRow : OpenClaim := { program := "ytlngljddjlmkfaa", sum := "086d18db936ec72086b2fc3b0ae4dbada57914ed1efbf4437d50c03711ee0dd4", func := "mantelet/manteletlaw11.LoserTwice", spec := "loserTwice", unfollowed := true, recurses := true, apart := false }
def LoserTwiceSaid : Prop := loserTwiceRow.holds Try.pinned (OpenSpec.ofChange loserTwiceSpec)

/-- ITS FALSE NEIGHBOUR: 'it returns false'. Refute it at one input. -/
def loserTwiceWrong : ChangeSpec := { name := "loserTwice", fn := fun _ => fun
  | [d1, d2] => { results := [.lit (.bool false)], args := [d1, d2] }
  | _ => none }
def LoserTwiceWrongFalsely : Prop := loserTwiceRow.holds Try.pinned (OpenSpec.ofChange loserTwiceWrong)

/-- 'manteletlaw11.LoserSums': WHATEVER THE INPUT: true; the input reads as it did. -/
def loserSumsSpec : ChangeSpec := { name := "loserSums", fn := fun _ => fun
  | [d] => { results := [.lit (.bool true)], args := [d] }
  | _ => none }
def loserSumsRow : OpenClaim := { program := "ytlngljddjlmkfaa", sum := "086d18db936ec72086b2fc3b0ae4dbada57914ed1efbf4437d50c03711ee0dd4", func := "mantelet/manteletlaw11.LoserSums", spec := "loserSums", unfollowed := true, recurses := true, apart := false }
def LoserSumsSaid : Prop := loserSumsRow.holds Try.pinned (OpenSpec.ofChange loserSumsSpec)

/-- ITS FALSE NEIGHBOUR: 'it returns false'. Refute it at one input. -/
def loserSumsWrong : ChangeSpec := { name := "loserSums", fn := fun _ => fun
  | [d] => { results := [.lit (.bool false)], args := [d] }
  | _ => none }
def LoserSumsWrongFalsely : Prop := loserSumsRow.holds Try.pinned (OpenSpec.ofChange loserSumsWrong)

/-- 'manteletlaw11.LoserCopies': WHATEVER THE INPUT: true; the input reads as it did. -/
def loserCopiesSpec : ChangeSpec := { name := "loserCopies", fn := fun _ => fun
  | [d1, d2] => { results := [.lit (.bool true)], args := [d1, d2] }
  | _ => none }
def loserCopiesRow : OpenClaim := { program := "ytlngljddjlmkfaa", sum := "086d18db936ec72086b2fc3b0ae4dbada57914ed1efbf4437d50c03711ee0dd4", func := "mantelet/manteletlaw11.LoserCopies", spec := "loserCopies", unfollowed := true, recurses := true, apart := false }
def LoserCopiesSaid : Prop := loserCopiesRow.holds Try.pinned (OpenSpec.ofChange loserCopiesSpec)

/-- ITS FALSE NEIGHBOUR: 'it returns false'. Refute it at one input. -/
def loserCopiesWrong : ChangeSpec := { name := "loserCopies", fn := fun _ => fun
  | [d1, d2] => { results := [.lit (.bool false)], args := [d1, d2] }
  | _ => none }
def LoserCopiesWrongFalsely : Prop := loserCopiesRow.holds Try.pinned (OpenSpec.ofChange loserCopiesWrong)

/- THE SECOND FORM. 'bulk': how many values and letters a reading holds, each counted each time it is reached (what is shared counts as often as it is met; a slice's spare places count too). A statement '..UptoSaid' is the law's where the arguments, and the package variables that the reading takes, are together of bulk at most 1048576: NARROWER than '..Said'. Prove '..Said' where nothing that the law and all that it calls make is longer than what came in: it says more and counts as full. Else prove '..UptoSaid'. A law counts once. -/
mutual
def uptoBulk {H : Type} : DataW H → Nat
  | .lit (.string bytes) => bytes.length + 1
  | .lit _ => 1
  | .nil => 1
  | .ptr d => uptoBulk d + 1
  | .slice elems spare => uptoBulkAll elems + uptoBulkAll spare + 1
  | .agg parts => uptoBulkAll parts + 1
  | .iface _ d => uptoBulk d + 1
  | .map entries => uptoBulkEntries entries + 1
  | .held _ => 1
def uptoBulkAll {H : Type} : List (DataW H) → Nat
  | [] => 0
  | d :: r => uptoBulk d + uptoBulkAll r
def uptoBulkEntries {H : Type} : List (Lit × DataW H) → Nat
  | [] => 0
  | x :: r => uptoBulkEntry x + uptoBulkEntries r
def uptoBulkEntry {H : Type} : Lit × DataW H → Nat
  | (.string bytes, d) => bytes.length + uptoBulk d + 1
  | (_, d) => uptoBulk d + 1
 end
def uptoSmall : (H : Type) → List (DataW H) → Bool := fun _ ds => decide (uptoBulkAll ds ≤ 1048576)
def OpenSpec.upto (s : _root_.Go.ChangeSpec) : _root_.Go.OpenSpec := { _root_.Go.OpenSpec.ofChange s with cond := some uptoSmall }

/-- 'manteletlaw11.LoserMerges', WHERE WHAT IT READS IS OF BULK AT MOST 1048576: true; the input reads as it did. -/
def loserMergesUptoRow : OpenClaim := { program := "ytlngljddjlmkfaa", sum := "086d18db936ec72086b2fc3b0ae4dbada57914ed1efbf4437d50c03711ee0dd4", func := "mantelet/manteletlaw11.LoserMerges", spec := "loserMerges", unfollowed := true, recurses := true, apart := false, narrowed := true }
def LoserMergesUptoSaid : Prop := loserMergesUptoRow.holds Try.pinned (OpenSpec.upto loserMergesSpec)

/-- 'manteletlaw11.LoserOrder', WHERE WHAT IT READS IS OF BULK AT MOST 1048576: true; the input reads as it did. -/
def loserOrderUptoRow : OpenClaim := { program := "ytlngljddjlmkfaa", sum := "086d18db936ec72086b2fc3b0ae4dbada57914ed1efbf4437d50c03711ee0dd4", func := "mantelet/manteletlaw11.LoserOrder", spec := "loserOrder", unfollowed := true, recurses := true, apart := false, narrowed := true }
def LoserOrderUptoSaid : Prop := loserOrderUptoRow.holds Try.pinned (OpenSpec.upto loserOrderSpec)

/-- 'manteletlaw11.LoserTwice', WHERE WHAT IT READS IS OF BULK AT MOST 1048576: true; the input reads as it did. -/
def loserTwiceUptoRow : OpenClaim := { program := "ytlngljddjlmkfaa", sum := "086d18db936ec72086b2fc3b0ae4dbada57914ed1efbf4437d50c03711ee0dd4", func := "mantelet/manteletlaw11.LoserTwice", spec := "loserTwice", unfollowed := true, recurses := true, apart := false, narrowed := true }
def LoserTwiceUptoSaid : Prop := loserTwiceUptoRow.holds Try.pinned (OpenSpec.upto loserTwiceSpec)

/-- 'manteletlaw11.LoserSums', WHERE WHAT IT READS IS OF BULK AT MOST 1048576: true; the input reads as it did. -/
def loserSumsUptoRow : OpenClaim := { program := "ytlngljddjlmkfaa", sum := "086d18db936ec72086b2fc3b0ae4dbada57914ed1efbf4437d50c03711ee0dd4", func := "mantelet/manteletlaw11.LoserSums", spec := "loserSums", unfollowed := true, recurses := true, apart := false, narrowed := true }
def LoserSumsUptoSaid : Prop := loserSumsUptoRow.holds Try.pinned (OpenSpec.upto loserSumsSpec)

/-- 'manteletlaw11.LoserCopies', WHERE WHAT IT READS IS OF BULK AT MOST 1048576: true; the input reads as it did. -/
def loserCopiesUptoRow : OpenClaim := { program := "ytlngljddjlmkfaa", sum := "086d18db936ec72086b2fc3b0ae4dbada57914ed1efbf4437d50c03711ee0dd4", func := "mantelet/manteletlaw11.LoserCopies", spec := "loserCopies", unfollowed := true, recurses := true, apart := false, narrowed := true }
def LoserCopiesUptoSaid : Prop := loserCopiesUptoRow.holds Try.pinned (OpenSpec.upto loserCopiesSpec)

end Rows
end Go.Proofs.Ytlngljddjlmkfaa
