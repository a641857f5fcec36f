/-
  No cell of these rows narrows 'for every input' (looked for: loops, veiled, ifaces, maps, wideKeys, modest, calm, conditions, laid).
  DERIVED. THE GIVEN ROWS OF THIS SEAT. 10 by the template 'for every input the law returns true; each argument reads behind the call as it read before'; 0 by the template 'total and deterministic' (their statements: YtlndbodbhbcgcaaTotals.lean).
  GIVEN WITH THE SEED: the statements are not yours to turn. If you find one false, say at which input.
  Laid BY PROGRAM, IN A SANDBOX (cutbox-rows.mjs): the forced cells as the released guide's own fill.sh prints them over the translation 0cff3d6314b8645c… (all of the seat's roots in one cut). By AI agents, Wed Nov 11 2026. No macro, syntax, notation, axiom, sorry.
-/
import Derived.Test.YtlndbodbhbcgcaaChecked
import GoSem.Claim
import GoSem.ClaimJoined
import GoSem.ClaimMapViews
import Derived.JoinedTies
import Derived.KernelRfl
namespace Go.Proofs.Ytlndbodbhbcgcaa
/- THE CELL 'sum', in the pinned program and in every row, IS THE sha256 OF THE DUMP (.gsa) THAT YtlndbodbhbcgcaaProg.lean LOADS. Nothing in Lean hashes anything: it is a label: what it is worth is what the hold of that sum in a sandbox is worth. -/
noncomputable def Try.pinned : Pinned := { name := "ytlndbodbhbcgcaa", sum := "0cff3d6314b8645ce17b86c465d5fcde54580576046a6e43fab1fb3cb9961e40", checked := Try.checked }
namespace Rows
def none {H : Type} : Left H := { results := [], args := [] }

/-- 'manteletlaw12.PassesGroups': WHATEVER THE INPUT: true; the input reads as it did. -/
def passesGroupsSpec : ChangeSpec := { name := "passesGroups", fn := fun _ => fun
  | [d1, d2] => { results := [.lit (.bool true)], args := [d1, d2] }
  | _ => none }
def passesGroupsRow : OpenClaim := { program := "ytlndbodbhbcgcaa", sum := "0cff3d6314b8645ce17b86c465d5fcde54580576046a6e43fab1fb3cb9961e40", func := "mantelet/manteletlaw12.PassesGroups", spec := "passesGroups", recurses := true, apart := false }
def PassesGroupsSaid : Prop := passesGroupsRow.holds Try.pinned (OpenSpec.ofChange passesGroupsSpec)

/-- ITS FALSE NEIGHBOUR: 'it returns false'. Refute it at one input. -/
def passesGroupsWrong : ChangeSpec := { name := "passesGroups", fn := fun _ => fun
  | [d1, d2] => { results := [.lit (.bool false)], args := [d1, d2] }
  | _ => none }
def PassesGroupsWrongFalsely : Prop := passesGroupsRow.holds Try.pinned (OpenSpec.ofChange passesGroupsWrong)

/-- 'manteletlaw12.PassesFew': WHATEVER THE INPUT: true; the input reads as it did. -/
def passesFewSpec : ChangeSpec := { name := "passesFew", fn := fun _ => fun
  | [d1, d2] => { results := [.lit (.bool true)], args := [d1, d2] }
  | _ => none }
def passesFewRow : OpenClaim := { program := "ytlndbodbhbcgcaa", sum := "0cff3d6314b8645ce17b86c465d5fcde54580576046a6e43fab1fb3cb9961e40", func := "mantelet/manteletlaw12.PassesFew", spec := "passesFew", apart := false }
def PassesFewSaid : Prop := passesFewRow.holds Try.pinned (OpenSpec.ofChange passesFewSpec)

/-- ITS FALSE NEIGHBOUR: 'it returns false'. Refute it at one input. -/
def passesFewWrong : ChangeSpec := { name := "passesFew", fn := fun _ => fun
  | [d1, d2] => { results := [.lit (.bool false)], args := [d1, d2] }
  | _ => none }
def PassesFewWrongFalsely : Prop := passesFewRow.holds Try.pinned (OpenSpec.ofChange passesFewWrong)

/-- 'manteletlaw12.PassesMany': WHATEVER THE INPUT: true; the input reads as it did. -/
def passesManySpec : ChangeSpec := { name := "passesMany", fn := fun _ => fun
  | [d1, d2] => { results := [.lit (.bool true)], args := [d1, d2] }
  | _ => none }
def passesManyRow : OpenClaim := { program := "ytlndbodbhbcgcaa", sum := "0cff3d6314b8645ce17b86c465d5fcde54580576046a6e43fab1fb3cb9961e40", func := "mantelet/manteletlaw12.PassesMany", spec := "passesMany", apart := false }
def PassesManySaid : Prop := passesManyRow.holds Try.pinned (OpenSpec.ofChange passesManySpec)

/-- ITS FALSE NEIGHBOUR: 'it returns false'. Refute it at one input. -/
def passesManyWrong : ChangeSpec := { name := "passesMany", fn := fun _ => fun
  | [d1, d2] => { results := [.lit (.bool false)], args := [d1, d2] }
  | _ => none }
def PassesManyWrongFalsely : Prop := passesManyRow.holds Try.pinned (OpenSpec.ofChange passesManyWrong)

/-- 'manteletlaw01.NumBack': WHATEVER THE INPUT: true; the input reads as it did. -/
def numBackSpec : ChangeSpec := { name := "numBack", fn := fun _ => fun
  | [d1, d2] => { results := [.lit (.bool true)], args := [d1, d2] }
  | _ => none }
def numBackRow : OpenClaim := { program := "ytlndbodbhbcgcaa", sum := "0cff3d6314b8645ce17b86c465d5fcde54580576046a6e43fab1fb3cb9961e40", func := "mantelet/manteletlaw01.NumBack", spec := "numBack", apart := false }
def NumBackSaid : Prop := numBackRow.holds Try.pinned (OpenSpec.ofChange numBackSpec)

/-- ITS FALSE NEIGHBOUR: 'it returns false'. Refute it at one input. -/
def numBackWrong : ChangeSpec := { name := "numBack", fn := fun _ => fun
  | [d1, d2] => { results := [.lit (.bool false)], args := [d1, d2] }
  | _ => none }
def NumBackWrongFalsely : Prop := numBackRow.holds Try.pinned (OpenSpec.ofChange numBackWrong)

/-- 'manteletlaw01.NumCuts': WHATEVER THE INPUT: true; the input reads as it did. -/
def numCutsSpec : ChangeSpec := { name := "numCuts", fn := fun _ => fun
  | [d] => { results := [.lit (.bool true)], args := [d] }
  | _ => none }
def numCutsRow : OpenClaim := { program := "ytlndbodbhbcgcaa", sum := "0cff3d6314b8645ce17b86c465d5fcde54580576046a6e43fab1fb3cb9961e40", func := "mantelet/manteletlaw01.NumCuts", spec := "numCuts", apart := false }
def NumCutsSaid : Prop := numCutsRow.holds Try.pinned (OpenSpec.ofChange numCutsSpec)

/-- ITS FALSE NEIGHBOUR: 'it returns false'. Refute it at one input. -/
def numCutsWrong : ChangeSpec := { name := "numCuts", fn := fun _ => fun
  | [d] => { results := [.lit (.bool false)], args := [d] }
  | _ => none }
def NumCutsWrongFalsely : Prop := numCutsRow.holds Try.pinned (OpenSpec.ofChange numCutsWrong)

/-- 'manteletlaw01.NumJoins': WHATEVER THE INPUT: true; the input reads as it did. -/
def numJoinsSpec : ChangeSpec := { name := "numJoins", fn := fun _ => fun
  | [d] => { results := [.lit (.bool true)], args := [d] }
  | _ => none }
def numJoinsRow : OpenClaim := { program := "ytlndbodbhbcgcaa", sum := "0cff3d6314b8645ce17b86c465d5fcde54580576046a6e43fab1fb3cb9961e40", func := "mantelet/manteletlaw01.NumJoins", spec := "numJoins", apart := false }
def NumJoinsSaid : Prop := numJoinsRow.holds Try.pinned (OpenSpec.ofChange numJoinsSpec)

/-- ITS FALSE NEIGHBOUR: 'it returns false'. Refute it at one input. -/
def numJoinsWrong : ChangeSpec := { name := "numJoins", fn := fun _ => fun
  | [d] => { results := [.lit (.bool false)], args := [d] }
  | _ => none }
def NumJoinsWrongFalsely : Prop := numJoinsRow.holds Try.pinned (OpenSpec.ofChange numJoinsWrong)

/-- 'manteletlaw01.NumHeads': WHATEVER THE INPUT: true; the input reads as it did. -/
def numHeadsSpec : ChangeSpec := { name := "numHeads", fn := fun _ => fun
  | [d1, d2] => { results := [.lit (.bool true)], args := [d1, d2] }
  | _ => none }
def numHeadsRow : OpenClaim := { program := "ytlndbodbhbcgcaa", sum := "0cff3d6314b8645ce17b86c465d5fcde54580576046a6e43fab1fb3cb9961e40", func := "mantelet/manteletlaw01.NumHeads", spec := "numHeads", apart := false }
def NumHeadsSaid : Prop := numHeadsRow.holds Try.pinned (OpenSpec.ofChange numHeadsSpec)

/-- ITS FALSE NEIGHBOUR: 'it returns false'. Refute it at one input. -/
def numHeadsWrong : ChangeSpec := { name := "numHeads", fn := fun _ => fun
  | [d1, d2] => { results := [.lit (.bool false)], args := [d1, d2] }
  | _ => none }
def NumHeadsWrongFalsely : Prop := numHeadsRow.holds Try.pinned (OpenSpec.ofChange numHeadsWrong)

/-- 'manteletlaw01.NumBehind': WHATEVER THE INPUT: true; the input reads as it did. -/
def numBehindSpec : ChangeSpec := { name := "numBehind", fn := fun _ => fun
  | [d1, d2] => { results := [.lit (.bool true)], args := [d1, d2] }
  | _ => none }
def numBehindRow : OpenClaim := { program := "ytlndbodbhbcgcaa", sum := "0cff3d6314b8645ce17b86c465d5fcde54580576046a6e43fab1fb3cb9961e40", func := "mantelet/manteletlaw01.NumBehind", spec := "numBehind", apart := false }
def NumBehindSaid : Prop := numBehindRow.holds Try.pinned (OpenSpec.ofChange numBehindSpec)

/-- ITS FALSE NEIGHBOUR: 'it returns false'. Refute it at one input. -/
def numBehindWrong : ChangeSpec := { name := "numBehind", fn := fun _ => fun
  | [d1, d2] => { results := [.lit (.bool false)], args := [d1, d2] }
  | _ => none }
def NumBehindWrongFalsely : Prop := numBehindRow.holds Try.pinned (OpenSpec.ofChange numBehindWrong)

/-- 'manteletlaw01.NumTells': WHATEVER THE INPUT: true; the input reads as it did. -/
def numTellsSpec : ChangeSpec := { name := "numTells", fn := fun _ => fun
  | [d1, d2, d3, d4] => { results := [.lit (.bool true)], args := [d1, d2, d3, d4] }
  | _ => none }
def numTellsRow : OpenClaim := { program := "ytlndbodbhbcgcaa", sum := "0cff3d6314b8645ce17b86c465d5fcde54580576046a6e43fab1fb3cb9961e40", func := "mantelet/manteletlaw01.NumTells", spec := "numTells", apart := false }
def NumTellsSaid : Prop := numTellsRow.holds Try.pinned (OpenSpec.ofChange numTellsSpec)

/-- ITS FALSE NEIGHBOUR: 'it returns false'. Refute it at one input. -/
def numTellsWrong : ChangeSpec := { name := "numTells", fn := fun _ => fun
  | [d1, d2, d3, d4] => { results := [.lit (.bool false)], args := [d1, d2, d3, d4] }
  | _ => none }
def NumTellsWrongFalsely : Prop := numTellsRow.holds Try.pinned (OpenSpec.ofChange numTellsWrong)

/-- 'manteletlaw01.NumSums': WHATEVER THE INPUT: true; the input reads as it did. -/
def numSumsSpec : ChangeSpec := { name := "numSums", fn := fun _ => fun
  | [d1, d2, d3] => { results := [.lit (.bool true)], args := [d1, d2, d3] }
  | _ => none }
def numSumsRow : OpenClaim := { program := "ytlndbodbhbcgcaa", sum := "0cff3d6314b8645ce17b86c465d5fcde54580576046a6e43fab1fb3cb9961e40", func := "mantelet/manteletlaw01.NumSums", spec := "numSums", apart := false }
def NumSumsSaid : Prop := numSumsRow.holds Try.pinned (OpenSpec.ofChange numSumsSpec)

/-- ITS FALSE NEIGHBOUR: 'it returns false'. Refute it at one input. -/
def numSumsWrong : ChangeSpec := { name := "numSums", fn := fun _ => fun
  | [d1, d2, d3] => { results := [.lit (.bool false)], args := [d1, d2, d3] }
  | _ => none }
def NumSumsWrongFalsely : Prop := numSumsRow.holds Try.pinned (OpenSpec.ofChange numSumsWrong)

/- THE SECOND FORM. 'bulk': how many values and letters a reading holds, each counted each time it is reached (what is shared counts as often as it is met; a slice's spare places count too). A statement '..UptoSaid' is the law's where the arguments, and the package variables that the reading takes, are together of bulk at most 1048576: NARROWER than '..Said'. Prove '..Said' where nothing that the law and all that it calls make is longer than what came in: it says more and counts as full. Else prove '..UptoSaid'. A law counts once. -/
mutual
def uptoBulk {H : Type} : DataW H → Nat
  | .lit (.string bytes) => bytes.length + 1
  | .lit _ => 1
  | .nil => 1
  | .ptr d => uptoBulk d + 1
  | .slice elems spare => uptoBulkAll elems + uptoBulkAll spare + 1
  | .agg parts => uptoBulkAll parts + 1
  | .iface _ d => uptoBulk d + 1
  | .map entries => uptoBulkEntries entries + 1
  | .held _ => 1
def uptoBulkAll {H : Type} : List (DataW H) → Nat
  | [] => 0
  | d :: r => uptoBulk d + uptoBulkAll r
def uptoBulkEntries {H : Type} : List (Lit × DataW H) → Nat
  | [] => 0
  | x :: r => uptoBulkEntry x + uptoBulkEntries r
def uptoBulkEntry {H : Type} : Lit × DataW H → Nat
  | (.string bytes, d) => bytes.length + uptoBulk d + 1
  | (_, d) => uptoBulk d + 1
 end
def uptoSmall : (H : Type) → List (DataW H) → Bool := fun _ ds => decide (uptoBulkAll ds ≤ 1048576)
def OpenSpec.upto (s : _root_.Go.ChangeSpec) : _root_.Go.OpenSpec := { _root_.Go.OpenSpec.ofChange s with cond := some uptoSmall }

/-- 'manteletlaw12.PassesGroups', WHERE WHAT IT READS IS OF BULK AT MOST 1048576: true; the input reads as it did. -/
def passesGroupsUptoRow : OpenClaim := { program := "ytlndbodbhbcgcaa", sum := "0cff3d6314b8645ce17b86c465d5fcde54580576046a6e43fab1fb3cb9961e40", func := "mantelet/manteletlaw12.PassesGroups", spec := "passesGroups", recurses := true, apart := false, narrowed := true }
def PassesGroupsUptoSaid : Prop := passesGroupsUptoRow.holds Try.pinned (OpenSpec.upto passesGroupsSpec)

/-- 'manteletlaw12.PassesFew', WHERE WHAT IT READS IS OF BULK AT MOST 1048576: true; the input reads as it did. -/
def passesFewUptoRow : OpenClaim := { program := "ytlndbodbhbcgcaa", sum := "0cff3d6314b8645ce17b86c465d5fcde54580576046a6e43fab1fb3cb9961e40", func := "mantelet/manteletlaw12.PassesFew", spec := "passesFew", apart := false, narrowed := true }
def PassesFewUptoSaid : Prop := passesFewUptoRow.holds Try.pinned (OpenSpec.upto passesFewSpec)

/-- 'manteletlaw12.PassesMany', WHERE WHAT IT READS IS OF BULK AT MOST 1048576: true; the input reads as it did. -/
def passesManyUptoRow : OpenClaim := { program := "ytlndbodbhbcgcaa", sum := "0cff3d6314b8645ce17b86c465d5fcde54580576046a6e43fab1fb3cb9961e40", func := "mantelet/manteletlaw12.PassesMany", spec := "passesMany", apart := false, narrowed := true }
def PassesManyUptoSaid : Prop := passesManyUptoRow.holds Try.pinned (OpenSpec.upto passesManySpec)

/-- 'manteletlaw01.NumBack', WHERE WHAT IT READS IS OF BULK AT MOST 1048576: true; the input reads as it did. -/
def numBackUptoRow : OpenClaim := { program := "ytlndbodbhbcgcaa", sum := "0cff3d6314b8645ce17b86c465d5fcde54580576046a6e43fab1fb3cb9961e40", func := "mantelet/manteletlaw01.NumBack", spec := "numBack", apart := false, narrowed := true }
def NumBackUptoSaid : Prop := numBackUptoRow.holds Try.pinned (OpenSpec.upto numBackSpec)

/-- 'manteletlaw01.NumCuts', WHERE WHAT IT READS IS OF BULK AT MOST 1048576: true; the input reads as it did. -/
def numCutsUptoRow : OpenClaim := { program := "ytlndbodbhbcgcaa", sum := "0cff3d6314b8645ce17b86c465d5fcde54580576046a6e43fab1fb3cb9961e40", func := "mantelet/manteletlaw01.NumCuts", spec := "numCuts", apart := false, narrowed := true }
def NumCutsUptoSaid : Prop := numCutsUptoRow.holds Try.pinned (OpenSpec.upto numCutsSpec)

/-- 'manteletlaw01.NumJoins', WHERE WHAT IT READS IS OF BULK AT MOST 1048576: true; the input reads as it did. -/
def numJoinsUptoRow : OpenClaim := { program := "ytlndbodbhbcgcaa", sum := "0cff3d6314b8645ce17b86c465d5fcde54580576046a6e43fab1fb3cb9961e40", func := "mantelet/manteletlaw01.NumJoins", spec := "numJoins", apart := false, narrowed := true }
def NumJoinsUptoSaid : Prop := numJoinsUptoRow.holds Try.pinned (OpenSpec.upto numJoinsSpec)

/-- 'manteletlaw01.NumHeads', WHERE WHAT IT READS IS OF BULK AT MOST 1048576: true; the input reads as it did. -/
def numHeadsUptoRow : OpenClaim := { program := "ytlndbodbhbcgcaa", sum := "0cff3d6314b8645ce17b86c465d5fcde54580576046a6e43fab1fb3cb9961e40", func := "mantelet/manteletlaw01.NumHeads", spec := "numHeads", apart := false, narrowed := true }
def NumHeadsUptoSaid : Prop := numHeadsUptoRow.holds Try.pinned (OpenSpec.upto numHeadsSpec)

/-- 'manteletlaw01.NumBehind', WHERE WHAT IT READS IS OF BULK AT MOST 1048576: true; the input reads as it did. -/
def numBehindUptoRow : OpenClaim := { program := "ytlndbodbhbcgcaa", sum := "0cff3d6314b8645ce17b86c465d5fcde54580576046a6e43fab1fb3cb9961e40", func := "mantelet/manteletlaw01.NumBehind", spec := "numBehind", apart := false, narrowed := true }
def NumBehindUptoSaid : Prop := numBehindUptoRow.holds Try.pinned (OpenSpec.upto numBehindSpec)

/-- 'manteletlaw01.NumTells', WHERE WHAT IT READS IS OF BULK AT MOST 1048576: true; the input reads as it did. -/
def numTellsUptoRow : OpenClaim := { program := "ytlndbodbhbcgcaa", sum := "0cff3d6314b8645ce17b86c465d5fcde54580576046a6e43fab1fb3cb9961e40", func := "mantelet/manteletlaw01.NumTells", spec := "numTells", apart := false, narrowed := true }
def NumTellsUptoSaid : Prop := numTellsUptoRow.holds Try.pinned (OpenSpec.upto numTellsSpec)

/-- 'manteletlaw01.NumSums', WHERE WHAT IT READS IS OF BULK AT MOST 1048576: true; the input reads as it did. -/
def numSumsUptoRow : OpenClaim := { program := "ytlndbodbhbcgcaa", sum := "0cff3d6314b8645ce17b86c465d5fcde54580576046a6e43fab1fb3cb9961e40", func := "mantelet/manteletlaw01.NumSums", spec := "numSums", apart := false, narrowed := true }
def NumSumsUptoSaid : Prop := numSumsUptoRow.holds Try.pinned (OpenSpec.upto numSumsSpec)

end Rows
end Go.Proofs.Ytlndbodbhbcgcaa
