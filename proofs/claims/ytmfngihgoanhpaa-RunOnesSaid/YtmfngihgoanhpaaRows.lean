/-
  No cell of these rows narrows 'for every input' (looked for: loops, veiled, ifaces, maps, wideKeys, modest, calm, conditions, laid).
  DERIVED. THE GIVEN ROWS OF THIS SEAT. 6 by the template 'for every input the law returns true; each argument reads behind the call as it read before'; 0 by the template 'total and deterministic' (their statements: YtmfngihgoanhpaaTotals.lean).
  GIVEN WITH THE SEED: the statements are not yours to turn. If you find one false, say at which input.
  Laid BY PROGRAM, IN A SANDBOX (cutbox-rows.mjs): the forced cells as the released guide's own fill.sh prints them over the translation 605fdd3708120ebb… (all of the seat's roots in one cut). By AI agents, Wed Nov 11 2026. No macro, syntax, notation, axiom, sorry.
-/
import Derived.Test.YtmfngihgoanhpaaChecked
import GoSem.Claim
import GoSem.ClaimJoined
import GoSem.ClaimMapViews
import Derived.JoinedTies
import Derived.KernelRfl
namespace Go.Proofs.Ytmfngihgoanhpaa
/- THE CELL 'sum', in the pinned program and in every row, IS THE sha256 OF THE DUMP (.gsa) THAT YtmfngihgoanhpaaProg.lean LOADS. Nothing in Lean hashes anything: it is a label: what it is worth is what the hold of that sum in a sandbox is worth. -/
noncomputable def Try.pinned : Pinned := { name := "ytmfngihgoanhpaa", sum := "605fdd3708120ebb4a1b81d4c38acf1042584636cada5dbabb65bbeaecb3cd46", checked := Try.checked }
namespace Rows
def none {H : Type} : Left H := { results := [], args := [] }

/-- 'manteletlaw09.RunTells': WHATEVER THE INPUT: true; the input reads as it did. -/
def runTellsSpec : ChangeSpec := { name := "runTells", fn := fun _ => fun
  | [d1, d2, d3] => { results := [.lit (.bool true)], args := [d1, d2, d3] }
  | _ => none }
def runTellsRow : OpenClaim := { program := "ytmfngihgoanhpaa", sum := "605fdd3708120ebb4a1b81d4c38acf1042584636cada5dbabb65bbeaecb3cd46", func := "mantelet/manteletlaw09.RunTells", spec := "runTells", unfollowed := true, recurses := true, apart := false }
def RunTellsSaid : Prop := runTellsRow.holds Try.pinned (OpenSpec.ofChange runTellsSpec)

/-- ITS FALSE NEIGHBOUR: 'it returns false'. Refute it at one input. -/
def runTellsWrong : ChangeSpec := { name := "runTells", fn := fun _ => fun
  | [d1, d2, d3] => { results := [.lit (.bool false)], args := [d1, d2, d3] }
  | _ => none }
def RunTellsWrongFalsely : Prop := runTellsRow.holds Try.pinned (OpenSpec.ofChange runTellsWrong)

/-- 'manteletlaw09.RunBack': WHATEVER THE INPUT: true; the input reads as it did. -/
def runBackSpec : ChangeSpec := { name := "runBack", fn := fun _ => fun
  | [d1, d2, d3] => { results := [.lit (.bool true)], args := [d1, d2, d3] }
  | _ => none }
def runBackRow : OpenClaim := { program := "ytmfngihgoanhpaa", sum := "605fdd3708120ebb4a1b81d4c38acf1042584636cada5dbabb65bbeaecb3cd46", func := "mantelet/manteletlaw09.RunBack", spec := "runBack", unfollowed := true, recurses := true, apart := false }
def RunBackSaid : Prop := runBackRow.holds Try.pinned (OpenSpec.ofChange runBackSpec)

/-- ITS FALSE NEIGHBOUR: 'it returns false'. Refute it at one input. -/
def runBackWrong : ChangeSpec := { name := "runBack", fn := fun _ => fun
  | [d1, d2, d3] => { results := [.lit (.bool false)], args := [d1, d2, d3] }
  | _ => none }
def RunBackWrongFalsely : Prop := runBackRow.holds Try.pinned (OpenSpec.ofChange runBackWrong)

/-- 'manteletlaw09.RunOnes': WHATEVER THE INPUT: true; the input reads as it did. -/
def runOnesSpec : ChangeSpec := { name := "runOnes", fn := fun _ => fun
  | [d1, d2, d3, d4] => { results := [.lit (.bool true)], args := [d1, d2, d3, d4] }
  | _ => none }
def runOnesRow : OpenClaim := { program := "ytmfngihgoanhpaa", sum := "605fdd3708120ebb4a1b81d4c38acf1042584636cada5dbabb65bbeaecb3cd46", func := "mantelet/manteletlaw09.RunOnes", spec := "runOnes", unfollowed := true, recurses := true, apart := false }
def RunOnesSaid : Prop := runOnesRow.holds Try.pinned (OpenSpec.ofChange runOnesSpec)

/-- ITS FALSE NEIGHBOUR: 'it returns false'. Refute it at one input. -/
def runOnesWrong : ChangeSpec := { name := "runOnes", fn := fun _ => fun
  | [d1, d2, d3, d4] => { results := [.lit (.bool false)], args := [d1, d2, d3, d4] }
  | _ => none }
def RunOnesWrongFalsely : Prop := runOnesRow.holds Try.pinned (OpenSpec.ofChange runOnesWrong)

/-- 'manteletlaw09.RunMay': WHATEVER THE INPUT: true; the input reads as it did. -/
def runMaySpec : ChangeSpec := { name := "runMay", fn := fun _ => fun
  | [d] => { results := [.lit (.bool true)], args := [d] }
  | _ => none }
def runMayRow : OpenClaim := { program := "ytmfngihgoanhpaa", sum := "605fdd3708120ebb4a1b81d4c38acf1042584636cada5dbabb65bbeaecb3cd46", func := "mantelet/manteletlaw09.RunMay", spec := "runMay", unfollowed := true, recurses := true, apart := false }
def RunMaySaid : Prop := runMayRow.holds Try.pinned (OpenSpec.ofChange runMaySpec)

/-- ITS FALSE NEIGHBOUR: 'it returns false'. Refute it at one input. -/
def runMayWrong : ChangeSpec := { name := "runMay", fn := fun _ => fun
  | [d] => { results := [.lit (.bool false)], args := [d] }
  | _ => none }
def RunMayWrongFalsely : Prop := runMayRow.holds Try.pinned (OpenSpec.ofChange runMayWrong)

/-- 'manteletlaw09.RunSizes': WHATEVER THE INPUT: true; the input reads as it did. -/
def runSizesSpec : ChangeSpec := { name := "runSizes", fn := fun _ => fun
  | [d1, d2, d3] => { results := [.lit (.bool true)], args := [d1, d2, d3] }
  | _ => none }
def runSizesRow : OpenClaim := { program := "ytmfngihgoanhpaa", sum := "605fdd3708120ebb4a1b81d4c38acf1042584636cada5dbabb65bbeaecb3cd46", func := "mantelet/manteletlaw09.RunSizes", spec := "runSizes", unfollowed := true, recurses := true, apart := false }
def RunSizesSaid : Prop := runSizesRow.holds Try.pinned (OpenSpec.ofChange runSizesSpec)

/-- ITS FALSE NEIGHBOUR: 'it returns false'. Refute it at one input. -/
def runSizesWrong : ChangeSpec := { name := "runSizes", fn := fun _ => fun
  | [d1, d2, d3] => { results := [.lit (.bool false)], args := [d1, d2, d3] }
  | _ => none }
def RunSizesWrongFalsely : Prop := runSizesRow.holds Try.pinned (OpenSpec.ofChange runSizesWrong)

/-- 'manteletlaw09.RunRecords': WHATEVER THE INPUT: true; the input reads as it did. -/
def runRecordsSpec : ChangeSpec := { name := "runRecords", fn := fun _ => fun
  | [d1, d2] => { results := [.lit (.bool true)], args := [d1, d2] }
  | _ => none }
def runRecordsRow : OpenClaim := { program := "ytmfngihgoanhpaa", sum := "605fdd3708120ebb4a1b81d4c38acf1042584636cada5dbabb65bbeaecb3cd46", func := "mantelet/manteletlaw09.RunRecords", spec := "runRecords", unfollowed := true, recurses := true, apart := false }
def RunRecordsSaid : Prop := runRecordsRow.holds Try.pinned (OpenSpec.ofChange runRecordsSpec)

/-- ITS FALSE NEIGHBOUR: 'it returns false'. Refute it at one input. -/
def runRecordsWrong : ChangeSpec := { name := "runRecords", fn := fun _ => fun
  | [d1, d2] => { results := [.lit (.bool false)], args := [d1, d2] }
  | _ => none }
def RunRecordsWrongFalsely : Prop := runRecordsRow.holds Try.pinned (OpenSpec.ofChange runRecordsWrong)

/- THE SECOND FORM. 'bulk': how many values and letters a reading holds, each counted each time it is reached (what is shared counts as often as it is met; a slice's spare places count too). A statement '..UptoSaid' is the law's where the arguments, and the package variables that the reading takes, are together of bulk at most 1048576: NARROWER than '..Said'. Prove '..Said' where nothing that the law and all that it calls make is longer than what came in: it says more and counts as full. Else prove '..UptoSaid'. A law counts once. -/
mutual
def uptoBulk {H : Type} : DataW H → Nat
  | .lit (.string bytes) => bytes.length + 1
  | .lit _ => 1
  | .nil => 1
  | .ptr d => uptoBulk d + 1
  | .slice elems spare => uptoBulkAll elems + uptoBulkAll spare + 1
  | .agg parts => uptoBulkAll parts + 1
  | .iface _ d => uptoBulk d + 1
  | .map entries => uptoBulkEntries entries + 1
  | .held _ => 1
def uptoBulkAll {H : Type} : List (DataW H) → Nat
  | [] => 0
  | d :: r => uptoBulk d + uptoBulkAll r
def uptoBulkEntries {H : Type} : List (Lit × DataW H) → Nat
  | [] => 0
  | x :: r => uptoBulkEntry x + uptoBulkEntries r
def uptoBulkEntry {H : Type} : Lit × DataW H → Nat
  | (.string bytes, d) => bytes.length + uptoBulk d + 1
  | (_, d) => uptoBulk d + 1
 end
def uptoSmall : (H : Type) → List (DataW H) → Bool := fun _ ds => decide (uptoBulkAll ds ≤ 1048576)
def OpenSpec.upto (s : _root_.Go.ChangeSpec) : _root_.Go.OpenSpec := { _root_.Go.OpenSpec.ofChange s with cond := some uptoSmall }

/-- 'manteletlaw09.RunTells', WHERE WHAT IT READS IS OF BULK AT MOST 1048576: true; the input reads as it did. -/
def runTellsUptoRow : OpenClaim := { program := "ytmfngihgoanhpaa", sum := "605fdd3708120ebb4a1b81d4c38acf1042584636cada5dbabb65bbeaecb3cd46", func := "mantelet/manteletlaw09.RunTells", spec := "runTells", unfollowed := true, recurses := true, apart := false, narrowed := true }
def RunTellsUptoSaid : Prop := runTellsUptoRow.holds Try.pinned (OpenSpec.upto runTellsSpec)

/-- 'manteletlaw09.RunBack', WHERE WHAT IT READS IS OF BULK AT MOST 1048576: true; the input reads as it did. -/
def runBackUptoRow : OpenClaim := { program := "ytmfngihgoanhpaa", sum := "605fdd3708120ebb4a1b81d4c38acf1042584636cada5dbabb65bbeaecb3cd46", func := "mantelet/manteletlaw09.RunBack", spec := "runBack", unfollowed := true, recurses := true, apart := false, narrowed := true }
def RunBackUptoSaid : Prop := runBackUptoRow.holds Try.pinned (OpenSpec.upto runBackSpec)

/-- 'manteletlaw09.RunOnes', WHERE WHAT IT READS IS OF BULK AT MOST 1048576: true; the input reads as it did. -/
def runOnesUptoRow : OpenClaim := { program := "ytmfngihgoanhpaa", sum := "605fdd3708120ebb4a1b81d4c38acf1042584636cada5dbabb65bbeaecb3cd46", func := "mantelet/manteletlaw09.RunOnes", spec := "runOnes", unfollowed := true, recurses := true, apart := false, narrowed := true }
def RunOnesUptoSaid : Prop := runOnesUptoRow.holds Try.pinned (OpenSpec.upto runOnesSpec)

/-- 'manteletlaw09.RunMay', WHERE WHAT IT READS IS OF BULK AT MOST 1048576: true; the input reads as it did. -/
def runMayUptoRow : OpenClaim := { program := "ytmfngihgoanhpaa", sum := "605fdd3708120ebb4a1b81d4c38acf1042584636cada5dbabb65bbeaecb3cd46", func := "mantelet/manteletlaw09.RunMay", spec := "runMay", unfollowed := true, recurses := true, apart := false, narrowed := true }
def RunMayUptoSaid : Prop := runMayUptoRow.holds Try.pinned (OpenSpec.upto runMaySpec)

/-- 'manteletlaw09.RunSizes', WHERE WHAT IT READS IS OF BULK AT MOST 1048576: true; the input reads as it did. -/
def runSizesUptoRow : OpenClaim := { program := "ytmfngihgoanhpaa", sum := "605fdd3708120ebb4a1b81d4c38acf1042584636cada5dbabb65bbeaecb3cd46", func := "mantelet/manteletlaw09.RunSizes", spec := "runSizes", unfollowed := true, recurses := true, apart := false, narrowed := true }
def RunSizesUptoSaid : Prop := runSizesUptoRow.holds Try.pinned (OpenSpec.upto runSizesSpec)

/-- 'manteletlaw09.RunRecords', WHERE WHAT IT READS IS OF BULK AT MOST 1048576: true; the input reads as it did. -/
def runRecordsUptoRow : OpenClaim := { program := "ytmfngihgoanhpaa", sum := "605fdd3708120ebb4a1b81d4c38acf1042584636cada5dbabb65bbeaecb3cd46", func := "mantelet/manteletlaw09.RunRecords", spec := "runRecords", unfollowed := true, recurses := true, apart := false, narrowed := true }
def RunRecordsUptoSaid : Prop := runRecordsUptoRow.holds Try.pinned (OpenSpec.upto runRecordsSpec)

end Rows
end Go.Proofs.Ytmfngihgoanhpaa
