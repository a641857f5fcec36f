/-
  No cell of these rows narrows 'for every input' (looked for: loops, veiled, ifaces, maps, wideKeys, modest, calm, conditions, laid).
  DERIVED. THE GIVEN ROWS OF THIS SEAT. 4 by the template 'for every input the law returns true; each argument reads behind the call as it read before'; 0 by the template 'total and deterministic' (their statements: YtnabhfegbnfabaaTotals.lean).
  GIVEN WITH THE SEED: the statements are not yours to turn. If you find one false, say at which input.
  Laid BY PROGRAM, IN A SANDBOX (cutbox-rows.mjs): the forced cells as the released guide's own fill.sh prints them over the translation 6263d3f51ba20e8d… (all of the seat's roots in one cut). By AI agents, Wed Nov 11 2026. No macro, syntax, notation, axiom, sorry.
-/
import Derived.Test.YtnabhfegbnfabaaChecked
import GoSem.Claim
import GoSem.ClaimJoined
import GoSem.ClaimMapViews
import Derived.JoinedTies
import Derived.KernelRfl
namespace Go.Proofs.Ytnabhfegbnfabaa
/- THE CELL 'sum', in the pinned program and in every row, IS THE sha256 OF THE DUMP (.gsa) THAT YtnabhfegbnfabaaProg.lean LOADS. Nothing in Lean hashes anything: it is a label: what it is worth is what the hold of that sum in a sandbox is worth. -/
noncomputable def Try.pinned : Pinned := { name := "ytnabhfegbnfabaa", sum := "6263d3f51ba20e8d90a60841d9368c7ce8694489fc50ab0c817bcd1da9060bef", checked := Try.checked }
namespace Rows
def none {H : Type} : Left H := { results := [], args := [] }

/-- 'manteletlaw10.ReaderPlays': WHATEVER THE INPUT: true; the input reads as it did. -/
def readerPlaysSpec : ChangeSpec := { name := "readerPlays", fn := fun _ => fun
  | [d1, d2] => { results := [.lit (.bool true)], args := [d1, d2] }
  | _ => none }
def readerPlaysRow : OpenClaim := { program := "ytnabhfegbnfabaa", sum := "6263d3f51ba20e8d90a60841d9368c7ce8694489fc50ab0c817bcd1da9060bef", func := "mantelet/manteletlaw10.ReaderPlays", spec := "readerPlays", unfollowed := true, recurses := true, apart := false }
def ReaderPlaysSaid : Prop := readerPlaysRow.holds Try.pinned (OpenSpec.ofChange readerPlaysSpec)

/-- ITS FALSE NEIGHBOUR: 'it returns false'. Refute it at one input. -/
def readerPlaysWrong : ChangeSpec := { name := "readerPlays", fn := fun _ => fun
  | [d1, d2] => { results := [.lit (.bool false)], args := [d1, d2] }
  | _ => none }
def ReaderPlaysWrongFalsely : Prop := readerPlaysRow.holds Try.pinned (OpenSpec.ofChange readerPlaysWrong)

/-- 'manteletlaw10.ReaderAll': WHATEVER THE INPUT: true; the input reads as it did. -/
def readerAllSpec : ChangeSpec := { name := "readerAll", fn := fun _ => fun
  | [d1, d2] => { results := [.lit (.bool true)], args := [d1, d2] }
  | _ => none }
def readerAllRow : OpenClaim := { program := "ytnabhfegbnfabaa", sum := "6263d3f51ba20e8d90a60841d9368c7ce8694489fc50ab0c817bcd1da9060bef", func := "mantelet/manteletlaw10.ReaderAll", spec := "readerAll", unfollowed := true, recurses := true, apart := false }
def ReaderAllSaid : Prop := readerAllRow.holds Try.pinned (OpenSpec.ofChange readerAllSpec)

/-- ITS FALSE NEIGHBOUR: 'it returns false'. Refute it at one input. -/
def readerAllWrong : ChangeSpec := { name := "readerAll", fn := fun _ => fun
  | [d1, d2] => { results := [.lit (.bool false)], args := [d1, d2] }
  | _ => none }
def ReaderAllWrongFalsely : Prop := readerAllRow.holds Try.pinned (OpenSpec.ofChange readerAllWrong)

/-- 'manteletlaw10.ReaderNobody': WHATEVER THE INPUT: true; the input reads as it did. -/
def readerNobodySpec : ChangeSpec := { name := "readerNobody", fn := fun _ => fun
  | [d] => { results := [.lit (.bool true)], args := [d] }
  | _ => none }
def readerNobodyRow : OpenClaim := { program := "ytnabhfegbnfabaa", sum := "6263d3f51ba20e8d90a60841d9368c7ce8694489fc50ab0c817bcd1da9060bef", func := "mantelet/manteletlaw10.ReaderNobody", spec := "readerNobody", unfollowed := true, recurses := true, apart := false }
def ReaderNobodySaid : Prop := readerNobodyRow.holds Try.pinned (OpenSpec.ofChange readerNobodySpec)

/-- ITS FALSE NEIGHBOUR: 'it returns false'. Refute it at one input. -/
def readerNobodyWrong : ChangeSpec := { name := "readerNobody", fn := fun _ => fun
  | [d] => { results := [.lit (.bool false)], args := [d] }
  | _ => none }
def ReaderNobodyWrongFalsely : Prop := readerNobodyRow.holds Try.pinned (OpenSpec.ofChange readerNobodyWrong)

/-- 'manteletlaw10.ReaderTwo': WHATEVER THE INPUT: true; the input reads as it did. -/
def readerTwoSpec : ChangeSpec := { name := "readerTwo", fn := fun _ => fun
  | [d1, d2, d3] => { results := [.lit (.bool true)], args := [d1, d2, d3] }
  | _ => none }
def readerTwoRow : OpenClaim := { program := "ytnabhfegbnfabaa", sum := "6263d3f51ba20e8d90a60841d9368c7ce8694489fc50ab0c817bcd1da9060bef", func := "mantelet/manteletlaw10.ReaderTwo", spec := "readerTwo", unfollowed := true, recurses := true, apart := false }
def ReaderTwoSaid : Prop := readerTwoRow.holds Try.pinned (OpenSpec.ofChange readerTwoSpec)

/-- ITS FALSE NEIGHBOUR: 'it returns false'. Refute it at one input. -/
def readerTwoWrong : ChangeSpec := { name := "readerTwo", fn := fun _ => fun
  | [d1, d2, d3] => { results := [.lit (.bool false)], args := [d1, d2, d3] }
  | _ => none }
def ReaderTwoWrongFalsely : Prop := readerTwoRow.holds Try.pinned (OpenSpec.ofChange readerTwoWrong)

/- THE SECOND FORM. 'bulk': how many values and letters a reading holds, each counted each time it is reached (what is shared counts as often as it is met; a slice's spare places count too). A statement '..UptoSaid' is the law's where the arguments, and the package variables that the reading takes, are together of bulk at most 1048576: NARROWER than '..Said'. Prove '..Said' where nothing that the law and all that it calls make is longer than what came in: it says more and counts as full. Else prove '..UptoSaid'. A law counts once. -/
mutual
def uptoBulk {H : Type} : DataW H → Nat
  | .lit (.string bytes) => bytes.length + 1
  | .lit _ => 1
  | .nil => 1
  | .ptr d => uptoBulk d + 1
  | .slice elems spare => uptoBulkAll elems + uptoBulkAll spare + 1
  | .agg parts => uptoBulkAll parts + 1
  | .iface _ d => uptoBulk d + 1
  | .map entries => uptoBulkEntries entries + 1
  | .held _ => 1
def uptoBulkAll {H : Type} : List (DataW H) → Nat
  | [] => 0
  | d :: r => uptoBulk d + uptoBulkAll r
def uptoBulkEntries {H : Type} : List (Lit × DataW H) → Nat
  | [] => 0
  | x :: r => uptoBulkEntry x + uptoBulkEntries r
def uptoBulkEntry {H : Type} : Lit × DataW H → Nat
  | (.string bytes, d) => bytes.length + uptoBulk d + 1
  | (_, d) => uptoBulk d + 1
 end
def uptoSmall : (H : Type) → List (DataW H) → Bool := fun _ ds => decide (uptoBulkAll ds ≤ 1048576)
def OpenSpec.upto (s : _root_.Go.ChangeSpec) : _root_.Go.OpenSpec := { _root_.Go.OpenSpec.ofChange s with cond := some uptoSmall }

/-- 'manteletlaw10.ReaderPlays', WHERE WHAT IT READS IS OF BULK AT MOST 1048576: true; the input reads as it did. -/
def readerPlaysUptoRow : OpenClaim := { program := "ytnabhfegbnfabaa", sum := "6263d3f51ba20e8d90a60841d9368c7ce8694489fc50ab0c817bcd1da9060bef", func := "mantelet/manteletlaw10.ReaderPlays", spec := "readerPlays", unfollowed := true, recurses := true, apart := false, narrowed := true }
def ReaderPlaysUptoSaid : Prop := readerPlaysUptoRow.holds Try.pinned (OpenSpec.upto readerPlaysSpec)

/-- 'manteletlaw10.ReaderAll', WHERE WHAT IT READS IS OF BULK AT MOST 1048576: true; the input reads as it did. -/
def readerAllUptoRow : OpenClaim := { program := "ytnabhfegbnfabaa", sum := "6263d3f51ba20e8d90a60841d9368c7ce8694489fc50ab0c817bcd1da9060bef", func := "mantelet/manteletlaw10.ReaderAll", spec := "readerAll", unfollowed := true, recurses := true, apart := false, narrowed := true }
def ReaderAllUptoSaid : Prop := readerAllUptoRow.holds Try.pinned (OpenSpec.upto readerAllSpec)

/-- 'manteletlaw10.ReaderNobody', WHERE WHAT IT READS IS OF BULK AT MOST 1048576: true; the input reads as it did. -/
def readerNobodyUptoRow : OpenClaim := { program := "ytnabhfegbnfabaa", sum := "6263d3f51ba20e8d90a60841d9368c7ce8694489fc50ab0c817bcd1da9060bef", func := "mantelet/manteletlaw10.ReaderNobody", spec := "readerNobody", unfollowed := true, recurses := true, apart := false, narrowed := true }
def ReaderNobodyUptoSaid : Prop := readerNobodyUptoRow.holds Try.pinned (OpenSpec.upto readerNobodySpec)

/-- 'manteletlaw10.ReaderTwo', WHERE WHAT IT READS IS OF BULK AT MOST 1048576: true; the input reads as it did. -/
def readerTwoUptoRow : OpenClaim := { program := "ytnabhfegbnfabaa", sum := "6263d3f51ba20e8d90a60841d9368c7ce8694489fc50ab0c817bcd1da9060bef", func := "mantelet/manteletlaw10.ReaderTwo", spec := "readerTwo", unfollowed := true, recurses := true, apart := false, narrowed := true }
def ReaderTwoUptoSaid : Prop := readerTwoUptoRow.holds Try.pinned (OpenSpec.upto readerTwoSpec)

end Rows
end Go.Proofs.Ytnabhfegbnfabaa
