/-
  No cell of these rows narrows 'for every input' (looked for: loops, veiled, ifaces, maps, wideKeys, modest, calm, conditions, laid).
  DERIVED. THE GIVEN ROWS OF THIS SEAT. 3 by the template 'for every input the law returns true; each argument reads behind the call as it read before'; 0 by the template 'total and deterministic' (their statements: YtiohnpphhepdfaaTotals.lean).
  GIVEN WITH THE SEED: the statements are not yours to turn. If you find one false, say at which input.
  Laid BY PROGRAM, IN A SANDBOX (cutbox-rows.mjs): the forced cells as the released guide's own fill.sh prints them over the translation 260b8233853e1b9e… (all of the seat's roots in one cut). By AI agents, Wed Nov 11 2026. No macro, syntax, notation, axiom, sorry.
-/
import Derived.Test.YtiohnpphhepdfaaChecked
import GoSem.Claim
import GoSem.ClaimJoined
import GoSem.ClaimMapViews
import Derived.JoinedTies
import Derived.KernelRfl
namespace Go.Proofs.Ytiohnpphhepdfaa
/- THE CELL 'sum', in the pinned program and in every row, IS THE sha256 OF THE DUMP (.gsa) THAT YtiohnpphhepdfaaProg.lean LOADS. Nothing in Lean hashes anything: it is a label: what it is worth is what the hold of that sum in a sandbox is worth. -/
noncomputable def Try.pinned : Pinned := { name := "ytiohnpphhepdfaa", sum := "260b8233853e1b9e39ac3f0e4132019d0c2b5366d42c83a40b4f6dd151fadd8b", checked := Try.checked }
namespace Rows
def none {H : Type} : Left H := { results := [], args := [] }

/-- 'manteletlaw11.LoserRuns': WHATEVER THE INPUT: true; the input reads as it did. -/
def loserRunsSpec : ChangeSpec := { name := "loserRuns", fn := fun _ => fun
  | [d1, d2] => { results := [.lit (.bool true)], args := [d1, d2] }
  | _ => none }
def loserRunsRow : OpenClaim := { program := "ytiohnpphhepdfaa", sum := "260b8233853e1b9e39ac3f0e4132019d0c2b5366d42c83a40b4f6dd151fadd8b", func := "mantelet/manteletlaw11.LoserRuns", spec := "loserRuns", unfollowed := true, recurses := true, apart := false }
def LoserRunsSaid : Prop := loserRunsRow.holds Try.pinned (OpenSpec.ofChange loserRunsSpec)

/-- ITS FALSE NEIGHBOUR: 'it returns false'. Refute it at one input. -/
def loserRunsWrong : ChangeSpec := { name := "loserRuns", fn := fun _ => fun
  | [d1, d2] => { results := [.lit (.bool false)], args := [d1, d2] }
  | _ => none }
def LoserRunsWrongFalsely : Prop := loserRunsRow.holds Try.pinned (OpenSpec.ofChange loserRunsWrong)

/-- 'manteletlaw12.PassesMerges': WHATEVER THE INPUT: true; the input reads as it did. -/
def passesMergesSpec : ChangeSpec := { name := "passesMerges", fn := fun _ => fun
  | [d1, d2, d3] => { results := [.lit (.bool true)], args := [d1, d2, d3] }
  | _ => none }
def passesMergesRow : OpenClaim := { program := "ytiohnpphhepdfaa", sum := "260b8233853e1b9e39ac3f0e4132019d0c2b5366d42c83a40b4f6dd151fadd8b", func := "mantelet/manteletlaw12.PassesMerges", spec := "passesMerges", unfollowed := true, recurses := true, apart := false }
def PassesMergesSaid : Prop := passesMergesRow.holds Try.pinned (OpenSpec.ofChange passesMergesSpec)

/-- ITS FALSE NEIGHBOUR: 'it returns false'. Refute it at one input. -/
def passesMergesWrong : ChangeSpec := { name := "passesMerges", fn := fun _ => fun
  | [d1, d2, d3] => { results := [.lit (.bool false)], args := [d1, d2, d3] }
  | _ => none }
def PassesMergesWrongFalsely : Prop := passesMergesRow.holds Try.pinned (OpenSpec.ofChange passesMergesWrong)

/-- 'manteletlaw12.PassesOnce': WHATEVER THE INPUT: true; the input reads as it did. -/
def passesOnceSpec : ChangeSpec := { name := "passesOnce", fn := fun _ => fun
  | [d1, d2] => { results := [.lit (.bool true)], args := [d1, d2] }
  | _ => none }
def passesOnceRow : OpenClaim := { program := "ytiohnpphhepdfaa", sum := "260b8233853e1b9e39ac3f0e4132019d0c2b5366d42c83a40b4f6dd151fadd8b", func := "mantelet/manteletlaw12.PassesOnce", spec := "passesOnce", unfollowed := true, recurses := true, apart := false }
def PassesOnceSaid : Prop := passesOnceRow.holds Try.pinned (OpenSpec.ofChange passesOnceSpec)

/-- ITS FALSE NEIGHBOUR: 'it returns false'. Refute it at one input. -/
def passesOnceWrong : ChangeSpec := { name := "passesOnce", fn := fun _ => fun
  | [d1, d2] => { results := [.lit (.bool false)], args := [d1, d2] }
  | _ => none }
def PassesOnceWrongFalsely : Prop := passesOnceRow.holds Try.pinned (OpenSpec.ofChange passesOnceWrong)

/- THE SECOND FORM. 'bulk': how many values and letters a reading holds, each counted each time it is reached (what is shared counts as often as it is met; a slice's spare places count too). A statement '..UptoSaid' is the law's where the arguments, and the package variables that the reading takes, are together of bulk at most 1048576: NARROWER than '..Said'. Prove '..Said' where nothing that the law and all that it calls make is longer than what came in: it says more and counts as full. Else prove '..UptoSaid'. A law counts once. -/
mutual
def uptoBulk {H : Type} : DataW H → Nat
  | .lit (.string bytes) => bytes.length + 1
  | .lit _ => 1
  | .nil => 1
  | .ptr d => uptoBulk d + 1
  | .slice elems spare => uptoBulkAll elems + uptoBulkAll spare + 1
  | .agg parts => uptoBulkAll parts + 1
  | .iface _ d => uptoBulk d + 1
  | .map entries => uptoBulkEntries entries + 1
  | .held _ => 1
def uptoBulkAll {H : Type} : List (DataW H) → Nat
  | [] => 0
  | d :: r => uptoBulk d + uptoBulkAll r
def uptoBulkEntries {H : Type} : List (Lit × DataW H) → Nat
  | [] => 0
  | x :: r => uptoBulkEntry x + uptoBulkEntries r
def uptoBulkEntry {H : Type} : Lit × DataW H → Nat
  | (.string bytes, d) => bytes.length + uptoBulk d + 1
  | (_, d) => uptoBulk d + 1
 end
def uptoSmall : (H : Type) → List (DataW H) → Bool := fun _ ds => decide (uptoBulkAll ds ≤ 1048576)
def OpenSpec.upto (s : _root_.Go.ChangeSpec) : _root_.Go.OpenSpec := { _root_.Go.OpenSpec.ofChange s with cond := some uptoSmall }

/-- 'manteletlaw11.LoserRuns', WHERE WHAT IT READS IS OF BULK AT MOST 1048576: true; the input reads as it did. -/
def loserRunsUptoRow : OpenClaim := { program := "ytiohnpphhepdfaa", sum := "260b8233853e1b9e39ac3f0e4132019d0c2b5366d42c83a40b4f6dd151fadd8b", func := "mantelet/manteletlaw11.LoserRuns", spec := "loserRuns", unfollowed := true, recurses := true, apart := false, narrowed := true }
def LoserRunsUptoSaid : Prop := loserRunsUptoRow.holds Try.pinned (OpenSpec.upto loserRunsSpec)

/-- 'manteletlaw12.PassesMerges', WHERE WHAT IT READS IS OF BULK AT MOST 1048576: true; the input reads as it did. -/
def passesMergesUptoRow : OpenClaim := { program := "ytiohnpphhepdfaa", sum := "260b8233853e1b9e39ac3f0e4132019d0c2b5366d42c83a40b4f6dd151fadd8b", func := "mantelet/manteletlaw12.PassesMerges", spec := "passesMerges", unfollowed := true, recurses := true, apart := false, narrowed := true }
def PassesMergesUptoSaid : Prop := passesMergesUptoRow.holds Try.pinned (OpenSpec.upto passesMergesSpec)

/-- 'manteletlaw12.PassesOnce', WHERE WHAT IT READS IS OF BULK AT MOST 1048576: true; the input reads as it did. -/
def passesOnceUptoRow : OpenClaim := { program := "ytiohnpphhepdfaa", sum := "260b8233853e1b9e39ac3f0e4132019d0c2b5366d42c83a40b4f6dd151fadd8b", func := "mantelet/manteletlaw12.PassesOnce", spec := "passesOnce", unfollowed := true, recurses := true, apart := false, narrowed := true }
def PassesOnceUptoSaid : Prop := passesOnceUptoRow.holds Try.pinned (OpenSpec.upto passesOnceSpec)

end Rows
end Go.Proofs.Ytiohnpphhepdfaa
