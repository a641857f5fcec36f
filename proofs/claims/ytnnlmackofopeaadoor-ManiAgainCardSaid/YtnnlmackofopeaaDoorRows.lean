/-
  NARROWER THAN 'FOR EVERY INPUT', by the rows' own cells (each row's printed sentence says how): ManiAgain: laid · FsBegins: laid · FsGone: laid · FsAtomic: laid · FsStays: laid · FsStops: laid · FsQuota: laid · ManiQuota: laid · ManiWhole: laid · ManiFirst: laid.
  DERIVED. THE GIVEN ROWS OF THIS SEAT. 10 by the template 'for every input the law returns true; each argument reads behind the call as it read before'; 0 by the template 'total and deterministic' (their statements: YtnnlmackofopeaaDoorTotals.lean).
  GIVEN WITH THE SEED: the statements are not yours to turn. If you find one false, say at which input.
  Laid BY PROGRAM, IN A SANDBOX (cutbox-rows.mjs): the forced cells as the released guide's own fill.sh prints them over the translation 7790fe48347638df… (all of the seat's roots in one cut). By AI agents, Wed Nov 11 2026. No macro, syntax, notation, axiom, sorry.
-/
import Derived.Test.YtnnlmackofopeaaDoorChecked
import GoSem.PinnedTables
import GoSem.Claim
import GoSem.ClaimJoined
import GoSem.ClaimMapViews
import Derived.JoinedTies
import Derived.KernelRfl
namespace Go.Proofs.YtnnlmackofopeaaDoor
/- THE CELL 'sum', in the pinned program and in every row, IS THE sha256 OF THE DUMP (.gsa) THAT YtnnlmackofopeaaDoorProg.lean LOADS. Nothing in Lean hashes anything: it is a label: what it is worth is what the hold of that sum in a sandbox is worth. -/
noncomputable def Tryd.pinned : Pinned := { name := "ytnnlmackofopeaadoor", sum := "7790fe48347638dfd3cbd50cca4209e2dd864c309dc83eb350960a886065de97", checked := Tryd.checked }
namespace Rows
def none {H : Type} : Left H := { results := [], args := [] }

/- WHAT THE LISTED PACKAGE-LEVEL VARIABLES READ AS WHEN THE CALL BEGINS. Each datum BY PROGRAM (the guide's laid-datum.mjs) off the statement by which the dump's own 'gosem.cut.vars' lays the variable. In a bare row this is a premise. The card (YtnnlmackofopeaaDoorCards.lean) ties it to the program's text. -/
def laid_unicode_utf8_acceptRanges {H : Type} : DataW H := .agg [.agg [.lit (.int .u8 128), .lit (.int .u8 191)], .agg [.lit (.int .u8 160), .lit (.int .u8 191)], .agg [.lit (.int .u8 128), .lit (.int .u8 159)], .agg [.lit (.int .u8 144), .lit (.int .u8 191)], .agg [.lit (.int .u8 128), .lit (.int .u8 143)], .agg [.lit (.int .u8 0), .lit (.int .u8 0)], .agg [.lit (.int .u8 0), .lit (.int .u8 0)], .agg [.lit (.int .u8 0), .lit (.int .u8 0)], .agg [.lit (.int .u8 0), .lit (.int .u8 0)], .agg [.lit (.int .u8 0), .lit (.int .u8 0)], .agg [.lit (.int .u8 0), .lit (.int .u8 0)], .agg [.lit (.int .u8 0), .lit (.int .u8 0)], .agg [.lit (.int .u8 0), .lit (.int .u8 0)], .agg [.lit (.int .u8 0), .lit (.int .u8 0)], .agg [.lit (.int .u8 0), .lit (.int .u8 0)], .agg [.lit (.int .u8 0), .lit (.int .u8 0)]]
/-- One of Go's own tables, pinned by name: the form's constant. -/
def laid_unicode_utf8_first : DataW Unit := Go.Pinned.utf8First

/-- 'manteletlaw20.ManiAgain': WHATEVER THE INPUT: true; the input reads as it did. -/
def maniAgainSpec : ChangeSpec := { name := "maniAgain", fn := fun _ => fun
  | [d1, d2, d3, d4] => { results := [.lit (.bool true)], args := [d1, d2, d3, d4] }
  | _ => none }
def maniAgainRow : OpenClaim := { program := "ytnnlmackofopeaadoor", sum := "7790fe48347638dfd3cbd50cca4209e2dd864c309dc83eb350960a886065de97", func := "mantelet/manteletlaw20.ManiAgain", spec := "maniAgain", inPlace := ["internal/bytealg.IndexByteString", "internal/bytealg.IndexString", "maps.clone"], unfollowed := true, recurses := true, named := ["unicode/utf8.first", "unicode/utf8.acceptRanges", "internal/bytealg.MaxLen"], apart := false, laid := [("unicode/utf8.acceptRanges", laid_unicode_utf8_acceptRanges), ("unicode/utf8.first", laid_unicode_utf8_first)] }
def ManiAgainSaid : Prop := maniAgainRow.holds Tryd.pinned (OpenSpec.ofChange maniAgainSpec)

/-- ITS FALSE NEIGHBOUR: 'it returns false'. Refute it at one input. -/
def maniAgainWrong : ChangeSpec := { name := "maniAgain", fn := fun _ => fun
  | [d1, d2, d3, d4] => { results := [.lit (.bool false)], args := [d1, d2, d3, d4] }
  | _ => none }
def ManiAgainWrongFalsely : Prop := maniAgainRow.holds Tryd.pinned (OpenSpec.ofChange maniAgainWrong)

/-- 'manteletlaw19.FsBegins': WHATEVER THE INPUT: true; the input reads as it did. -/
def fsBeginsSpec : ChangeSpec := { name := "fsBegins", fn := fun _ => fun
  | [d1, d2, d3] => { results := [.lit (.bool true)], args := [d1, d2, d3] }
  | _ => none }
def fsBeginsRow : OpenClaim := { program := "ytnnlmackofopeaadoor", sum := "7790fe48347638dfd3cbd50cca4209e2dd864c309dc83eb350960a886065de97", func := "mantelet/manteletlaw19.FsBegins", spec := "fsBegins", inPlace := ["internal/bytealg.IndexByteString", "internal/bytealg.IndexString", "maps.clone"], unfollowed := true, recurses := true, named := ["unicode/utf8.first", "unicode/utf8.acceptRanges", "internal/bytealg.MaxLen"], apart := false, laid := [("unicode/utf8.acceptRanges", laid_unicode_utf8_acceptRanges), ("unicode/utf8.first", laid_unicode_utf8_first)] }
def FsBeginsSaid : Prop := fsBeginsRow.holds Tryd.pinned (OpenSpec.ofChange fsBeginsSpec)

/-- ITS FALSE NEIGHBOUR: 'it returns false'. Refute it at one input. -/
def fsBeginsWrong : ChangeSpec := { name := "fsBegins", fn := fun _ => fun
  | [d1, d2, d3] => { results := [.lit (.bool false)], args := [d1, d2, d3] }
  | _ => none }
def FsBeginsWrongFalsely : Prop := fsBeginsRow.holds Tryd.pinned (OpenSpec.ofChange fsBeginsWrong)

/-- 'manteletlaw19.FsGone': WHATEVER THE INPUT: true; the input reads as it did. -/
def fsGoneSpec : ChangeSpec := { name := "fsGone", fn := fun _ => fun
  | [d1, d2, d3] => { results := [.lit (.bool true)], args := [d1, d2, d3] }
  | _ => none }
def fsGoneRow : OpenClaim := { program := "ytnnlmackofopeaadoor", sum := "7790fe48347638dfd3cbd50cca4209e2dd864c309dc83eb350960a886065de97", func := "mantelet/manteletlaw19.FsGone", spec := "fsGone", inPlace := ["internal/bytealg.IndexByteString", "internal/bytealg.IndexString", "maps.clone"], unfollowed := true, recurses := true, named := ["unicode/utf8.first", "unicode/utf8.acceptRanges", "internal/bytealg.MaxLen"], apart := false, laid := [("unicode/utf8.acceptRanges", laid_unicode_utf8_acceptRanges), ("unicode/utf8.first", laid_unicode_utf8_first)] }
def FsGoneSaid : Prop := fsGoneRow.holds Tryd.pinned (OpenSpec.ofChange fsGoneSpec)

/-- ITS FALSE NEIGHBOUR: 'it returns false'. Refute it at one input. -/
def fsGoneWrong : ChangeSpec := { name := "fsGone", fn := fun _ => fun
  | [d1, d2, d3] => { results := [.lit (.bool false)], args := [d1, d2, d3] }
  | _ => none }
def FsGoneWrongFalsely : Prop := fsGoneRow.holds Tryd.pinned (OpenSpec.ofChange fsGoneWrong)

/-- 'manteletlaw19.FsAtomic': WHATEVER THE INPUT: true; the input reads as it did. -/
def fsAtomicSpec : ChangeSpec := { name := "fsAtomic", fn := fun _ => fun
  | [d1, d2, d3] => { results := [.lit (.bool true)], args := [d1, d2, d3] }
  | _ => none }
def fsAtomicRow : OpenClaim := { program := "ytnnlmackofopeaadoor", sum := "7790fe48347638dfd3cbd50cca4209e2dd864c309dc83eb350960a886065de97", func := "mantelet/manteletlaw19.FsAtomic", spec := "fsAtomic", inPlace := ["internal/bytealg.IndexByteString", "internal/bytealg.IndexString", "maps.clone"], unfollowed := true, recurses := true, named := ["unicode/utf8.first", "unicode/utf8.acceptRanges", "internal/bytealg.MaxLen"], apart := false, laid := [("unicode/utf8.acceptRanges", laid_unicode_utf8_acceptRanges), ("unicode/utf8.first", laid_unicode_utf8_first)] }
def FsAtomicSaid : Prop := fsAtomicRow.holds Tryd.pinned (OpenSpec.ofChange fsAtomicSpec)

/-- ITS FALSE NEIGHBOUR: 'it returns false'. Refute it at one input. -/
def fsAtomicWrong : ChangeSpec := { name := "fsAtomic", fn := fun _ => fun
  | [d1, d2, d3] => { results := [.lit (.bool false)], args := [d1, d2, d3] }
  | _ => none }
def FsAtomicWrongFalsely : Prop := fsAtomicRow.holds Tryd.pinned (OpenSpec.ofChange fsAtomicWrong)

/-- 'manteletlaw19.FsStays': WHATEVER THE INPUT: true; the input reads as it did. -/
def fsStaysSpec : ChangeSpec := { name := "fsStays", fn := fun _ => fun
  | [d1, d2, d3] => { results := [.lit (.bool true)], args := [d1, d2, d3] }
  | _ => none }
def fsStaysRow : OpenClaim := { program := "ytnnlmackofopeaadoor", sum := "7790fe48347638dfd3cbd50cca4209e2dd864c309dc83eb350960a886065de97", func := "mantelet/manteletlaw19.FsStays", spec := "fsStays", inPlace := ["internal/bytealg.IndexByteString", "internal/bytealg.IndexString", "maps.clone"], unfollowed := true, recurses := true, named := ["unicode/utf8.first", "unicode/utf8.acceptRanges", "internal/bytealg.MaxLen"], apart := false, laid := [("unicode/utf8.acceptRanges", laid_unicode_utf8_acceptRanges), ("unicode/utf8.first", laid_unicode_utf8_first)] }
def FsStaysSaid : Prop := fsStaysRow.holds Tryd.pinned (OpenSpec.ofChange fsStaysSpec)

/-- ITS FALSE NEIGHBOUR: 'it returns false'. Refute it at one input. -/
def fsStaysWrong : ChangeSpec := { name := "fsStays", fn := fun _ => fun
  | [d1, d2, d3] => { results := [.lit (.bool false)], args := [d1, d2, d3] }
  | _ => none }
def FsStaysWrongFalsely : Prop := fsStaysRow.holds Tryd.pinned (OpenSpec.ofChange fsStaysWrong)

/-- 'manteletlaw19.FsStops': WHATEVER THE INPUT: true; the input reads as it did. -/
def fsStopsSpec : ChangeSpec := { name := "fsStops", fn := fun _ => fun
  | [d1, d2] => { results := [.lit (.bool true)], args := [d1, d2] }
  | _ => none }
def fsStopsRow : OpenClaim := { program := "ytnnlmackofopeaadoor", sum := "7790fe48347638dfd3cbd50cca4209e2dd864c309dc83eb350960a886065de97", func := "mantelet/manteletlaw19.FsStops", spec := "fsStops", inPlace := ["internal/bytealg.IndexByteString", "internal/bytealg.IndexString", "maps.clone"], unfollowed := true, recurses := true, named := ["unicode/utf8.first", "unicode/utf8.acceptRanges", "internal/bytealg.MaxLen"], apart := false, laid := [("unicode/utf8.acceptRanges", laid_unicode_utf8_acceptRanges), ("unicode/utf8.first", laid_unicode_utf8_first)] }
def FsStopsSaid : Prop := fsStopsRow.holds Tryd.pinned (OpenSpec.ofChange fsStopsSpec)

/-- ITS FALSE NEIGHBOUR: 'it returns false'. Refute it at one input. -/
def fsStopsWrong : ChangeSpec := { name := "fsStops", fn := fun _ => fun
  | [d1, d2] => { results := [.lit (.bool false)], args := [d1, d2] }
  | _ => none }
def FsStopsWrongFalsely : Prop := fsStopsRow.holds Tryd.pinned (OpenSpec.ofChange fsStopsWrong)

/-- 'manteletlaw19.FsQuota': WHATEVER THE INPUT: true; the input reads as it did. -/
def fsQuotaSpec : ChangeSpec := { name := "fsQuota", fn := fun _ => fun
  | [d1, d2] => { results := [.lit (.bool true)], args := [d1, d2] }
  | _ => none }
def fsQuotaRow : OpenClaim := { program := "ytnnlmackofopeaadoor", sum := "7790fe48347638dfd3cbd50cca4209e2dd864c309dc83eb350960a886065de97", func := "mantelet/manteletlaw19.FsQuota", spec := "fsQuota", inPlace := ["internal/bytealg.IndexByteString", "internal/bytealg.IndexString", "maps.clone"], unfollowed := true, recurses := true, named := ["unicode/utf8.first", "unicode/utf8.acceptRanges", "internal/bytealg.MaxLen"], apart := false, laid := [("unicode/utf8.acceptRanges", laid_unicode_utf8_acceptRanges), ("unicode/utf8.first", laid_unicode_utf8_first)] }
def FsQuotaSaid : Prop := fsQuotaRow.holds Tryd.pinned (OpenSpec.ofChange fsQuotaSpec)

/-- ITS FALSE NEIGHBOUR: 'it returns false'. Refute it at one input. -/
def fsQuotaWrong : ChangeSpec := { name := "fsQuota", fn := fun _ => fun
  | [d1, d2] => { results := [.lit (.bool false)], args := [d1, d2] }
  | _ => none }
def FsQuotaWrongFalsely : Prop := fsQuotaRow.holds Tryd.pinned (OpenSpec.ofChange fsQuotaWrong)

/-- 'manteletlaw20.ManiQuota': WHATEVER THE INPUT: true; the input reads as it did. -/
def maniQuotaSpec : ChangeSpec := { name := "maniQuota", fn := fun _ => fun
  | [d1, d2, d3] => { results := [.lit (.bool true)], args := [d1, d2, d3] }
  | _ => none }
def maniQuotaRow : OpenClaim := { program := "ytnnlmackofopeaadoor", sum := "7790fe48347638dfd3cbd50cca4209e2dd864c309dc83eb350960a886065de97", func := "mantelet/manteletlaw20.ManiQuota", spec := "maniQuota", inPlace := ["internal/bytealg.IndexByteString", "internal/bytealg.IndexString", "maps.clone"], unfollowed := true, recurses := true, named := ["unicode/utf8.first", "unicode/utf8.acceptRanges", "internal/bytealg.MaxLen"], apart := false, laid := [("unicode/utf8.acceptRanges", laid_unicode_utf8_acceptRanges), ("unicode/utf8.first", laid_unicode_utf8_first)] }
def ManiQuotaSaid : Prop := maniQuotaRow.holds Tryd.pinned (OpenSpec.ofChange maniQuotaSpec)

/-- ITS FALSE NEIGHBOUR: 'it returns false'. Refute it at one input. -/
def maniQuotaWrong : ChangeSpec := { name := "maniQuota", fn := fun _ => fun
  | [d1, d2, d3] => { results := [.lit (.bool false)], args := [d1, d2, d3] }
  | _ => none }
def ManiQuotaWrongFalsely : Prop := maniQuotaRow.holds Tryd.pinned (OpenSpec.ofChange maniQuotaWrong)

/-- 'manteletlaw20.ManiWhole': WHATEVER THE INPUT: true; the input reads as it did. -/
def maniWholeSpec : ChangeSpec := { name := "maniWhole", fn := fun _ => fun
  | [d1, d2, d3, d4] => { results := [.lit (.bool true)], args := [d1, d2, d3, d4] }
  | _ => none }
def maniWholeRow : OpenClaim := { program := "ytnnlmackofopeaadoor", sum := "7790fe48347638dfd3cbd50cca4209e2dd864c309dc83eb350960a886065de97", func := "mantelet/manteletlaw20.ManiWhole", spec := "maniWhole", inPlace := ["internal/bytealg.IndexByteString", "internal/bytealg.IndexString", "maps.clone"], unfollowed := true, recurses := true, named := ["unicode/utf8.first", "unicode/utf8.acceptRanges", "internal/bytealg.MaxLen"], apart := false, laid := [("unicode/utf8.acceptRanges", laid_unicode_utf8_acceptRanges), ("unicode/utf8.first", laid_unicode_utf8_first)] }
def ManiWholeSaid : Prop := maniWholeRow.holds Tryd.pinned (OpenSpec.ofChange maniWholeSpec)

/-- ITS FALSE NEIGHBOUR: 'it returns false'. Refute it at one input. -/
def maniWholeWrong : ChangeSpec := { name := "maniWhole", fn := fun _ => fun
  | [d1, d2, d3, d4] => { results := [.lit (.bool false)], args := [d1, d2, d3, d4] }
  | _ => none }
def ManiWholeWrongFalsely : Prop := maniWholeRow.holds Tryd.pinned (OpenSpec.ofChange maniWholeWrong)

/-- 'manteletlaw20.ManiFirst': WHATEVER THE INPUT: true; the input reads as it did. -/
def maniFirstSpec : ChangeSpec := { name := "maniFirst", fn := fun _ => fun
  | [d1, d2, d3] => { results := [.lit (.bool true)], args := [d1, d2, d3] }
  | _ => none }
def maniFirstRow : OpenClaim := { program := "ytnnlmackofopeaadoor", sum := "7790fe48347638dfd3cbd50cca4209e2dd864c309dc83eb350960a886065de97", func := "mantelet/manteletlaw20.ManiFirst", spec := "maniFirst", inPlace := ["internal/bytealg.IndexByteString", "internal/bytealg.IndexString", "maps.clone"], unfollowed := true, recurses := true, named := ["unicode/utf8.first", "unicode/utf8.acceptRanges", "internal/bytealg.MaxLen"], apart := false, laid := [("unicode/utf8.acceptRanges", laid_unicode_utf8_acceptRanges), ("unicode/utf8.first", laid_unicode_utf8_first)] }
def ManiFirstSaid : Prop := maniFirstRow.holds Tryd.pinned (OpenSpec.ofChange maniFirstSpec)

/-- ITS FALSE NEIGHBOUR: 'it returns false'. Refute it at one input. -/
def maniFirstWrong : ChangeSpec := { name := "maniFirst", fn := fun _ => fun
  | [d1, d2, d3] => { results := [.lit (.bool false)], args := [d1, d2, d3] }
  | _ => none }
def ManiFirstWrongFalsely : Prop := maniFirstRow.holds Tryd.pinned (OpenSpec.ofChange maniFirstWrong)

/- THE SECOND FORM. 'bulk': how many values and letters a reading holds, each counted each time it is reached (what is shared counts as often as it is met; a slice's spare places count too). A statement '..UptoSaid' is the law's where the arguments, and the package variables that the reading takes, are together of bulk at most 1048576: NARROWER than '..Said'. Prove '..Said' where nothing that the law and all that it calls make is longer than what came in: it says more and counts as full. Else prove '..UptoSaid'. A law counts once. -/
mutual
def uptoBulk {H : Type} : DataW H → Nat
  | .lit (.string bytes) => bytes.length + 1
  | .lit _ => 1
  | .nil => 1
  | .ptr d => uptoBulk d + 1
  | .slice elems spare => uptoBulkAll elems + uptoBulkAll spare + 1
  | .agg parts => uptoBulkAll parts + 1
  | .iface _ d => uptoBulk d + 1
  | .map entries => uptoBulkEntries entries + 1
  | .held _ => 1
def uptoBulkAll {H : Type} : List (DataW H) → Nat
  | [] => 0
  | d :: r => uptoBulk d + uptoBulkAll r
def uptoBulkEntries {H : Type} : List (Lit × DataW H) → Nat
  | [] => 0
  | x :: r => uptoBulkEntry x + uptoBulkEntries r
def uptoBulkEntry {H : Type} : Lit × DataW H → Nat
  | (.string bytes, d) => bytes.length + uptoBulk d + 1
  | (_, d) => uptoBulk d + 1
 end
def uptoSmall : (H : Type) → List (DataW H) → Bool := fun _ ds => decide (uptoBulkAll ds ≤ 1048576)
def OpenSpec.upto (s : _root_.Go.ChangeSpec) : _root_.Go.OpenSpec := { _root_.Go.OpenSpec.ofChange s with cond := some uptoSmall }

/-- 'manteletlaw20.ManiAgain', WHERE WHAT IT READS IS OF BULK AT MOST 1048576: true; the input reads as it did. -/
def maniAgainUptoRow : OpenClaim := { program := "ytnnlmackofopeaadoor", sum := "7790fe48347638dfd3cbd50cca4209e2dd864c309dc83eb350960a886065de97", func := "mantelet/manteletlaw20.ManiAgain", spec := "maniAgain", inPlace := ["internal/bytealg.IndexByteString", "internal/bytealg.IndexString", "maps.clone"], unfollowed := true, recurses := true, named := ["unicode/utf8.first", "unicode/utf8.acceptRanges", "internal/bytealg.MaxLen"], apart := false, laid := [("unicode/utf8.acceptRanges", laid_unicode_utf8_acceptRanges), ("unicode/utf8.first", laid_unicode_utf8_first)], narrowed := true }
def ManiAgainUptoSaid : Prop := maniAgainUptoRow.holds Tryd.pinned (OpenSpec.upto maniAgainSpec)

/-- 'manteletlaw19.FsBegins', WHERE WHAT IT READS IS OF BULK AT MOST 1048576: true; the input reads as it did. -/
def fsBeginsUptoRow : OpenClaim := { program := "ytnnlmackofopeaadoor", sum := "7790fe48347638dfd3cbd50cca4209e2dd864c309dc83eb350960a886065de97", func := "mantelet/manteletlaw19.FsBegins", spec := "fsBegins", inPlace := ["internal/bytealg.IndexByteString", "internal/bytealg.IndexString", "maps.clone"], unfollowed := true, recurses := true, named := ["unicode/utf8.first", "unicode/utf8.acceptRanges", "internal/bytealg.MaxLen"], apart := false, laid := [("unicode/utf8.acceptRanges", laid_unicode_utf8_acceptRanges), ("unicode/utf8.first", laid_unicode_utf8_first)], narrowed := true }
def FsBeginsUptoSaid : Prop := fsBeginsUptoRow.holds Tryd.pinned (OpenSpec.upto fsBeginsSpec)

/-- 'manteletlaw19.FsGone', WHERE WHAT IT READS IS OF BULK AT MOST 1048576: true; the input reads as it did. -/
def fsGoneUptoRow : OpenClaim := { program := "ytnnlmackofopeaadoor", sum := "7790fe48347638dfd3cbd50cca4209e2dd864c309dc83eb350960a886065de97", func := "mantelet/manteletlaw19.FsGone", spec := "fsGone", inPlace := ["internal/bytealg.IndexByteString", "internal/bytealg.IndexString", "maps.clone"], unfollowed := true, recurses := true, named := ["unicode/utf8.first", "unicode/utf8.acceptRanges", "internal/bytealg.MaxLen"], apart := false, laid := [("unicode/utf8.acceptRanges", laid_unicode_utf8_acceptRanges), ("unicode/utf8.first", laid_unicode_utf8_first)], narrowed := true }
def FsGoneUptoSaid : Prop := fsGoneUptoRow.holds Tryd.pinned (OpenSpec.upto fsGoneSpec)

/-- 'manteletlaw19.FsAtomic', WHERE WHAT IT READS IS OF BULK AT MOST 1048576: true; the input reads as it did. -/
def fsAtomicUptoRow : OpenClaim := { program := "ytnnlmackofopeaadoor", sum := "7790fe48347638dfd3cbd50cca4209e2dd864c309dc83eb350960a886065de97", func := "mantelet/manteletlaw19.FsAtomic", spec := "fsAtomic", inPlace := ["internal/bytealg.IndexByteString", "internal/bytealg.IndexString", "maps.clone"], unfollowed := true, recurses := true, named := ["unicode/utf8.first", "unicode/utf8.acceptRanges", "internal/bytealg.MaxLen"], apart := false, laid := [("unicode/utf8.acceptRanges", laid_unicode_utf8_acceptRanges), ("unicode/utf8.first", laid_unicode_utf8_first)], narrowed := true }
def FsAtomicUptoSaid : Prop := fsAtomicUptoRow.holds Tryd.pinned (OpenSpec.upto fsAtomicSpec)

/-- 'manteletlaw19.FsStays', WHERE WHAT IT READS IS OF BULK AT MOST 1048576: true; the input reads as it did. -/
def fsStaysUptoRow : OpenClaim := { program := "ytnnlmackofopeaadoor", sum := "7790fe48347638dfd3cbd50cca4209e2dd864c309dc83eb350960a886065de97", func := "mantelet/manteletlaw19.FsStays", spec := "fsStays", inPlace := ["internal/bytealg.IndexByteString", "internal/bytealg.IndexString", "maps.clone"], unfollowed := true, recurses := true, named := ["unicode/utf8.first", "unicode/utf8.acceptRanges", "internal/bytealg.MaxLen"], apart := false, laid := [("unicode/utf8.acceptRanges", laid_unicode_utf8_acceptRanges), ("unicode/utf8.first", laid_unicode_utf8_first)], narrowed := true }
def FsStaysUptoSaid : Prop := fsStaysUptoRow.holds Tryd.pinned (OpenSpec.upto fsStaysSpec)

/-- 'manteletlaw19.FsStops', WHERE WHAT IT READS IS OF BULK AT MOST 1048576: true; the input reads as it did. -/
def fsStopsUptoRow : OpenClaim := { program := "ytnnlmackofopeaadoor", sum := "7790fe48347638dfd3cbd50cca4209e2dd864c309dc83eb350960a886065de97", func := "mantelet/manteletlaw19.FsStops", spec := "fsStops", inPlace := ["internal/bytealg.IndexByteString", "internal/bytealg.IndexString", "maps.clone"], unfollowed := true, recurses := true, named := ["unicode/utf8.first", "unicode/utf8.acceptRanges", "internal/bytealg.MaxLen"], apart := false, laid := [("unicode/utf8.acceptRanges", laid_unicode_utf8_acceptRanges), ("unicode/utf8.first", laid_unicode_utf8_first)], narrowed := true }
def FsStopsUptoSaid : Prop := fsStopsUptoRow.holds Tryd.pinned (OpenSpec.upto fsStopsSpec)

/-- 'manteletlaw19.FsQuota', WHERE WHAT IT READS IS OF BULK AT MOST 1048576: true; the input reads as it did. -/
def fsQuotaUptoRow : OpenClaim := { program := "ytnnlmackofopeaadoor", sum := "7790fe48347638dfd3cbd50cca4209e2dd864c309dc83eb350960a886065de97", func := "mantelet/manteletlaw19.FsQuota", spec := "fsQuota", inPlace := ["internal/bytealg.IndexByteString", "internal/bytealg.IndexString", "maps.clone"], unfollowed := true, recurses := true, named := ["unicode/utf8.first", "unicode/utf8.acceptRanges", "internal/bytealg.MaxLen"], apart := false, laid := [("unicode/utf8.acceptRanges", laid_unicode_utf8_acceptRanges), ("unicode/utf8.first", laid_unicode_utf8_first)], narrowed := true }
def FsQuotaUptoSaid : Prop := fsQuotaUptoRow.holds Tryd.pinned (OpenSpec.upto fsQuotaSpec)

/-- 'manteletlaw20.ManiQuota', WHERE WHAT IT READS IS OF BULK AT MOST 1048576: true; the input reads as it did. -/
def maniQuotaUptoRow : OpenClaim := { program := "ytnnlmackofopeaadoor", sum := "7790fe48347638dfd3cbd50cca4209e2dd864c309dc83eb350960a886065de97", func := "mantelet/manteletlaw20.ManiQuota", spec := "maniQuota", inPlace := ["internal/bytealg.IndexByteString", "internal/bytealg.IndexString", "maps.clone"], unfollowed := true, recurses := true, named := ["unicode/utf8.first", "unicode/utf8.acceptRanges", "internal/bytealg.MaxLen"], apart := false, laid := [("unicode/utf8.acceptRanges", laid_unicode_utf8_acceptRanges), ("unicode/utf8.first", laid_unicode_utf8_first)], narrowed := true }
def ManiQuotaUptoSaid : Prop := maniQuotaUptoRow.holds Tryd.pinned (OpenSpec.upto maniQuotaSpec)

/-- 'manteletlaw20.ManiWhole', WHERE WHAT IT READS IS OF BULK AT MOST 1048576: true; the input reads as it did. -/
def maniWholeUptoRow : OpenClaim := { program := "ytnnlmackofopeaadoor", sum := "7790fe48347638dfd3cbd50cca4209e2dd864c309dc83eb350960a886065de97", func := "mantelet/manteletlaw20.ManiWhole", spec := "maniWhole", inPlace := ["internal/bytealg.IndexByteString", "internal/bytealg.IndexString", "maps.clone"], unfollowed := true, recurses := true, named := ["unicode/utf8.first", "unicode/utf8.acceptRanges", "internal/bytealg.MaxLen"], apart := false, laid := [("unicode/utf8.acceptRanges", laid_unicode_utf8_acceptRanges), ("unicode/utf8.first", laid_unicode_utf8_first)], narrowed := true }
def ManiWholeUptoSaid : Prop := maniWholeUptoRow.holds Tryd.pinned (OpenSpec.upto maniWholeSpec)

/-- 'manteletlaw20.ManiFirst', WHERE WHAT IT READS IS OF BULK AT MOST 1048576: true; the input reads as it did. -/
def maniFirstUptoRow : OpenClaim := { program := "ytnnlmackofopeaadoor", sum := "7790fe48347638dfd3cbd50cca4209e2dd864c309dc83eb350960a886065de97", func := "mantelet/manteletlaw20.ManiFirst", spec := "maniFirst", inPlace := ["internal/bytealg.IndexByteString", "internal/bytealg.IndexString", "maps.clone"], unfollowed := true, recurses := true, named := ["unicode/utf8.first", "unicode/utf8.acceptRanges", "internal/bytealg.MaxLen"], apart := false, laid := [("unicode/utf8.acceptRanges", laid_unicode_utf8_acceptRanges), ("unicode/utf8.first", laid_unicode_utf8_first)], narrowed := true }
def ManiFirstUptoSaid : Prop := maniFirstUptoRow.holds Tryd.pinned (OpenSpec.upto maniFirstSpec)

end Rows
end Go.Proofs.YtnnlmackofopeaaDoor
