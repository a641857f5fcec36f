/-
  DERIVED. GIVEN WITH THE SEED: THE CARDS: each row of YtnnlmackofopeaaDoorRows.lean that lists a variable, with what it lists TIED to the program's text (the seventh form; the later family's looks); each row that meets fmt, with fmt's text TOLD by the authors' own Lean function (tested against real Go, not proved from fmt's source: count such statements apart). THE CARD IS WHAT COUNTS. Prove the row's statement (the work); the ties are given (YtnnlmackofopeaaDoorTie.lean); close each card by the builder's one call (the guide's Derived/Test/ToyasCard.lean, 'card_holds'). Laid BY PROGRAM, IN A SANDBOX (cutbox-door.mjs). By AI agents, Wed Nov 11 2026. No macro, syntax, notation, axiom, sorry.
-/
import Derived.Test.YtnnlmackofopeaaDoorRows
import GoSem.ClaimSeven
namespace Go.Proofs.YtnnlmackofopeaaDoor
namespace Rows

/-- THE TIED CARD OF 'manteletlaw20.ManiAgain'. -/
def maniAgainCard : Claim7 := { stood := { row := maniAgainRow, standIns := [], harness := (true, "ff44c7f4ed622f1970b8001e41efbc777d97a672be40d9d07c327143874fb102"), looks := true }, kinds := [], alts := [], laidByText := true, laidKinds := [.data, .pinned], laidTests := true, laidLooks := .later }
def ManiAgainCardSaid : Prop := Claim7.holds Tryd.pinned (.plain (OpenSpec.ofChange maniAgainSpec)) maniAgainCard

/-- THE TIED CARD OF 'manteletlaw19.FsBegins'. -/
def fsBeginsCard : Claim7 := { stood := { row := fsBeginsRow, standIns := [], harness := (true, "ff44c7f4ed622f1970b8001e41efbc777d97a672be40d9d07c327143874fb102"), looks := true }, kinds := [], alts := [], laidByText := true, laidKinds := [.data, .pinned], laidTests := true, laidLooks := .later }
def FsBeginsCardSaid : Prop := Claim7.holds Tryd.pinned (.plain (OpenSpec.ofChange fsBeginsSpec)) fsBeginsCard

/-- THE TIED CARD OF 'manteletlaw19.FsGone'. -/
def fsGoneCard : Claim7 := { stood := { row := fsGoneRow, standIns := [], harness := (true, "ff44c7f4ed622f1970b8001e41efbc777d97a672be40d9d07c327143874fb102"), looks := true }, kinds := [], alts := [], laidByText := true, laidKinds := [.data, .pinned], laidTests := true, laidLooks := .later }
def FsGoneCardSaid : Prop := Claim7.holds Tryd.pinned (.plain (OpenSpec.ofChange fsGoneSpec)) fsGoneCard

/-- THE TIED CARD OF 'manteletlaw19.FsAtomic'. -/
def fsAtomicCard : Claim7 := { stood := { row := fsAtomicRow, standIns := [], harness := (true, "ff44c7f4ed622f1970b8001e41efbc777d97a672be40d9d07c327143874fb102"), looks := true }, kinds := [], alts := [], laidByText := true, laidKinds := [.data, .pinned], laidTests := true, laidLooks := .later }
def FsAtomicCardSaid : Prop := Claim7.holds Tryd.pinned (.plain (OpenSpec.ofChange fsAtomicSpec)) fsAtomicCard

/-- THE TIED CARD OF 'manteletlaw19.FsStays'. -/
def fsStaysCard : Claim7 := { stood := { row := fsStaysRow, standIns := [], harness := (true, "ff44c7f4ed622f1970b8001e41efbc777d97a672be40d9d07c327143874fb102"), looks := true }, kinds := [], alts := [], laidByText := true, laidKinds := [.data, .pinned], laidTests := true, laidLooks := .later }
def FsStaysCardSaid : Prop := Claim7.holds Tryd.pinned (.plain (OpenSpec.ofChange fsStaysSpec)) fsStaysCard

/-- THE TIED CARD OF 'manteletlaw19.FsStops'. -/
def fsStopsCard : Claim7 := { stood := { row := fsStopsRow, standIns := [], harness := (true, "ff44c7f4ed622f1970b8001e41efbc777d97a672be40d9d07c327143874fb102"), looks := true }, kinds := [], alts := [], laidByText := true, laidKinds := [.data, .pinned], laidTests := true, laidLooks := .later }
def FsStopsCardSaid : Prop := Claim7.holds Tryd.pinned (.plain (OpenSpec.ofChange fsStopsSpec)) fsStopsCard

/-- THE TIED CARD OF 'manteletlaw19.FsQuota'. -/
def fsQuotaCard : Claim7 := { stood := { row := fsQuotaRow, standIns := [], harness := (true, "ff44c7f4ed622f1970b8001e41efbc777d97a672be40d9d07c327143874fb102"), looks := true }, kinds := [], alts := [], laidByText := true, laidKinds := [.data, .pinned], laidTests := true, laidLooks := .later }
def FsQuotaCardSaid : Prop := Claim7.holds Tryd.pinned (.plain (OpenSpec.ofChange fsQuotaSpec)) fsQuotaCard

/-- THE TIED CARD OF 'manteletlaw20.ManiQuota'. -/
def maniQuotaCard : Claim7 := { stood := { row := maniQuotaRow, standIns := [], harness := (true, "ff44c7f4ed622f1970b8001e41efbc777d97a672be40d9d07c327143874fb102"), looks := true }, kinds := [], alts := [], laidByText := true, laidKinds := [.data, .pinned], laidTests := true, laidLooks := .later }
def ManiQuotaCardSaid : Prop := Claim7.holds Tryd.pinned (.plain (OpenSpec.ofChange maniQuotaSpec)) maniQuotaCard

/-- THE TIED CARD OF 'manteletlaw20.ManiWhole'. -/
def maniWholeCard : Claim7 := { stood := { row := maniWholeRow, standIns := [], harness := (true, "ff44c7f4ed622f1970b8001e41efbc777d97a672be40d9d07c327143874fb102"), looks := true }, kinds := [], alts := [], laidByText := true, laidKinds := [.data, .pinned], laidTests := true, laidLooks := .later }
def ManiWholeCardSaid : Prop := Claim7.holds Tryd.pinned (.plain (OpenSpec.ofChange maniWholeSpec)) maniWholeCard

/-- THE TIED CARD OF 'manteletlaw20.ManiFirst'. -/
def maniFirstCard : Claim7 := { stood := { row := maniFirstRow, standIns := [], harness := (true, "ff44c7f4ed622f1970b8001e41efbc777d97a672be40d9d07c327143874fb102"), looks := true }, kinds := [], alts := [], laidByText := true, laidKinds := [.data, .pinned], laidTests := true, laidLooks := .later }
def ManiFirstCardSaid : Prop := Claim7.holds Tryd.pinned (.plain (OpenSpec.ofChange maniFirstSpec)) maniFirstCard

/-- THE SECOND FORM's CARD OF 'manteletlaw20.ManiAgain'. -/
def maniAgainUptoCard : Claim7 := { stood := { row := maniAgainUptoRow, standIns := [], harness := (true, "ff44c7f4ed622f1970b8001e41efbc777d97a672be40d9d07c327143874fb102"), looks := true }, kinds := [], alts := [], laidByText := true, laidKinds := [.data, .pinned], laidTests := true, laidLooks := .later }
def ManiAgainUptoCardSaid : Prop := Claim7.holds Tryd.pinned (.plain (OpenSpec.upto maniAgainSpec)) maniAgainUptoCard

/-- THE SECOND FORM's CARD OF 'manteletlaw19.FsBegins'. -/
def fsBeginsUptoCard : Claim7 := { stood := { row := fsBeginsUptoRow, standIns := [], harness := (true, "ff44c7f4ed622f1970b8001e41efbc777d97a672be40d9d07c327143874fb102"), looks := true }, kinds := [], alts := [], laidByText := true, laidKinds := [.data, .pinned], laidTests := true, laidLooks := .later }
def FsBeginsUptoCardSaid : Prop := Claim7.holds Tryd.pinned (.plain (OpenSpec.upto fsBeginsSpec)) fsBeginsUptoCard

/-- THE SECOND FORM's CARD OF 'manteletlaw19.FsGone'. -/
def fsGoneUptoCard : Claim7 := { stood := { row := fsGoneUptoRow, standIns := [], harness := (true, "ff44c7f4ed622f1970b8001e41efbc777d97a672be40d9d07c327143874fb102"), looks := true }, kinds := [], alts := [], laidByText := true, laidKinds := [.data, .pinned], laidTests := true, laidLooks := .later }
def FsGoneUptoCardSaid : Prop := Claim7.holds Tryd.pinned (.plain (OpenSpec.upto fsGoneSpec)) fsGoneUptoCard

/-- THE SECOND FORM's CARD OF 'manteletlaw19.FsAtomic'. -/
def fsAtomicUptoCard : Claim7 := { stood := { row := fsAtomicUptoRow, standIns := [], harness := (true, "ff44c7f4ed622f1970b8001e41efbc777d97a672be40d9d07c327143874fb102"), looks := true }, kinds := [], alts := [], laidByText := true, laidKinds := [.data, .pinned], laidTests := true, laidLooks := .later }
def FsAtomicUptoCardSaid : Prop := Claim7.holds Tryd.pinned (.plain (OpenSpec.upto fsAtomicSpec)) fsAtomicUptoCard

/-- THE SECOND FORM's CARD OF 'manteletlaw19.FsStays'. -/
def fsStaysUptoCard : Claim7 := { stood := { row := fsStaysUptoRow, standIns := [], harness := (true, "ff44c7f4ed622f1970b8001e41efbc777d97a672be40d9d07c327143874fb102"), looks := true }, kinds := [], alts := [], laidByText := true, laidKinds := [.data, .pinned], laidTests := true, laidLooks := .later }
def FsStaysUptoCardSaid : Prop := Claim7.holds Tryd.pinned (.plain (OpenSpec.upto fsStaysSpec)) fsStaysUptoCard

/-- THE SECOND FORM's CARD OF 'manteletlaw19.FsStops'. -/
def fsStopsUptoCard : Claim7 := { stood := { row := fsStopsUptoRow, standIns := [], harness := (true, "ff44c7f4ed622f1970b8001e41efbc777d97a672be40d9d07c327143874fb102"), looks := true }, kinds := [], alts := [], laidByText := true, laidKinds := [.data, .pinned], laidTests := true, laidLooks := .later }
def FsStopsUptoCardSaid : Prop := Claim7.holds Tryd.pinned (.plain (OpenSpec.upto fsStopsSpec)) fsStopsUptoCard

/-- THE SECOND FORM's CARD OF 'manteletlaw19.FsQuota'. -/
def fsQuotaUptoCard : Claim7 := { stood := { row := fsQuotaUptoRow, standIns := [], harness := (true, "ff44c7f4ed622f1970b8001e41efbc777d97a672be40d9d07c327143874fb102"), looks := true }, kinds := [], alts := [], laidByText := true, laidKinds := [.data, .pinned], laidTests := true, laidLooks := .later }
def FsQuotaUptoCardSaid : Prop := Claim7.holds Tryd.pinned (.plain (OpenSpec.upto fsQuotaSpec)) fsQuotaUptoCard

/-- THE SECOND FORM's CARD OF 'manteletlaw20.ManiQuota'. -/
def maniQuotaUptoCard : Claim7 := { stood := { row := maniQuotaUptoRow, standIns := [], harness := (true, "ff44c7f4ed622f1970b8001e41efbc777d97a672be40d9d07c327143874fb102"), looks := true }, kinds := [], alts := [], laidByText := true, laidKinds := [.data, .pinned], laidTests := true, laidLooks := .later }
def ManiQuotaUptoCardSaid : Prop := Claim7.holds Tryd.pinned (.plain (OpenSpec.upto maniQuotaSpec)) maniQuotaUptoCard

/-- THE SECOND FORM's CARD OF 'manteletlaw20.ManiWhole'. -/
def maniWholeUptoCard : Claim7 := { stood := { row := maniWholeUptoRow, standIns := [], harness := (true, "ff44c7f4ed622f1970b8001e41efbc777d97a672be40d9d07c327143874fb102"), looks := true }, kinds := [], alts := [], laidByText := true, laidKinds := [.data, .pinned], laidTests := true, laidLooks := .later }
def ManiWholeUptoCardSaid : Prop := Claim7.holds Tryd.pinned (.plain (OpenSpec.upto maniWholeSpec)) maniWholeUptoCard

/-- THE SECOND FORM's CARD OF 'manteletlaw20.ManiFirst'. -/
def maniFirstUptoCard : Claim7 := { stood := { row := maniFirstUptoRow, standIns := [], harness := (true, "ff44c7f4ed622f1970b8001e41efbc777d97a672be40d9d07c327143874fb102"), looks := true }, kinds := [], alts := [], laidByText := true, laidKinds := [.data, .pinned], laidTests := true, laidLooks := .later }
def ManiFirstUptoCardSaid : Prop := Claim7.holds Tryd.pinned (.plain (OpenSpec.upto maniFirstSpec)) maniFirstUptoCard
end Rows
end Go.Proofs.YtnnlmackofopeaaDoor
