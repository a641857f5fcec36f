/- The card FsStopsCardSaid holds: for every input that its row reads, the call of the statement FsStops returns true, and what was handed in reads as before; no condition beyond the row's own (the two tables of unicode/utf8 as the program's text has them). -/
import Derived.Test.YtnnlmackofopeaaDoorFsStopsRow
import Derived.Test.YtnnlmackofopeaaDoorTie
import Derived.Test.YtnnlmackofopeaaDoorCards
import Derived.SevenTiedAt
namespace Go.Proofs.YtnnlmackofopeaaDoor
open Go
theorem fsStops_card : Rows.FsStopsCardSaid :=
  Claim7.holds_tied_plain_at .later [] [.data, .pinned] true (true, "ff44c7f4ed622f1970b8001e41efbc777d97a672be40d9d07c327143874fb102") true
    Fs.fsStopsOver (fun _ h => by cases h) (by kernel_rfl) (fun _ h => by cases h) fsStops_row_tie rfl ⟨rfl, rfl⟩ (by kernel_rfl) rfl
    (fun f fn hf hfn => by
      obtain rfl : f = 8 := Option.some.inj ((show Tryd.prog.funcNamed "mantelet/manteletlaw19.FsStops" = some 8 by kernel_rfl).symm.trans hf) |>.symm
      obtain rfl : fn = Tryd.f8 := (Option.some.inj (Tryd.func8.symm.trans hfn)).symm
      exact ⟨by kernel_rfl, fun j t ht => by
        rw [Tryd.params8] at ht
        have h3 : t = 49 ∨ t = 49 := by
          rcases j with _ | _ | j
          · exact .inl (by simpa using ht.symm)
          · exact .inr (by simpa using ht.symm)
          · simp at ht
        rcases h3 with rfl | rfl
        · exact (show Tryd.prog.wantsStandIn 49 = false by kernel_rfl)
        · exact (show Tryd.prog.wantsStandIn 49 = false by kernel_rfl)⟩)
    (by kernel_rfl)
#print axioms fsStops_card
end Go.Proofs.YtnnlmackofopeaaDoor
