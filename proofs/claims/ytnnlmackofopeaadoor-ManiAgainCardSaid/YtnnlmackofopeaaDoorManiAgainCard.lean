/- The card ManiAgainCardSaid holds: for every input that its row reads, the call of the statement ManiAgain returns true, and what was handed in reads as before; no condition beyond the row's own (the two tables of unicode/utf8 as the program's text has them). -/
import Derived.Test.YtnnlmackofopeaaDoorManiAgainRow
import Derived.Test.YtnnlmackofopeaaDoorTie
import Derived.Test.YtnnlmackofopeaaDoorCards
import Derived.SevenTiedAt
namespace Go.Proofs.YtnnlmackofopeaaDoor
open Go
theorem maniAgain_card : Rows.ManiAgainCardSaid :=
  Claim7.holds_tied_plain_at .later [] [.data, .pinned] true (true, "ff44c7f4ed622f1970b8001e41efbc777d97a672be40d9d07c327143874fb102") true
    Fs.maniAgainOver (fun _ h => by cases h) (by kernel_rfl) (fun _ h => by cases h) maniAgain_row_tie rfl ⟨rfl, rfl⟩ (by kernel_rfl) rfl
    (fun f fn hf hfn => by
      obtain rfl : f = 3 := Option.some.inj ((show Tryd.prog.funcNamed "mantelet/manteletlaw20.ManiAgain" = some 3 by kernel_rfl).symm.trans hf) |>.symm
      obtain rfl : fn = Tryd.f3 := (Option.some.inj (Tryd.func3.symm.trans hfn)).symm
      exact ⟨by kernel_rfl, fun j t ht => by
        rw [Tryd.params3] at ht
        have h3 : t = 22 ∨ t = 22 ∨ t = 22 ∨ t = 25 := by
          rcases j with _ | _ | _ | _ | j
          · exact .inl (by simpa using ht.symm)
          · exact .inr (.inl (by simpa using ht.symm))
          · exact .inr (.inr (.inl (by simpa using ht.symm)))
          · exact .inr (.inr (.inr (by simpa using ht.symm)))
          · simp at ht
        rcases h3 with rfl | rfl | rfl | rfl
        · exact (show Tryd.prog.wantsStandIn 22 = false by kernel_rfl)
        · exact (show Tryd.prog.wantsStandIn 22 = false by kernel_rfl)
        · exact (show Tryd.prog.wantsStandIn 22 = false by kernel_rfl)
        · exact (show Tryd.prog.wantsStandIn 25 = false by kernel_rfl)⟩)
    (by kernel_rfl)
#print axioms maniAgain_card
end Go.Proofs.YtnnlmackofopeaaDoor
