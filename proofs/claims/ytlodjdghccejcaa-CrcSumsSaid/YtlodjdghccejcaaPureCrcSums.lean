/- Any bytes' sum (20000 at most), and more behind any sum, is the document's: for all bytes. -/
import Derived.Test.YtlodjdghccejcaaCrcRef
import Derived.Test.YtlodjdghccejcaaPCrcx
namespace Go.Proofs.Ytlodjdghccejcaa.Pure
open Go.RowKit Go.Proofs.Ytlodjdghccejcaa.PCrc Go.Proofs.Ytlodjdghccejcaa.CrcLib Go.Proofs.YtlodjdghccejcaaW.PrintWords Go.Proofs.YtlodjdghccejcaaW.PrintLast

theorem CrcSums : manteletlaw02_CrcSums.Pure := by
  intro l c _ hlen hl hc
  replace hl : Bytes l := fun x hx => wf_byte (hl x hx)
  replace hc := wf_u32 hc
  refine ⟨10 * l.length + 20, ?_⟩
  unfold manteletlaw02_CrcSums.f
  rw [shown_f, Option.bind_some]
  by_cases hlong : (l.length : Int) > 20000
  · rw [if_pos hlong]
  · rw [if_neg hlong, if_pos rfl, of_f l hl, Option.bind_some, ref_of l hl (by omega) _ (by omega), Option.bind_some, if_pos rfl, more_f c l hl, Option.bind_some, ref_more c l hc hl (by omega) _ (by omega), Option.bind_some]
    simp
end Go.Proofs.Ytlodjdghccejcaa.Pure
