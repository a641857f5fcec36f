/- Any record put behind any bytes, any bytes' record, and all of any bytes (20000 at most) are the document's, or refused: for all bytes. -/
import Derived.Test.YtlodjdghccejcaaFrameScan
namespace Go.Proofs.Ytlodjdghccejcaa.Pure
open Go.RowKit Go.Proofs.Ytlodjdghccejcaa.PFrame Go.Proofs.YtlodjdghccejcaaW.PrintWords Go.Proofs.YtlodjdghccejcaaW.PrintLast Go.Proofs.Ytlodjdghccejcaa.NumLib Go.Proofs.Ytlodjdghccejcaa.FrameLib

theorem tells_j0 (b p : List Int) (hb : NumLib.Bytes b) (hp : NumLib.Bytes p) (h1 : b.length ≤ 20000) (h2 : p.length ≤ 20000) (k : Nat) (hk : 600000 < k) : manteletlaw03_FrameTells.j0 (k + 1) b p true false = some true := by
  have hs := scanN_len (b.length + 1) b hb
  rw [manteletlaw03_FrameTells.j0, if_neg (by decide), FrameLib.put_f k (by omega) b p hp (by omega) (by omega), Option.bind_some, FrameLib.ref_put_f k b p hp (by omega) h2 (by omega), Option.bind_some, FrameLib.get_f k (by omega) b hb (by omega), Option.bind_some, FrameLib.ref_get_f k b hb h1 (by omega), Option.bind_some, scan_f b hb (by omega) k (by omega), Option.bind_some, ref_scan_f b hb h1 k (by omega), Option.bind_some, if_pos rfl, if_pos rfl, if_pos rfl, if_pos rfl, if_pos rfl, if_pos rfl, lists_f _ (show (scanN (b.length + 1) b).1.length ≤ 1000000000 by omega) k (show (scanN (b.length + 1) b).1.length < k by omega), Option.bind_some, if_pos rfl]
  simp
theorem FrameTells : manteletlaw03_FrameTells.Pure := by
  intro b p _ _ hb _ _ hp
  replace hb : NumLib.Bytes b := fun x hx => NumLib.wf_byte (hb x hx)
  replace hp : NumLib.Bytes p := fun x hx => NumLib.wf_byte (hp x hx)
  refine ⟨700000 + 1, ?_⟩
  unfold manteletlaw03_FrameTells.f
  rw [show manteletlaw03_shown.f = some true from rfl, Option.bind_some]
  by_cases h1 : (b.length : Int) > 20000
  · rw [if_pos h1, manteletlaw03_FrameTells.j0, if_pos rfl]
  · rw [if_neg h1]
    by_cases h2 : (p.length : Int) > 20000
    · rw [decide_eq_true h2, manteletlaw03_FrameTells.j0, if_pos rfl]
    · rw [decide_eq_false h2]
      exact tells_j0 b p hb hp (by omega) (by omega) 700000 (by decide)
end Go.Proofs.Ytlodjdghccejcaa.Pure
