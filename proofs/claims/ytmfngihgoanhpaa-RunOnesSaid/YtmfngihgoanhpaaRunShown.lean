/- The example at the head of the statements on runs holds. -/
import Derived.Test.YtmfngihgoanhpaaRunDecE
import Derived.Test.YtmfngihgoanhpaaPRunx7
namespace Go.Proofs.Ytmfngihgoanhpaa.RunLib
open Go.RowKit Go.Proofs.Ytmfngihgoanhpaa.PRun Go.Proofs.YtmfngihgoanhpaaW.PrintWords Go.Proofs.YtmfngihgoanhpaaW.PrintLast Go.Proofs.YtmfngihgoanhpaaW.PrintMore Go.Proofs.Ytmfngihgoanhpaa.NumLib Go.Proofs.Ytmfngihgoanhpaa.FrameLib
set_option linter.unusedVariables false
set_option linter.unusedSimpArgs false

def exL : List S44 := [(⟨(⟨#[97]⟩ : ByteArray), 1⟩ : S44), (⟨(⟨#[97, 98]⟩ : ByteArray), 2⟩ : S44)]
theorem exL_may : mayS exL = 0 := by decide +kernel
theorem exL_block : (chunks 2 exL.length exL).map blockB = [blockB exL] := by
  rw [show exL.length = 2 from rfl]
  rfl
theorem exL_len : (encB exL 2).length = 27 := by
  have h1 : (blockB exL).length = 9 := by decide +kernel
  have h2 : (putn (2 : Int)).length = 1 := by decide +kernel
  have h3 : (putn (9 : Int)).length = 1 := by decide +kernel
  have h4 : (putn (1 : Int)).length = 1 := by decide +kernel
  have h5 : (putn 0 ++ putn (2 : Int)).length = 2 := by decide +kernel
  unfold encB encR
  rw [exL_block, show exL.length = 2 from rfl]
  rw [recs_append, List.length_append, recs, List.length_append, recs, recs, List.append_nil, recs, recs, List.append_nil, rec_len, rec_len, rec_len, h1]
  rw [show ((2 : Nat) : Int) = 2 from rfl, h5, h2]
  rw [show ((9 : Nat) : Int) = 9 from rfl, show ((1 : Nat) : Int) = 1 from rfl, show ((2 : Nat) : Int) = 2 from rfl, h3, h4, h2]
theorem shown_f (k : Nat) (hk : 500000 < k) : manteletlaw09_shown.f k = some true := by
  unfold manteletlaw09_shown.f
  rw [show ([(⟨(⟨#[97]⟩ : ByteArray), 1⟩ : S44), (⟨(⟨#[97, 98]⟩ : ByteArray), 2⟩ : S44)] : List S44) = exL from rfl]
  have hlen : exL.length = 2 := rfl
  have he : encS exL 2 = (encB exL 2, 0) := by
    unfold encS
    rw [if_neg (by decide), if_pos exL_may]
    rfl
  rw [Option.bind_some, enc_f k exL 2 (by omega) (by omega), he, Option.bind_some]
  have hd := dec_enc exL exL_may (by omega) 2 (by omega) (by omega) k (by rw [exL_len]; omega)
  simp only
  rw [hd, Option.bind_some]
  simp only
  rw [if_pos trivial, if_pos trivial, same_f exL (by omega) k (by omega), Option.bind_some, if_pos rfl, exL_len]
  rfl
end Go.Proofs.Ytmfngihgoanhpaa.RunLib
