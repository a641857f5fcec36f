/- Plain laws of runs, last: any bytes are read; what was encoded is read. -/
import Derived.Test.YtmfngihgoanhpaaRunDec
namespace Go.Proofs.Ytmfngihgoanhpaa.RunLib
open Go.RowKit Go.Proofs.Ytmfngihgoanhpaa.PRun Go.Proofs.YtmfngihgoanhpaaW.PrintWords Go.Proofs.YtmfngihgoanhpaaW.PrintLast Go.Proofs.YtmfngihgoanhpaaW.PrintMore Go.Proofs.Ytmfngihgoanhpaa.NumLib Go.Proofs.Ytmfngihgoanhpaa.FrameLib
set_option linter.unusedVariables false
set_option linter.unusedSimpArgs false

theorem dec_total (b : List Int) (hb : Bytes b) (hlen : b.length ≤ 90000) (k : Nat) (hk : b.length + 400000 < k) : ∃ r, run_Decode.f k b = some r ∧ Read b r := by
  have hsl := scanN_len (b.length + 1) b hb
  have hsr := scanN_rows (b.length + 1) b hb
  unfold run_Decode.f
  rw [scan_f b hb (by omega) k (by omega), Option.bind_some]
  simp only
  generalize (scanN (b.length + 1) b).1 = R at hsl hsr ⊢
  by_cases h2 : (R.length : Int) < 2
  · rw [if_pos h2]; exact ⟨_, rfl, .inl rfl⟩
  rw [if_neg h2, if_pos (by omega)]
  have h0 : 0 < R.length := by omega
  have hR0 : Bytes R[0] := hsr.1 _ (List.getElem_mem h0)
  have e0 : rd_L4 R 0 = R[0] := rdL_eq R 0 h0
  rw [e0, NumLib.get_f _ hR0, Option.bind_some]
  rcases hg : get R[0] with ⟨n1, n2, n3⟩
  simp only
  have j0 : ∀ q, ∃ r, run_Decode.j0 k b R n1 q = some r ∧ Read b r := by
    intro q
    obtain ⟨k, rfl⟩ : ∃ m, k = m + 1 := ⟨k - 1, by omega⟩
    rw [run_Decode.j0]
    cases q with
    | true => rw [if_pos rfl]; exact ⟨_, rfl, .inl rfl⟩
    | false =>
      have hw : wrap64 ((R.length : Int) - 1) = ((R.length - 1 : Nat) : Int) := by unfold wrap64; omega
      rw [if_neg (by simp), hw, if_pos (by omega), if_pos (by omega), Option.bind_some, Int.toNat_natCast]
      have hsub : ∀ p ∈ (R.take (R.length - 1)).drop 1, p ∈ R := fun p hp => List.mem_of_mem_take (List.mem_of_mem_drop hp)
      have hsum : sumLen (((R.take (R.length - 1)).drop 1).drop 0) ≤ sumLen R := by
        rw [List.drop_zero]
        exact sumLen_sub ((List.drop_sublist _ _).trans (List.take_sublist _ _))
      have hyl : ((R.take (R.length - 1)).drop 1).length ≤ 1000000 := by rw [List.length_drop, List.length_take]; omega
      have hyb : ((R.take (R.length - 1)).drop 1).length ≤ b.length := by rw [List.length_drop, List.length_take]; omega
      obtain ⟨r, hr, h3⟩ := dec_l0_total b hb n1 _ (fun p hp => hsr.1 p (hsub p hp)) hyl ((R.take (R.length - 1)).drop 1).length k 0 [] (by omega) (by omega) (by rw [List.length_nil]; omega) (by omega)
      refine ⟨r, hr, ?_⟩
      rcases h3 with h3 | ⟨x, hx, h3⟩
      · exact .inl h3
      · rw [h3]; exact read_end hx
  by_cases h3 : n3 = 0
  · rw [if_pos h3]; exact j0 _
  · rw [if_neg h3]; exact j0 _
end Go.Proofs.Ytmfngihgoanhpaa.RunLib
