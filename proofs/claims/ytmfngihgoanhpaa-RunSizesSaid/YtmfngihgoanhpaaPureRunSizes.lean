/- In whatever size blocks are the same entries are decoded; runs in unlike sizes are unlike: for all entries. -/
import Derived.Test.YtmfngihgoanhpaaRunSize
import Derived.Test.YtmfngihgoanhpaaPRunx14
namespace Go.Proofs.Ytmfngihgoanhpaa.Pure
open Go.RowKit Go.Proofs.Ytmfngihgoanhpaa.PRun Go.Proofs.YtmfngihgoanhpaaW.PrintWords Go.Proofs.YtmfngihgoanhpaaW.PrintLast Go.Proofs.YtmfngihgoanhpaaW.PrintMore Go.Proofs.Ytmfngihgoanhpaa.NumLib Go.Proofs.Ytmfngihgoanhpaa.FrameLib Go.Proofs.Ytmfngihgoanhpaa.RunLib
set_option linter.unusedVariables false
set_option linter.unusedSimpArgs false

theorem sizes_j0 (l : List S44) (hm : mayS l = 0) (hl : l.length ≤ 200) (a b : Int) (ha : (Lit.int .u8 a).wf = true) (hb : (Lit.int .u8 b).wf = true) (k : Nat) (hk : 900000 < k) : manteletlaw09_RunSizes.j0 (k + 1) l a b true false = some true := by
  obtain ⟨n, h1, h2, e1, q1⟩ := size_of a ha
  obtain ⟨m, h3, h4, e2, q2⟩ := size_of b hb
  have hf := (mayS_zero hm).1
  have hn := encB_len l hf (by omega) n h2 h1
  have hmm := encB_len l hf (by omega) m h4 h3
  have d1 := dec_enc l hm (by omega) n h1 h2 k (by omega)
  have d2 := dec_enc l hm (by omega) m h3 h4 k (by omega)
  have b1 := encB_bytes l hm (by omega) n h1 h2
  have b2 := encB_bytes l hm (by omega) m h3 h4
  have hs := same_f l (by omega) k (by omega)
  have hiff := str_inj b1 b2
  have henc := fun h => encB_size hm (by omega) h1 h2 h3 h4 h (l := l)
  have f1 := enc_f k l (n : Int) (by omega) (by omega)
  have f2 := enc_f k l (m : Int) (by omega) (by omega)
  rw [encS_ok l hm n h1 h2] at f1
  rw [encS_ok l hm m h3 h4] at f2
  rw [manteletlaw09_RunSizes.j0, if_neg (show ¬ (false = true) by simp), e1, e2, f1, Option.bind_some, f2, Option.bind_some]
  simp only
  rw [d1, Option.bind_some, d2, Option.bind_some]
  simp only
  rw [if_pos trivial, if_pos trivial, if_pos trivial, if_pos trivial, if_pos trivial, hs, Option.bind_some, if_pos rfl]
  congr 1
  by_cases h : encB l n = encB l m
  · have hnm := henc h
    subst hnm
    simp
  · have hne : n ≠ m := fun e => h (by rw [e])
    have hne2 : ¬ (n : Int) = (m : Int) := by omega
    rw [beq_eq_false_iff_ne.2 (fun e => h (hiff.1 e)), beq_eq_false_iff_ne.2 hne2]
    rfl
theorem RunSizes (l0 : List S44) (a1 : Int) (a2 : Int) (w0 : l0.length ≤ maxLen ∧ ∀ x ∈ l0, x.f0.size ≤ maxLen ∧ (Lit.int .u64 x.f1).wf = true) (w1 : (Lit.int .u8 a1).wf = true) (w2 : (Lit.int .u8 a2).wf = true) : ∃ k, manteletlaw09_RunSizes.f k l0 a1 a2 = some true := by
  refine ⟨1000000 + 1, ?_⟩
  obtain ⟨b, hb, h2⟩ := few_f l0 (1000000 + 1) (by omega)
  have hsh := shown_f (1000000 + 1) (by omega)
  have hj : ∀ q, q = true → manteletlaw09_RunSizes.j0 (1000000 + 1) l0 a1 a2 true q = some true := by
    intro q hq
    rw [hq, manteletlaw09_RunSizes.j0, if_pos rfl]
  unfold manteletlaw09_RunSizes.f
  rw [hsh, Option.bind_some, hb, Option.bind_some]
  cases b with
  | false => rw [if_neg (show ¬ (false = true) by simp)]; exact hj _ rfl
  | true =>
    have hl := h2 rfl
    rw [if_pos rfl, RunLib.may_f (1000000 + 1) l0 (by omega) (by omega), Option.bind_some]
    by_cases hm : mayS l0 = 0
    · rw [hm]
      exact sizes_j0 l0 hm hl a1 a2 w1 w2 1000000 (by omega)
    · exact hj _ (bne_iff_ne.2 hm)
end Go.Proofs.Ytmfngihgoanhpaa.Pure
