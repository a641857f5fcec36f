/- Any lists merged are the document's, or refused: for all lists. -/
import Derived.Test.YtlngljddjlmkfaaRefMerge
import Derived.Test.YtlngljddjlmkfaaLoserRow
import Derived.Test.YtlngljddjlmkfaaPLoserx7
namespace Go.Proofs.Ytlngljddjlmkfaa.Pure
open Go.RowKit Go.Proofs.Ytlngljddjlmkfaa.PLoser Go.Proofs.YtlngljddjlmkfaaW.PrintWords Go.Proofs.YtlngljddjlmkfaaW.PrintLast Go.Proofs.YtlngljddjlmkfaaW.PrintMore Go.Proofs.Ytlngljddjlmkfaa.LoserLib
set_option linter.unusedVariables false
set_option linter.unusedSimpArgs false

theorem LoserMerges (l0 : List (List E1)) (w0 : l0.length ≤ maxLen ∧ ∀ x ∈ l0, x.length ≤ maxLen ∧ ∀ y ∈ x, y.f0.size ≤ maxLen ∧ (Lit.int .u64 y.f1).wf = true) : ∃ k, manteletlaw11_LoserMerges.f k l0 = some true := by
  refine ⟨800000, ?_⟩
  obtain ⟨b, hb, h2⟩ := few_f l0 800000 (by omega)
  unfold manteletlaw11_LoserMerges.f
  rw [shown_f 800000 (by omega) (by omega), Option.bind_some, hb, Option.bind_some]
  cases b with
  | false => rw [if_neg (by simp)]
  | true =>
    have hf := h2 rfl
    have hfl := few_flat hf
    obtain ⟨r, r1, r2, r3⟩ := merge_f 800000 l0 (by have := hf.1; omega) (fun l hl => by have := hf.2 l hl; omega) (by omega) (by omega) (by omega)
    obtain ⟨s, s1, s2, s3⟩ := refmerge_f 800000 l0 (by have := hf.1; omega) (fun l hl => by have := hf.2 l hl; omega) (by omega) (by omega)
    have e : r = s ∧ r.1.length < 700000 := by
      by_cases hbad : badS l0 = 0
      · refine ⟨res_same (r2 hbad) (s2 hbad) (fun _ => rfl), ?_⟩
        rcases r2 hbad with ⟨_, q1, q2, q3⟩ | ⟨q, _⟩
        · exact ris_len q1 q2 q3 (by omega)
        · rw [q]; simp
      · rw [r3 hbad, s3 hbad]
        exact ⟨rfl, by simp⟩
    obtain ⟨e, hlen⟩ := e
    rw [if_pos rfl, r1, Option.bind_some, s1, Option.bind_some, if_pos rfl, ← e, same_f r.1 (by omega) 800000 (by omega), Option.bind_some, if_pos rfl, beq_self_eq_true]
end Go.Proofs.Ytlngljddjlmkfaa.Pure
