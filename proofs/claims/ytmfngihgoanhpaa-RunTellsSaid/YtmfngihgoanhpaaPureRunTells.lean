/- The program's run and the reference's say the same: for all entries, sizes and bytes. -/
import Derived.Test.YtmfngihgoanhpaaRunSize
import Derived.Test.YtmfngihgoanhpaaRunRef
import Derived.Test.YtmfngihgoanhpaaPRunx12
namespace Go.Proofs.Ytmfngihgoanhpaa.Pure
open Go.RowKit Go.Proofs.Ytmfngihgoanhpaa.PRun Go.Proofs.YtmfngihgoanhpaaW.PrintWords Go.Proofs.YtmfngihgoanhpaaW.PrintLast Go.Proofs.YtmfngihgoanhpaaW.PrintMore Go.Proofs.Ytmfngihgoanhpaa.NumLib Go.Proofs.Ytmfngihgoanhpaa.FrameLib Go.Proofs.Ytmfngihgoanhpaa.RunLib
set_option linter.unusedVariables false
set_option linter.unusedSimpArgs false

theorem read_same (b : List Int) (hb : Bytes b) (hl : b.length ≤ 20000) (k : Nat) (hk : 300 * b.length + 2000000 < k) : ∃ r, run_Decode.f k b = some r ∧ manteletref09_Decode.f k b = some r ∧ r.1.length ≤ 20000 := by
  obtain ⟨r1, e1, h1⟩ := dec_total b hb (by omega) k (by omega)
  obtain ⟨r2, e2, h2⟩ := ref_dec_total b hb (by omega) k (by omega)
  rcases h1 with rfl | ⟨x, n, rfl, n1, n2, hm, hx, he⟩
  · rcases h2 with rfl | ⟨x, n, rfl, n1, n2, hm, hx, he⟩
    · exact ⟨_, e1, e2, Nat.zero_le _⟩
    · have := dec_enc x hm (by omega) n n1 n2 k (by rw [he]; omega)
      rw [he] at this
      exact ⟨_, this, e2, by simp only; omega⟩
  · have := ref_dec_enc x hm (by omega) n n1 n2 (by rw [he]; omega) k (by omega)
    rw [he] at this
    exact ⟨_, e1, this, by simp only; omega⟩
theorem tells_j0 (l : List S44) (hl : l.length ≤ 200) (a : Int) (b : List Int) (hb : Bytes b) (hbl : b.length ≤ 20000) (k : Nat) (hk : 300 * b.length + 2000000 < k) : manteletlaw09_RunTells.j0 (k + 1) l a b true false = some true := by
  obtain ⟨r, e1, e2, hr⟩ := read_same b hb hbl k hk
  have f1 := enc_f k l a (by omega) (by omega)
  have f2 := ref_enc_f k l a (by omega) (by omega)
  have f3 := RunLib.may_f k l (by omega) (by omega)
  have f4 := ref_may_f k l (by omega) (by omega)
  have f5 := same_f r.1 (by omega) k (by omega)
  rw [manteletlaw09_RunTells.j0, if_neg (show ¬ (false = true) by simp), f1, Option.bind_some, f2, Option.bind_some, e1, Option.bind_some, e2, Option.bind_some, if_pos rfl, if_pos rfl, if_pos rfl, f3, Option.bind_some, f4, Option.bind_some, if_pos rfl, f5, Option.bind_some, if_pos rfl, beq_self_eq_true]
theorem RunTells (l0 : List S44) (a1 : Int) (l2 : List Int) (w0 : l0.length ≤ maxLen ∧ ∀ x ∈ l0, x.f0.size ≤ maxLen ∧ (Lit.int .u64 x.f1).wf = true) (w1 : (Lit.int .i64 a1).wf = true) (w2 : l2.length ≤ maxLen ∧ ∀ x ∈ l2, (Lit.int .u8 x).wf = true) : ∃ k, manteletlaw09_RunTells.f k l0 a1 l2 = some true := by
  obtain ⟨k, hk⟩ : ∃ k : Nat, 300 * l2.length + 2000000 < k := ⟨_, Nat.lt_succ_self _⟩
  refine ⟨k + 1, ?_⟩
  obtain ⟨b, hb, h2⟩ := few_f l0 (k + 1) (by omega)
  have hsh := shown_f (k + 1) (by omega)
  have hj : ∀ q, q = true → manteletlaw09_RunTells.j0 (k + 1) l0 a1 l2 true q = some true := by
    intro q hq
    rw [hq, manteletlaw09_RunTells.j0, if_pos rfl]
  unfold manteletlaw09_RunTells.f
  rw [hsh, Option.bind_some, hb, Option.bind_some]
  cases b with
  | false => rw [if_neg (show ¬ (false = true) by simp)]; exact hj _ rfl
  | true =>
    have hl := h2 rfl
    rw [if_pos rfl]
    by_cases hm : (l2.length : Int) > 20000
    · exact hj _ (decide_eq_true hm)
    · have hd : decide ((l2.length : Int) > 20000) = false := by simpa using hm
      rw [hd]
      exact tells_j0 l0 hl a1 l2 (fun x hx => wf_byte (w2.2 x hx)) (by omega) k hk
end Go.Proofs.Ytmfngihgoanhpaa.Pure
