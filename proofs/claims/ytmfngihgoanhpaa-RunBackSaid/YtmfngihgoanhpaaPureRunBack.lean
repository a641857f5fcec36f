/- What was encoded is decoded, in whatever size; what is decoded may be: for all entries and bytes. -/
import Derived.Test.YtmfngihgoanhpaaRunSize
import Derived.Test.YtmfngihgoanhpaaPRunx16
namespace Go.Proofs.Ytmfngihgoanhpaa.Pure
open Go.RowKit Go.Proofs.Ytmfngihgoanhpaa.PRun Go.Proofs.YtmfngihgoanhpaaW.PrintWords Go.Proofs.YtmfngihgoanhpaaW.PrintLast Go.Proofs.YtmfngihgoanhpaaW.PrintMore Go.Proofs.Ytmfngihgoanhpaa.NumLib Go.Proofs.Ytmfngihgoanhpaa.FrameLib Go.Proofs.Ytmfngihgoanhpaa.RunLib
set_option linter.unusedVariables false
set_option linter.unusedSimpArgs false

theorem back_j1 (l : List S44) (hl : l.length ≤ 200) (e : Int) (x : List S44) (f : Int) (k : Nat) (hk : 900000 < k) (h0 : mayS l = 0 → e = 0 ∧ x = l ∧ f = 0) (h1 : mayS l ≠ 0 → e = mayS l ∧ f = 2) : manteletlaw09_RunBack.j1 (k + 1) l true e x f false = some true := by
  rw [manteletlaw09_RunBack.j1, if_neg (show ¬ (false = true) by simp), RunLib.may_f k l (by omega) (by omega), Option.bind_some]
  by_cases hm : mayS l = 0
  · obtain ⟨rfl, rfl, rfl⟩ := h0 hm
    rw [if_pos hm, if_pos rfl, if_pos rfl, if_pos rfl, same_f x (by omega) k (by omega), Option.bind_some]
  · obtain ⟨rfl, rfl⟩ := h1 hm
    rw [if_neg hm, if_pos rfl, Option.bind_some, if_pos rfl]
    rfl
theorem back_j0 (l : List S44) (hl : l.length ≤ 200) (a : Int) (ha : (Lit.int .u8 a).wf = true) (b : List Int) (hb : Bytes b) (hbl : b.length ≤ 20000) (k : Nat) (hk : 900000 < k) : manteletlaw09_RunBack.j0 (k + 1 + 1) l a b true false = some true := by
  obtain ⟨n, h1, h2, e1, q1⟩ := size_of a ha
  obtain ⟨r, hr, hread⟩ := dec_total b hb (by omega) (k + 1) (by omega)
  have f1 := enc_f (k + 1) l (n : Int) (by omega) (by omega)
  -- the first run
  have hx : ∃ x f, run_Decode.f (k + 1) (encS l (n : Int)).1 = some (x, f) ∧ (mayS l = 0 → (encS l (n : Int)).2 = 0 ∧ x = l ∧ f = 0) ∧ (mayS l ≠ 0 → (encS l (n : Int)).2 = mayS l ∧ f = 2) := by
    by_cases hm : mayS l = 0
    · have hn := encB_len l (mayS_zero hm).1 (by omega) n h2 h1
      rw [encS_ok l hm n h1 h2]
      exact ⟨l, 0, dec_enc l hm (by omega) n h1 h2 (k + 1) (by omega), fun _ => ⟨rfl, rfl, rfl⟩, fun h => absurd hm h⟩
    · rw [encS_bad l hm n h1 h2]
      exact ⟨[], 2, dec_nil (k + 1) (by omega), fun h => absurd h hm, fun _ => ⟨rfl, rfl⟩⟩
  obtain ⟨x, f, hx1, hx2, hx3⟩ := hx
  have j1 := back_j1 l hl (encS l (n : Int)).2 x f k hk hx2 hx3
  rw [manteletlaw09_RunBack.j0, if_neg (show ¬ (false = true) by simp), e1, f1, Option.bind_some, hx1, Option.bind_some, hr, Option.bind_some]
  simp only
  rcases hread with rfl | ⟨y, size, rfl, s1, s2, hy, hyl, _⟩
  · rw [if_neg (show ¬ (2 : Int) = 0 by decide)]
    exact j1
  · rw [if_pos rfl, RunLib.may_f (k + 1) y (by omega) (by omega), Option.bind_some, if_pos hy]
    exact j1
theorem RunBack (l0 : List S44) (a1 : Int) (l2 : List Int) (w0 : l0.length ≤ maxLen ∧ ∀ x ∈ l0, x.f0.size ≤ maxLen ∧ (Lit.int .u64 x.f1).wf = true) (w1 : (Lit.int .u8 a1).wf = true) (w2 : l2.length ≤ maxLen ∧ ∀ x ∈ l2, (Lit.int .u8 x).wf = true) : ∃ k, manteletlaw09_RunBack.f k l0 a1 l2 = some true := by
  refine ⟨1000000 + 1 + 1, ?_⟩
  obtain ⟨b, hb, h2⟩ := few_f l0 (1000000 + 1 + 1) (by omega)
  have hsh := shown_f (1000000 + 1 + 1) (by omega)
  have hj : ∀ q, q = true → manteletlaw09_RunBack.j0 (1000000 + 1 + 1) l0 a1 l2 true q = some true := by
    intro q hq
    rw [hq, manteletlaw09_RunBack.j0, if_pos rfl]
  unfold manteletlaw09_RunBack.f
  rw [hsh, Option.bind_some, hb, Option.bind_some]
  cases b with
  | false => rw [if_neg (show ¬ (false = true) by simp)]; exact hj _ rfl
  | true =>
    have hl := h2 rfl
    rw [if_pos rfl]
    by_cases hm : (l2.length : Int) > 20000
    · exact hj _ (decide_eq_true hm)
    · have hd : decide ((l2.length : Int) > 20000) = false := by simpa using hm
      rw [hd]
      exact back_j0 l0 hl a1 w1 l2 (fun x hx => wf_byte (w2.2 x hx)) (by omega) 1000000 (by omega)
end Go.Proofs.Ytmfngihgoanhpaa.Pure
