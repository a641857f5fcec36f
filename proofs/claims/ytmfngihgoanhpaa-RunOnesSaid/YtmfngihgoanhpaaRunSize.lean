/- A size out of a byte; runs in unlike sizes are unlike. -/
import Derived.Test.YtmfngihgoanhpaaRunShown
import Derived.Test.YtmfngihgoanhpaaRunRow
namespace Go.Proofs.Ytmfngihgoanhpaa.RunLib
open Go.RowKit Go.Proofs.Ytmfngihgoanhpaa.PRun Go.Proofs.YtmfngihgoanhpaaW.PrintWords Go.Proofs.YtmfngihgoanhpaaW.PrintLast Go.Proofs.YtmfngihgoanhpaaW.PrintMore Go.Proofs.Ytmfngihgoanhpaa.NumLib Go.Proofs.Ytmfngihgoanhpaa.FrameLib
set_option linter.unusedVariables false
set_option linter.unusedSimpArgs false

theorem size_of (a : Int) (h : (Lit.int .u8 a).wf = true) : ∃ n : Nat, 1 ≤ n ∧ n ≤ 255 ∧ wrap64 (1 + wrap64 (Int.tmod a 255)) = (n : Int) ∧ (n : Int) = 1 + a % 255 := by
  have hb := wf_byte h
  rw [Int.tmod_eq_emod_of_nonneg hb.1]
  refine ⟨(1 + a % 255).toNat, by omega, by omega, ?_, by omega⟩
  unfold wrap64
  omega
theorem encS_ok (l : List S44) (hm : mayS l = 0) (n : Nat) (h1 : 1 ≤ n) (h2 : n ≤ 255) : encS l (n : Int) = (encB l n, 0) := by
  have hn : ¬ ((n : Int) < 1 ∨ (n : Int) > 255) := by omega
  unfold encS
  rw [if_neg hn, if_pos hm, Int.toNat_natCast]
theorem encS_bad (l : List S44) (hm : mayS l ≠ 0) (n : Nat) (h1 : 1 ≤ n) (h2 : n ≤ 255) : encS l (n : Int) = ([], mayS l) := by
  have hn : ¬ ((n : Int) < 1 ∨ (n : Int) > 255) := by omega
  unfold encS
  rw [if_neg hn, if_neg hm]
theorem encB_bytes (l : List S44) (hm : mayS l = 0) (hl : l.length ≤ 100000) (n : Nat) (h1 : 1 ≤ n) (h2 : n ≤ 255) : Bytes (encB l n) := recs_bytes _ (encR_ok l (mayS_zero hm).1 hl n h2 h1)
theorem recs_inj {a b : List (List Int)} (ha : Okay a) (hb : Okay b) (h : recs a = recs b) : a = b := by
  have h1 := scan_recs a ha
  have h2 := scan_recs b hb
  rw [h] at h1
  rw [h1] at h2
  exact congrArg Prod.fst h2
theorem putn_inj {a b : Int} (ha : 0 ≤ a ∧ a < 18446744073709551616) (hb : 0 ≤ b ∧ b < 18446744073709551616) (h : putn a = putn b) : a = b := by
  have h1 := get_put a ha.1 ha.2 []
  have h2 := get_put b hb.1 hb.2 []
  rw [h, h2] at h1
  exact (congrArg Prod.fst h1).symm
theorem encB_size {l : List S44} (hm : mayS l = 0) (hl : l.length ≤ 100000) {n m : Nat} (h1 : 1 ≤ n) (h2 : n ≤ 255) (h3 : 1 ≤ m) (h4 : m ≤ 255) (h : encB l n = encB l m) : n = m := by
  have hr := recs_inj (encR_ok l (mayS_zero hm).1 hl n h2 h1) (encR_ok l (mayS_zero hm).1 hl m h4 h3) h
  unfold encR at hr
  rw [List.cons_append, List.cons_append] at hr
  have hp := (List.cons.inj hr).1
  have := putn_inj (by omega) (by omega) hp
  omega
theorem dec_nil (k : Nat) (hk : 500000 < k) : run_Decode.f k [] = some ([], 2) := by
  have hs : scanN 1 ([] : List Int) = ([], 0) := by rw [scanN, if_neg getR_nil]
  unfold run_Decode.f
  rw [scan_f [] (by intro x hx; simp at hx) (by simp) k (by simp; omega), Option.bind_some, show scanN (([] : List Int).length + 1) ([] : List Int) = ([], 0) from hs]
  rfl
end Go.Proofs.Ytmfngihgoanhpaa.RunLib
