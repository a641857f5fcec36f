/- Sums of counts don't run over, come out alike in either order, and three of them in either way; for all numbers of 64 bits. -/
import Derived.Test.YtlndbodbhbcgcaaNumLib
import Derived.Test.YtlndbodbhbcgcaaPNumx
namespace Go.Proofs.Ytlndbodbhbcgcaa.Pure
open Go.RowKit Go.Proofs.Ytlndbodbhbcgcaa.PNum Go.Proofs.YtlndbodbhbcgcaaW.PrintWords Go.Proofs.YtlndbodbhbcgcaaW.PrintLast

theorem add_f (a b : Int) (ha : 0 ≤ a ∧ a < 18446744073709551616) (hb : 0 ≤ b ∧ b < 18446744073709551616) : num_Add.f a b = some (if a + b ≤ 4611686018427387904 then (a + b, true) else (0, false)) := by
  have hw : ∀ n : Int, IntKind.u64.wrap n = n % 18446744073709551616 := fun n => by simp [IntKind.wrap, IntKind.bits, IntKind.signed]
  unfold num_Add.f
  rw [hw, hw]
  by_cases h1 : a > 4611686018427387904
  · rw [if_pos h1, if_neg (by omega)]
  · rw [if_neg h1]
    by_cases h2 : a + b ≤ 4611686018427387904
    · rw [if_neg (by omega), if_pos h2]
      congr 2
      omega
    · rw [if_pos (by omega), if_neg h2]
theorem shown_f (k : Nat) (hk : 9 < k) : manteletlaw01_shown.f k = some true := by
  unfold manteletlaw01_shown.f
  rw [NumLib.get_f _ (by unfold NumLib.Bytes; decide), Option.bind_some, NumLib.put_f k 300 [] hk (by decide) (by decide) (by decide), Option.bind_some]
  have e : ([] : List Int) ++ NumLib.putn 300 = [172, 2] := by decide
  have e2 : (NumLib.get [128, 0]).2.2 = 2 := by decide
  rw [e, e2, if_pos rfl]
  rfl
theorem NumSums : manteletlaw01_NumSums.Pure := by
  intro a b c ha hb hc
  replace ha := NumLib.wf_u64 ha
  replace hb := NumLib.wf_u64 hb
  replace hc := NumLib.wf_u64 hc
  refine ⟨10, ?_⟩
  have h2 : num_Add.f b a = some (if a + b ≤ 4611686018427387904 then (a + b, true) else (0, false)) := by rw [add_f b a hb ha, Int.add_comm b a]
  unfold manteletlaw01_NumSums.f
  rw [shown_f 10 (by decide), Option.bind_some, add_f a b ha hb, Option.bind_some, h2, Option.bind_some]
  clear h2
  by_cases h1 : a + b ≤ 4611686018427387904
  · rw [if_pos h1]
    simp only
    rw [add_f (a + b) c (by omega) hc, Option.bind_some, add_f b c hb hc, Option.bind_some]
    by_cases h2 : b + c ≤ 4611686018427387904
    · rw [if_pos h2]
      simp only
      rw [add_f a (b + c) ha (by omega), Option.bind_some, Int.add_assoc]
      simp [show ¬ a + b < a by omega, show ¬ a + b < b by omega, show ¬ 4611686018427387904 < a + b by omega]
    · rw [if_neg h2]
      simp only
      rw [add_f a 0 ha (by omega), Option.bind_some]
      simp [show ¬ a + b < a by omega, show ¬ a + b < b by omega, show ¬ 4611686018427387904 < a + b by omega]
  · rw [if_neg h1]
    simp only
    rw [add_f 0 c (by omega) hc, Option.bind_some, add_f b c hb hc, Option.bind_some]
    have hq : ∃ q, num_Add.f a (if b + c ≤ 4611686018427387904 then (b + c, true) else (0, false)).1 = some q := by
      by_cases h2 : b + c ≤ 4611686018427387904
      · rw [if_pos h2]
        exact ⟨_, add_f a (b + c) ha (by omega)⟩
      · rw [if_neg h2]
        exact ⟨_, add_f a 0 ha (by omega)⟩
    obtain ⟨q, hq⟩ := hq
    rw [hq, Option.bind_some]
    simp
end Go.Proofs.Ytlndbodbhbcgcaa.Pure
