/- A pass makes as many runs as its fan goes into how many there are, the rest one more; with a greater fan there are no more passes: for all numbers. -/
import Derived.Test.YtlndbodbhbcgcaaPassLib
namespace Go.Proofs.Ytlndbodbhbcgcaa.Pure
open Go.RowKit Go.Proofs.Ytlndbodbhbcgcaa.PPasses Go.Proofs.YtlndbodbhbcgcaaW.PrintWords Go.Proofs.YtlndbodbhbcgcaaW.PrintLast

theorem u16_range {x : Int} (h : (Lit.int .u16 x).wf = true) : 0 ≤ x ∧ x ≤ 65535 := by simp [Lit.wf, IntKind.min, IntKind.max, IntKind.bits, IntKind.signed] at h; omega
theorem u8_range {x : Int} (h : (Lit.int .u8 x).wf = true) : 0 ≤ x ∧ x ≤ 255 := by simp [Lit.wf, IntKind.min, IntKind.max, IntKind.bits, IntKind.signed] at h; omega
theorem many_j0 (n fan want : Int) (h1 : 1 ≤ n) (h2 : n ≤ 65536) (h3 : 2 ≤ fan) (h4 : fan ≤ 7) (hw : passes_Passes.g n fan = want) (k : Nat) (hk : 65600 < k) : manteletlaw12_PassesMany.j0 k true n fan want = some true := by
  obtain ⟨k, rfl⟩ : ∃ m, k = m + 1 := ⟨k - 1, by omega⟩
  have hf : wrap64 (fan + 1) = fan + 1 := by unfold wrap64; omega
  obtain ⟨p, ep, hp1, hp2, hp3⟩ := PassLib.go_spec 65537 n fan 0 h1 h2 h3 (by omega) (by omega)
  obtain ⟨q, eq, hq1, hq2, hq3⟩ := PassLib.go_spec 65537 n (fan + 1) 0 h1 h2 (by omega) (by omega) (by omega)
  have hqp : q ≤ p := by
    rcases hq2 with rfl | hq2
    · omega
    · apply Classical.byContradiction
      intro hn
      have a1 : fan ^ p ≤ (fan + 1) ^ p := PassLib.pow_mono fan (fan + 1) (by omega) (by omega) p
      have a2 : (fan + 1) ^ p ≤ (fan + 1) ^ (q - 1) := by
        obtain ⟨f, hf⟩ := Int.eq_ofNat_of_zero_le (show 0 ≤ fan + 1 by omega)
        rw [hf]
        have := Nat.pow_le_pow_right (n := f) (by omega) (show p ≤ q - 1 by omega)
        exact_mod_cast this
      omega
  rw [manteletlaw12_PassesMany.j0, if_pos rfl, passes_Passes.groups k (by omega), Option.bind_some, if_pos ((passes_Passes.g_len n fan).trans hw), hf, PassLib.passes_f, Option.bind_some, PassLib.passes_f, Option.bind_some, ep, eq, if_pos (by omega), Option.bind_some]
  congr 1
  rw [beq_iff_eq, Bool.eq_iff_iff, beq_iff_eq, beq_iff_eq]
  omega
theorem PassesMany : manteletlaw12_PassesMany.Pure := by
  intro a b ha hb
  replace ha := u16_range ha
  replace hb := u8_range hb
  have e1 : wrap64 (1 + wrap64 a) = 1 + a := by unfold wrap64; omega
  have e2 : wrap64 (2 + wrap64 (Int.tmod b 6)) = 2 + b % 6 := by rw [Int.tmod_eq_emod_of_nonneg hb.1]; unfold wrap64; omega
  refine ⟨70000, ?_⟩
  unfold manteletlaw12_PassesMany.f
  rw [PassLib.shown_f 70000 (by decide), Option.bind_some, e1, e2, if_neg (by omega), Int.tmod_eq_emod_of_nonneg (by omega), Int.tdiv_eq_ediv_of_nonneg (by omega)]
  have hf : ∃ fan, fan = 2 + b % 6 := ⟨_, rfl⟩
  obtain ⟨fan, hf⟩ := hf
  rw [← hf]
  have h3 : 2 ≤ fan ∧ fan ≤ 7 := by omega
  have e : passes_Passes.g (1 + a) fan = (1 + a + fan - 1) / fan := by unfold passes_Passes.g; rw [if_neg (by omega)]
  have hd : (1 + a) / fan * fan + (1 + a) % fan = 1 + a := Int.ediv_mul_add_emod _ _
  have hlt := Int.emod_lt_of_pos (1 + a) (show 0 < fan by omega)
  have hge := Int.emod_nonneg (1 + a) (show fan ≠ 0 by omega)
  have hq : 0 ≤ (1 + a) / fan ∧ (1 + a) / fan ≤ 1 + a := by
    have h0 : 0 ≤ (1 + a) / fan := Int.ediv_nonneg (by omega) (by omega)
    have h1 : (1 + a) / fan * 1 ≤ (1 + a) / fan * fan := Int.mul_le_mul_of_nonneg_left (by omega) h0
    omega
  have hw1 : wrap64 ((1 + a) / fan) = (1 + a) / fan := by
    generalize (1 + a) / fan = q at *
    clear e hd
    unfold wrap64
    omega
  have hw2 : wrap64 ((1 + a) / fan + 1) = (1 + a) / fan + 1 := by
    generalize (1 + a) / fan = q at *
    clear e hd hw1
    unfold wrap64
    omega
  rw [hw1, hw2]
  by_cases h0 : (1 + a) % fan > 0
  · rw [if_pos h0]
    refine many_j0 _ fan _ (by omega) (by omega) h3.1 h3.2 ?_ 70000 (by decide)
    rw [e]
    have : 1 + a + fan - 1 = ((1 + a) % fan - 1) + ((1 + a) / fan + 1) * fan := by
      rw [Int.add_mul]
      omega
    rw [this, Int.add_mul_ediv_right _ _ (by omega), Int.ediv_eq_zero_of_lt (by omega) (by omega), Int.zero_add]
  · rw [if_neg h0]
    refine many_j0 _ fan _ (by omega) (by omega) h3.1 h3.2 ?_ 70000 (by decide)
    rw [e]
    have : 1 + a + fan - 1 = (fan - 1) + (1 + a) / fan * fan := by omega
    rw [this, Int.add_mul_ediv_right _ _ (by omega), Int.ediv_eq_zero_of_lt (by omega) (by omega), Int.zero_add]
end Go.Proofs.Ytlndbodbhbcgcaa.Pure
