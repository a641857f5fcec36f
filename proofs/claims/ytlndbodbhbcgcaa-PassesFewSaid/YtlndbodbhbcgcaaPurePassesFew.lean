/- Groups are of at most the fan's many runs, one behind the other, all but the last one of just so many; passes are as few as can be: for all numbers. -/
import Derived.Test.YtlndbodbhbcgcaaPassLib
namespace Go.Proofs.Ytlndbodbhbcgcaa.Pure
open Go.RowKit Go.Proofs.Ytlndbodbhbcgcaa.PPasses Go.Proofs.YtlndbodbhbcgcaaW.PrintWords Go.Proofs.YtlndbodbhbcgcaaW.PrintLast

theorem u16_range {x : Int} (h : (Lit.int .u16 x).wf = true) : 0 ≤ x ∧ x ≤ 65535 := by simp [Lit.wf, IntKind.min, IntKind.max, IntKind.bits, IntKind.signed] at h; omega
theorem u8_range {x : Int} (h : (Lit.int .u8 x).wf = true) : 0 ≤ x ∧ x ≤ 255 := by simp [Lit.wf, IntKind.min, IntKind.max, IntKind.bits, IntKind.signed] at h; omega
theorem pow_small (fan : Int) (h3 : 2 ≤ fan) (h4 : fan ≤ 8) : ∀ p : Nat, p ≤ 17 → 1 ≤ fan ^ p ∧ fan ^ p ≤ 8 ^ p ∧ (8 : Int) ^ p ≤ 2251799813685248
  | p, hp => by
    have h1 : (1 : Int) ^ p ≤ fan ^ p := PassLib.pow_mono 1 fan (by decide) (by omega) p
    rw [Int.one_pow] at h1
    have h2 : (8 : Int) ^ p ≤ 8 ^ 17 := by
      have := Nat.pow_le_pow_right (n := 8) (by decide) hp
      exact_mod_cast this
    exact ⟨h1, PassLib.pow_mono fan 8 (by omega) h4 p, Int.le_trans h2 (by decide)⟩
theorem pow_wrap (fan : Int) (h3 : 2 ≤ fan) (h4 : fan ≤ 8) (i : Nat) (hi : i + 1 ≤ 17) : wrap64 (fan ^ i * fan) = fan ^ (i + 1) := by
  obtain ⟨a1, a2, a3⟩ := pow_small fan h3 h4 (i + 1) hi
  have a4 : fan ^ (i + 1) ≤ 2251799813685248 := Int.le_trans a2 a3
  clear a2 a3
  rw [← Int.pow_succ]
  generalize fan ^ (i + 1) = v at *
  unfold wrap64
  omega
/-- The second loop: d passes are still to be counted. -/
theorem few_l1 (n fan : Int) (p : Nat) (h3 : 2 ≤ fan) (h4 : fan ≤ 8) (hp : p ≤ 17) (h1 : n ≤ fan ^ p) (h2 : p = 0 ∨ fan ^ (p - 1) < n) (d : Nat) : ∀ (k i : Nat), d < k → i + d = p →
    manteletlaw12_PassesFew.l1 k true n fan n p (fan ^ i) (if i = 0 then 1 else fan ^ (i - 1)) i = some true := by
  induction d with
  | zero =>
    intro k i hk hi
    obtain ⟨k, rfl⟩ : ∃ m, k = m + 1 := ⟨k - 1, by omega⟩
    obtain rfl : i = p := by omega
    rw [manteletlaw12_PassesFew.l1, if_neg (by omega), if_pos rfl, if_pos rfl, if_pos h1]
    by_cases h0 : i = 0
    · rw [if_pos (by omega)]
    · rw [if_neg (by omega), if_neg h0]
      rcases h2 with h2 | h2
      · exact absurd h2 h0
      · rw [decide_eq_true h2]
  | succ d ih =>
    intro k i hk hi
    obtain ⟨k, rfl⟩ : ∃ m, k = m + 1 := ⟨k - 1, by omega⟩
    have hw := pow_wrap fan h3 h4 i (by omega)
    have hwi : wrap64 ((i : Int) + 1) = ((i + 1 : Nat) : Int) := by clear h1 h2 hw; unfold wrap64; omega
    have g1 : (i : Int) < p := by omega
    have g2 : (i : Int) < 20 := by omega
    have := ih k (i + 1) (by omega) (by omega)
    rw [manteletlaw12_PassesFew.l1, if_pos g1, if_pos g2, hw, hwi]
    rw [if_neg (by omega), Nat.add_sub_cancel] at this
    exact this
theorem p_small (n fan : Int) (p : Nat) (h2 : n ≤ 65536) (h3 : 2 ≤ fan) (hp2 : p = 0 ∨ fan ^ (p - 1) < n) : p ≤ 17 := by
  rcases hp2 with rfl | hp2
  · exact Nat.zero_le _
  · apply Classical.byContradiction
    intro hn
    have a1 : (2 : Int) ^ (p - 1) ≤ fan ^ (p - 1) := PassLib.pow_mono 2 fan (by decide) h3 (p - 1)
    have a2 : (2 : Int) ^ 17 ≤ 2 ^ (p - 1) := by
      have := Nat.pow_le_pow_right (n := 2) (by decide) (show 17 ≤ p - 1 by omega)
      exact_mod_cast this
    have a3 : (131072 : Int) ≤ fan ^ (p - 1) := Int.le_trans (show (131072 : Int) ≤ 2 ^ 17 by decide) (Int.le_trans a2 a1)
    clear a1 a2
    generalize fan ^ (p - 1) = v at *
    omega
theorem rd_grp (n fan : Int) (i : Nat) (h : i < (passes_Passes.g n fan).toNat) : rd_T25 (PassLib.grps n fan) i = passes_Passes.grp n fan i := by
  unfold rd_T25 PassLib.grps
  rw [Int.toNat_natCast, List.getD_eq_getElem?_getD, List.getElem?_map, List.getElem?_range h]
  rfl
/-- The first loop: d groups are still to be looked at. -/
theorem few_l0 (n fan : Int) (h1 : 1 ≤ n) (h2 : n ≤ 65536) (h3 : 2 ≤ fan) (h4 : fan ≤ 8) (d : Nat) : ∀ (k i : Nat), d + 100 < k → i + d = (passes_Passes.g n fan).toNat →
    manteletlaw12_PassesFew.l0 k true n fan (PassLib.grps n fan) (min ((i : Int) * fan) n) i = some true := by
  obtain ⟨g1, g2, g3, g4⟩ := passes_Passes.g_lt n fan h1 h2 h3 h4
  have hlen : ((PassLib.grps n fan).length : Int) = passes_Passes.g n fan := passes_Passes.g_len n fan
  induction d with
  | zero =>
    intro k i hk hi
    obtain ⟨k, rfl⟩ : ∃ m, k = m + 1 := ⟨k - 1, by omega⟩
    have hm : min ((i : Int) * fan) n = n := by
      have := g4 i
      omega
    have hge : ¬ (i : Int) < ((PassLib.grps n fan).length : Int) := by omega
    obtain ⟨p, ep, hp1, hp2, hp3⟩ := PassLib.go_spec 65537 n fan 0 h1 h2 h3 h4 (by omega)
    have hp17 := p_small n fan p h2 h3 hp2
    clear hp3
    rw [manteletlaw12_PassesFew.l0, if_neg hge, PassLib.passes_f, Option.bind_some, ep, hm, Int.zero_add]
    have hk' : p < k := by clear hp1 hp2; omega
    have := few_l1 n fan p h3 h4 hp17 hp1 hp2 p k 0 hk' (Nat.zero_add p)
    rw [if_pos rfl, Int.pow_zero, Int.natCast_zero] at this
    exact this
  | succ d ih =>
    intro k i hk hi
    obtain ⟨k, rfl⟩ : ∃ m, k = m + 1 := ⟨k - 1, by omega⟩
    have hlt : (i : Int) * fan < n := (g4 i).1 (by omega)
    have h0 : 0 ≤ (i : Int) * fan := Int.mul_nonneg (by omega) (by omega)
    have hs := PassLib.step_mul i fan
    have hnext := g4 (i + 1)
    rw [hs] at hnext
    have ihh := ih k (i + 1) (by omega) (by omega)
    rw [hs] at ihh
    have hg : rd_T25 (PassLib.grps n fan) i = ⟨(i : Int) * fan, min ((i : Int) * fan + fan) n⟩ := rd_grp n fan i (by omega)
    have hil : (i : Int) < passes_Passes.g n fan := by omega
    have hi0 : (0 : Int) ≤ i := by omega
    clear ih hs g4 hk hi
    generalize (i : Int) * fan = q at *
    have hmin : min q n = q := by omega
    have hwi : wrap64 ((i : Int) + 1) = ((i + 1 : Nat) : Int) := by unfold wrap64; omega
    have hwl : wrap64 (passes_Passes.g n fan - 1) = passes_Passes.g n fan - 1 := by unfold wrap64; omega
    have hwd : wrap64 (min (q + fan) n - q) = min (q + fan) n - q := by unfold wrap64; omega
    have c1 : ¬ min (q + fan) n ≤ q := by omega
    have c2 : ¬ min (q + fan) n - q > fan := by omega
    rw [manteletlaw12_PassesFew.l0, hlen, if_pos hil, if_pos hi0, hg, hmin, hwi, hwl]
    simp only
    rw [if_pos trivial, if_neg c1, hwd, if_neg c2]
    by_cases hl : (i : Int) < passes_Passes.g n fan - 1
    · have c3 : min (q + fan) n - q = fan := by omega
      rw [if_pos hl, if_pos c3]
      exact ihh
    · rw [if_neg hl]
      exact ihh
theorem PassesFew : manteletlaw12_PassesFew.Pure := by
  intro a b ha hb
  replace ha := u16_range ha
  replace hb := u8_range hb
  have e1 : wrap64 (1 + wrap64 a) = 1 + a := by unfold wrap64; omega
  have e2 : wrap64 (2 + wrap64 (Int.tmod b 7)) = 2 + b % 7 := by rw [Int.tmod_eq_emod_of_nonneg hb.1]; unfold wrap64; omega
  refine ⟨70000, ?_⟩
  unfold manteletlaw12_PassesFew.f
  rw [PassLib.shown_f 70000 (by decide), Option.bind_some, e1, e2, passes_Passes.groups 70000 (by decide), Option.bind_some]
  obtain ⟨g1, g2, _⟩ := passes_Passes.g_lt (1 + a) (2 + b % 7) (by omega) (by omega) (by omega) (by omega)
  have := few_l0 (1 + a) (2 + b % 7) (by omega) (by omega) (by omega) (by omega) (passes_Passes.g (1 + a) (2 + b % 7)).toNat 70000 0 (by omega) (by omega)
  rw [Int.natCast_zero, Int.zero_mul, show min 0 (1 + a) = 0 by omega] at this
  exact this
end Go.Proofs.Ytlndbodbhbcgcaa.Pure
