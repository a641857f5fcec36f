/- Plain laws of groups and passes: the reference's groups and passes are the program's; how many passes there are. -/
import Derived.Test.YtlndbodbhbcgcaaPPassesx
namespace Go.Proofs.Ytlndbodbhbcgcaa.PassLib
open Go.RowKit Go.Proofs.Ytlndbodbhbcgcaa.PPasses Go.Proofs.YtlndbodbhbcgcaaW.PrintWords Go.Proofs.YtlndbodbhbcgcaaW.PrintLast

abbrev grps (n fan : Int) : List S25 := (List.range (passes_Passes.g n fan).toNat).map (passes_Passes.grp n fan)
theorem step_mul (j : Nat) (fan : Int) : ((j + 1 : Nat) : Int) * fan = (j : Int) * fan + fan := by rw [Int.natCast_add, Int.add_mul]; simp
/-- The reference's loop: d rounds are still to come; j groups are told, the next one begins at j * fan. -/
theorem ref_l0 (n fan : Int) (h1 : 1 ≤ n) (h2 : n ≤ 65536) (h3 : 2 ≤ fan) (h4 : fan ≤ 8) (d : Nat) : ∀ (k j : Nat) (i : Int), d + 1 < k → i + d = n + 1 → (j : Int) * fan < i → i ≤ (j : Int) * fan + fan → 1 ≤ d →
    manteletref12_Groups.l0 k n fan ((List.range j).map (passes_Passes.grp n fan)) ((j : Int) * fan) i = some (grps n fan) := by
  obtain ⟨g1, g2, g3, g4⟩ := passes_Passes.g_lt n fan h1 h2 h3 h4
  induction d with
  | zero => intro k j i _ _ _ _ h; omega
  | succ d ih =>
    intro k j i hk hi hj1 hj2 _
    obtain ⟨k, rfl⟩ : ∃ m, k = m + 2 := ⟨k - 2, by omega⟩
    have hp0 : 0 ≤ (j : Int) * fan := Int.mul_nonneg (by omega) (by omega)
    have hg := (g4 j).2 (by omega)
    have hjl : (j : Int) ≤ 65536 := by omega
    have hs := step_mul j fan
    have hl : ((List.range j).map (passes_Passes.grp n fan)).length < 8796093022208 := by rw [List.length_map, List.length_range]; omega
    have hwi : wrap64 (i + 1) = i + 1 := by unfold wrap64; omega
    have hwd : wrap64 (i - (j : Int) * fan) = i - (j : Int) * fan := by
      generalize (j : Int) * fan = p at *
      unfold wrap64
      omega
    by_cases hin : i = n
    · have he : (⟨(j : Int) * fan, i⟩ : S25) = passes_Passes.grp n fan j := by
        unfold passes_Passes.grp
        rw [show min ((j : Int) * fan + fan) n = i by omega]
      have hc : (passes_Passes.g n fan).toNat = j + 1 := by
        have := g4 (j + 1)
        rw [hs] at this
        omega
      rw [manteletref12_Groups.l0, if_pos (by omega), if_pos hin, if_pos hl, he, hwi, manteletref12_Groups.l0, if_neg (by omega)]
      unfold grps
      rw [hc, List.range_succ, List.map_append]
      rfl
    · by_cases hf : i - (j : Int) * fan = fan
      · have he : (⟨(j : Int) * fan, i⟩ : S25) = passes_Passes.grp n fan j := by
          unfold passes_Passes.grp
          rw [show min ((j : Int) * fan + fan) n = i by omega]
        rw [manteletref12_Groups.l0, if_pos (by omega), if_neg hin, hwd, if_pos hf, if_pos hl, he, hwi]
        have := ih (k + 1) (j + 1) (i + 1) (by omega) (by omega) (by rw [hs]; omega) (by rw [hs]; omega) (by omega)
        rw [List.range_succ, List.map_append, hs, show (j : Int) * fan + fan = i by omega] at this
        exact this
      · rw [manteletref12_Groups.l0, if_pos (by omega), if_neg hin, hwd, if_neg hf, hwi]
        exact ih (k + 1) j (i + 1) (by omega) (by omega) (by omega) (by omega) (by omega)
theorem ref_groups (k : Nat) (hk : 65600 ≤ k) (n fan : Int) : manteletref12_Groups.f k n fan = some (grps n fan) := by
  obtain ⟨m, rfl⟩ : ∃ m, k = m + 1 := ⟨k - 1, by omega⟩
  unfold manteletref12_Groups.f
  by_cases h : n < 1 ∨ n > 65536 ∨ fan < 2 ∨ fan > 8
  · have e : passes_Passes.g n fan = 0 := by unfold passes_Passes.g; rw [if_pos h]
    have hz : manteletref12_Groups.j0 (m + 1) n fan ([] : List S25) true = some (grps n fan) := by
      rw [manteletref12_Groups.j0, if_pos rfl]
      unfold grps
      rw [e]
      rfl
    by_cases h1 : n < 1
    · rw [if_pos h1]; exact hz
    · rw [if_neg h1]
      by_cases h2 : n > 65536
      · rw [if_pos h2]; exact hz
      · rw [if_neg h2]
        by_cases h3 : fan < 2
        · rw [if_pos h3]; exact hz
        · rw [if_neg h3, decide_eq_true (show fan > 8 by omega)]; exact hz
  · rw [if_neg (by omega), if_neg (by omega), if_neg (by omega), decide_eq_false (show ¬ fan > 8 by omega), manteletref12_Groups.j0, if_neg (by decide)]
    have := ref_l0 n fan (by omega) (by omega) (by omega) (by omega) n.toNat m 0 1 (by omega) (by omega) (by simp) (by simp; omega) (by omega)
    rw [Int.natCast_zero, Int.zero_mul] at this
    exact this
/-- How many passes there are. -/
theorem go_spec : ∀ (k : Nat) (n fan many : Int), 1 ≤ n → n ≤ 65536 → 2 ≤ fan → fan ≤ 8 → n.toNat < k → ∃ p : Nat, passes_Passes.go k n fan many = many + p ∧ n ≤ fan ^ p ∧ (p = 0 ∨ fan ^ (p - 1) < n) ∧ (p = 0 ↔ n = 1)
  | 0, n, fan, many, _, _, _, _, h => by omega
  | k + 1, n, fan, many, h1, h2, h3, h4, hk => by
    obtain ⟨g1, g2, g3, g4⟩ := passes_Passes.g_lt n fan h1 h2 h3 h4
    by_cases hn : n = 1
    · refine ⟨0, ?_, by simp; omega, .inl rfl, by simp [hn]⟩
      rw [passes_Passes.go, if_pos (.inr hn)]
      simp
    · have g3 := g3 (by omega)
      obtain ⟨p, e, hp1, hp2, hp3⟩ := go_spec k (passes_Passes.g n fan) fan (many + 1) g1 (by omega) h3 h4 (by omega)
      have hc1 : n ≤ passes_Passes.g n fan * fan := by
        have := g4 (passes_Passes.g n fan).toNat
        rw [Int.toNat_of_nonneg (by omega)] at this
        omega
      have hc2 : (passes_Passes.g n fan - 1) * fan < n := by
        have := g4 (passes_Passes.g n fan - 1).toNat
        rw [Int.toNat_of_nonneg (by omega)] at this
        omega
      refine ⟨p + 1, ?_, ?_, .inr ?_, by omega⟩
      · rw [passes_Passes.go, if_neg (by omega), e]
        omega
      · rw [Int.pow_succ]
        exact Int.le_trans hc1 (Int.mul_le_mul_of_nonneg_right hp1 (by omega))
      · rw [Nat.add_sub_cancel]
        rcases hp2 with rfl | hp2
        · simp; omega
        · cases p with
          | zero => simp; omega
          | succ p =>
            rw [Nat.add_sub_cancel] at hp2
            rw [Int.pow_succ]
            exact Int.lt_of_le_of_lt (Int.mul_le_mul_of_nonneg_right (show fan ^ p ≤ passes_Passes.g n fan - 1 by omega) (by omega)) hc2
theorem go_bad (n fan : Int) (h : n < 1 ∨ n > 65536 ∨ fan < 2 ∨ fan > 8) : passes_Passes.go 65537 n fan 0 = 0 := by
  have e : passes_Passes.g n fan = 0 := by unfold passes_Passes.g; rw [if_pos h]
  rw [passes_Passes.go, if_pos (.inl e)]
theorem go_many : ∀ (k : Nat) (n fan many : Int), passes_Passes.go k n fan many = many + passes_Passes.go k n fan 0
  | 0, n, fan, many => by simp [passes_Passes.go]
  | k + 1, n, fan, many => by
    rw [passes_Passes.go, passes_Passes.go]
    by_cases h : passes_Passes.g n fan = 0 ∨ n = 1
    · rw [if_pos h, if_pos h]; simp
    · rw [if_neg h, if_neg h, go_many k _ fan (many + 1), go_many k _ fan (0 + 1)]
      omega
theorem pow_mono (a b : Int) (ha : 0 ≤ a) (h : a ≤ b) : ∀ p : Nat, a ^ p ≤ b ^ p
  | 0 => by simp
  | p + 1 => by
    rw [Int.pow_succ, Int.pow_succ]
    exact Int.mul_le_mul (pow_mono a b ha h p) h ha (Int.pow_nonneg (by omega))
theorem ref_passes : ∀ (k q : Nat) (n fan : Int), (1 ≤ n → n ≤ 65536 → n.toNat < k) → 1 ≤ k → 1 ≤ q → (1 ≤ n → n ≤ 65536 → n.toNat < q) → manteletref12_Passes.f q n fan = some (passes_Passes.go k n fan 0)
  | 0, _, n, fan, _, h, _, _ => by omega
  | _, 0, n, fan, _, _, h, _ => by omega
  | k + 1, q + 1, n, fan, hk, _, _, hq => by
    rw [manteletref12_Passes.f, passes_Passes.go]
    by_cases h : n < 1 ∨ n > 65536 ∨ fan < 2 ∨ fan > 8
    · have e : passes_Passes.g n fan = 0 := by unfold passes_Passes.g; rw [if_pos h]
      rw [if_pos (show passes_Passes.g n fan = 0 ∨ n = 1 from .inl e)]
      by_cases h1 : n < 1
      · rw [if_pos h1]
      · rw [if_neg h1]
        by_cases h2 : n > 65536
        · rw [if_pos h2]
        · rw [if_neg h2]
          by_cases h3 : fan < 2
          · rw [if_pos h3]
          · rw [if_neg h3, if_pos (by omega)]
    · rw [if_neg (show ¬ n < 1 by omega), if_neg (show ¬ n > 65536 by omega), if_neg (show ¬ fan < 2 by omega), if_neg (show ¬ fan > 8 by omega)]
      by_cases hn : n = 1
      · rw [if_pos hn, if_pos (.inr hn)]
      · obtain ⟨g1, g2, g3, g4⟩ := passes_Passes.g_lt n fan (by omega) (by omega) (by omega) (by omega)
        have g3 := g3 (by omega)
        have e : wrap64 (Int.tdiv (wrap64 (wrap64 (n + fan) - 1)) fan) = passes_Passes.g n fan := by
          have e1 : wrap64 (wrap64 (n + fan) - 1) = n + fan - 1 := by unfold wrap64; omega
          have e2 : passes_Passes.g n fan = (n + fan - 1) / fan := by unfold passes_Passes.g; rw [if_neg h]
          rw [e1, Int.tdiv_eq_ediv_of_nonneg (by omega), ← e2]
          unfold wrap64
          omega
        obtain ⟨p, e3, _, hp, _⟩ := go_spec k (passes_Passes.g n fan) fan 0 g1 (by omega) (by omega) (by omega) (by omega)
        rw [if_neg hn, if_neg (show ¬ fan = 0 by omega), e, ref_passes k q (passes_Passes.g n fan) fan (by omega) (by omega) (by omega) (by omega), Option.bind_some, if_neg (by omega), go_many k _ fan (0 + 1), e3]
        have : (p : Int) ≤ 65537 := by
          rcases hp with rfl | hp
          · simp
          · have h2 : (p : Int) - 1 < 2 ^ (p - 1) := by
              have : p - 1 < 2 ^ (p - 1) := Nat.lt_two_pow_self
              have h' : ((p - 1 : Nat) : Int) < ((2 ^ (p - 1) : Nat) : Int) := by exact_mod_cast this
              rw [Int.natCast_pow] at h'
              simp only [Int.cast_ofNat_Int] at h'
              omega
            have h3 : (2 : Int) ^ (p - 1) ≤ fan ^ (p - 1) := pow_mono 2 fan (by omega) (by omega) (p - 1)
            omega
        congr 1
        unfold wrap64
        omega
theorem passes_f (n fan : Int) : passes_Passes.f n fan = some (passes_Passes.go 65537 n fan 0) := rfl
theorem shown_f (k : Nat) (hk : 65600 ≤ k) : manteletlaw12_shown.f k = some true := by
  unfold manteletlaw12_shown.f
  rw [passes_Passes.groups k (by omega), Option.bind_some]
  have e : (List.range (passes_Passes.g 5 2).toNat).map (passes_Passes.grp 5 2) = [⟨0, 2⟩, ⟨2, 4⟩, ⟨4, 5⟩] := by rfl
  obtain ⟨p, hp, h1, h2, _⟩ := go_spec 65537 5 2 0 (by decide) (by decide) (by decide) (by decide) (by decide)
  have hp3 : p = 3 := by
    have : p < 3 ∨ p = 3 ∨ 3 < p := by omega
    rcases this with h | h | h
    · have : p = 0 ∨ p = 1 ∨ p = 2 := by omega
      rcases this with rfl | rfl | rfl <;> simp at h1
    · exact h
    · rcases h2 with h2 | h2
      · omega
      · have h3 := Nat.pow_le_pow_right (n := 2) (by decide) (show 3 ≤ p - 1 by omega)
        have h4 : ((2 ^ 3 : Nat) : Int) ≤ ((2 ^ (p - 1) : Nat) : Int) := by exact_mod_cast h3
        rw [Int.natCast_pow, Int.natCast_pow] at h4
        have h5 : (2 : Int) ^ 3 = 8 := by decide
        simp only [Int.cast_ofNat_Int] at h4
        omega
  rw [e, passes_f, hp, hp3]
  rfl
end Go.Proofs.Ytlndbodbhbcgcaa.PassLib
