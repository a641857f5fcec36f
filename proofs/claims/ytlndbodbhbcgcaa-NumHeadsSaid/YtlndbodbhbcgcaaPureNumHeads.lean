/- All bytes of a number but the last one have 128 more; a greater number has no fewer bytes: for all numbers. -/
import Derived.Test.YtlndbodbhbcgcaaNumShown
import Derived.Test.YtlndbodbhbcgcaaPNumx
namespace Go.Proofs.Ytlndbodbhbcgcaa.Pure
open Go.RowKit Go.Proofs.Ytlndbodbhbcgcaa.PNum Go.Proofs.YtlndbodbhbcgcaaW.PrintWords Go.Proofs.YtlndbodbhbcgcaaW.PrintLast

theorem put_head : ∀ (j : Nat) (n : Int), 0 ≤ n → n < 128 ^ (j + 1) → ∀ i : Nat, i < (NumLib.put j n).length → (rd (NumLib.put j n) i ≥ 128 ↔ i + 1 < (NumLib.put j n).length)
  | 0, n, h0, h1, i, hi => by
    simp [NumLib.put] at hi h1
    subst hi
    simp [NumLib.put, rd]
    omega
  | j + 1, n, h0, h1, i, hi => by
    rw [NumLib.put] at hi ⊢
    by_cases h : n ≥ 128
    · rw [if_pos h] at hi ⊢
      have h2 : n / 128 < 128 ^ (j + 1) := by
        rw [Int.pow_succ] at h1
        generalize (128 : Int) ^ (j + 1) = p at *
        omega
      cases i with
      | zero =>
        obtain ⟨c, _, hl, _⟩ := NumLib.put_spec j (n / 128) (by omega) h2
        have e : rd ((n % 128 + 128) :: NumLib.put j (n / 128)) (0 : Nat) = n % 128 + 128 := rfl
        rw [e, List.length_cons, hl]
        exact ⟨fun _ => by omega, fun _ => by omega⟩
      | succ i =>
        have e : rd ((n % 128 + 128) :: NumLib.put j (n / 128)) (i + 1 : Nat) = rd (NumLib.put j (n / 128)) i := by
          unfold rd
          rw [Int.toNat_natCast, Int.toNat_natCast]
          rfl
        have := put_head j (n / 128) (by omega) h2 i (by simpa using hi)
        rw [e, this, List.length_cons]
        omega
    · rw [if_neg h] at hi ⊢
      simp at hi
      subst hi
      simp [rd]
      omega
theorem put_mono : ∀ (j : Nat) (n m : Int), 0 ≤ n → n ≤ m → (NumLib.put j n).length ≤ (NumLib.put j m).length
  | 0, n, m, h0, h => by simp [NumLib.put]
  | j + 1, n, m, h0, h => by
    rw [NumLib.put, NumLib.put]
    by_cases h1 : n ≥ 128
    · rw [if_pos h1, if_pos (by omega)]
      have := put_mono j (n / 128) (m / 128) (by omega) (by omega)
      simpa using this
    · rw [if_neg h1]
      by_cases h2 : m ≥ 128
      · rw [if_pos h2]; simp
      · rw [if_neg h2]; simp
theorem heads_l0 (x y : Int) (b : List Int) (n : Int) (hn : 0 ≤ n ∧ n < 18446744073709551616) (hend : (if (NumLib.putn n).length ≤ b.length then some (((strOfNums (NumLib.putn n)).toList == (strOfNums b).toList) == (x == y)) else none) = some true) (d : Nat) :
    ∀ (k i : Nat), d < k → i + d = (NumLib.putn n).length → manteletlaw01_NumHeads.l0 k x y true (NumLib.putn n) b i = some true := by
  have hp := NumLib.putn_len n hn.1 hn.2
  induction d with
  | zero =>
    intro k i hk hi
    obtain ⟨k, rfl⟩ : ∃ m, k = m + 1 := ⟨k - 1, by omega⟩
    rw [manteletlaw01_NumHeads.l0, if_neg (by omega), if_pos rfl, if_pos (by omega)]
    by_cases h : (NumLib.putn n).length ≤ b.length
    · rw [if_pos h] at hend
      rw [if_pos (by omega)]
      exact hend
    · rw [if_neg h] at hend
      simp at hend
  | succ d ih =>
    intro k i hk hi
    obtain ⟨k, rfl⟩ : ∃ m, k = m + 1 := ⟨k - 1, by omega⟩
    have hh : rd (NumLib.putn n) i ≥ 128 ↔ i + 1 < (NumLib.putn n).length := put_head 9 n hn.1 (by omega) i (show i < (NumLib.putn n).length by omega)
    have hw : wrap64 (((NumLib.putn n).length : Int) - 1) = ((NumLib.putn n).length : Int) - 1 := by unfold wrap64; omega
    rw [manteletlaw01_NumHeads.l0, if_pos (by omega), if_pos (by omega), hw, if_neg, NumLib.wrap_succ i (by omega)]
    · exact ih k (i + 1) (by omega) (by omega)
    · have : decide (rd (NumLib.putn n) i ≥ 128) = decide ((i : Int) < ((NumLib.putn n).length : Int) - 1) := decide_eq_decide.mpr (hh.trans (by omega))
      rw [this]
      simp
theorem NumHeads : manteletlaw01_NumHeads.Pure := by
  intro x y hx hy
  replace hx := NumLib.wf_u64 hx
  replace hy := NumLib.wf_u64 hy
  have hmn : mn x y = min x y := by unfold mn; omega
  have hmx : mx x y = max x y := by unfold mx; omega
  have h1 : 0 ≤ min x y ∧ min x y < 18446744073709551616 := by omega
  have h2 : 0 ≤ max x y ∧ max x y < 18446744073709551616 := by omega
  have hp := NumLib.putn_len _ h1.1 h1.2
  refine ⟨30, ?_⟩
  unfold manteletlaw01_NumHeads.f
  rw [hmn, hmx, NumLib.shown_f 30 (by decide), Option.bind_some, NumLib.put_f 30 _ [] (by decide) h1.1 h1.2 (by decide), Option.bind_some, NumLib.put_f 30 _ [] (by decide) h2.1 h2.2 (by decide), Option.bind_some, List.nil_append, List.nil_append]
  refine heads_l0 x y _ _ h1 ?_ (NumLib.putn (min x y)).length 30 0 (by omega) (by omega)
  rw [if_pos (put_mono 9 _ _ h1.1 (by omega))]
  congr 1
  rw [beq_iff_eq, Bool.eq_iff_iff, beq_iff_eq, beq_iff_eq]
  constructor
  · intro h
    have h := NumLib.str_inj (NumLib.putn_bytes _ h1.1 h1.2) (NumLib.putn_bytes _ h2.1 h2.2) h
    have g1 := NumLib.get_put _ h1.1 h1.2 []
    have g2 := NumLib.get_put _ h2.1 h2.2 []
    rw [h, g2] at g1
    have : max x y = min x y := (Prod.mk.inj g1).1
    omega
  · rintro rfl
    rw [Int.min_self, Int.max_self]
end Go.Proofs.Ytlndbodbhbcgcaa.Pure
