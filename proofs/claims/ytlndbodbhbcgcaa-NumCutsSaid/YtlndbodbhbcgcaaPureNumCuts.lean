/- A number without its last byte is too short; a byte less it is so from the start: for all numbers. -/
import Derived.Test.YtlndbodbhbcgcaaNumShown
import Derived.Test.YtlndbodbhbcgcaaPNumx
namespace Go.Proofs.Ytlndbodbhbcgcaa.Pure
open Go.RowKit Go.Proofs.Ytlndbodbhbcgcaa.PNum Go.Proofs.YtlndbodbhbcgcaaW.PrintWords Go.Proofs.YtlndbodbhbcgcaaW.PrintLast

theorem scan_short : ∀ (k c : Nat) (l : List Int), NumLib.scanL k l = some c → c < k → ∀ i, i ≤ c → NumLib.scanL k (l.take i) = none
  | 0, c, l, _, h, _, _ => by omega
  | k + 1, c, [], hs, _, _, _ => by simp [NumLib.scanL] at hs
  | k + 1, c, x :: t, hs, h, 0, _ => by simp [NumLib.scanL]
  | k + 1, c, x :: t, hs, h, i + 1, hi => by
    rw [NumLib.scanL] at hs
    rw [List.take_succ_cons, NumLib.scanL]
    by_cases hx : x < 128
    · rw [if_pos hx] at hs
      have := Option.some.inj hs
      omega
    · rw [if_neg hx] at hs
      rw [if_neg hx]
      cases hs2 : NumLib.scanL k t with
      | none => rw [hs2] at hs; simp at hs
      | some d =>
        rw [hs2] at hs
        simp at hs
        rw [scan_short k d t hs2 (by omega) i (by omega)]
        rfl
theorem cuts_l0 (n : Int) (hn : 0 ≤ n ∧ n < 18446744073709551616) (d : Nat) : ∀ (k i : Nat), d < k → i + d = (NumLib.putn n).length → manteletlaw01_NumCuts.l0 k n true (NumLib.putn n) i = some true := by
  have hp := NumLib.putn_len n hn.1 hn.2
  have hb := NumLib.putn_bytes n hn.1 hn.2
  induction d with
  | zero =>
    intro k i hk hi
    obtain ⟨k, rfl⟩ : ∃ m, k = m + 1 := ⟨k - 1, by omega⟩
    rw [manteletlaw01_NumCuts.l0, if_neg (by omega), if_pos rfl, if_pos (by omega), if_pos (by omega)]
    have : ((NumLib.putn n).length = 1) = (n < 128) := by
      rw [NumLib.putn, NumLib.put]
      by_cases h : n ≥ 128
      · rw [if_pos h]
        have := NumLib.put_spec 8 (n / 128) (by omega) (by omega)
        obtain ⟨c, _, hl, _⟩ := this
        simp only [List.length_cons, hl]
        exact propext ⟨fun q => by omega, fun q => by omega⟩
      · rw [if_neg h]
        exact propext ⟨fun q => by omega, fun q => rfl⟩
    congr 1
    rw [beq_iff_eq, Bool.eq_iff_iff, beq_iff_eq, decide_eq_true_iff, ← this]
    omega
  | succ d ih =>
    intro k i hk hi
    obtain ⟨k, rfl⟩ : ∃ m, k = m + 1 := ⟨k - 1, by omega⟩
    obtain ⟨c, hc, hl, hs, _⟩ := NumLib.put_spec 9 n hn.1 (by omega)
    have hl' : (NumLib.putn n).length = c + 1 := hl
    have hs0 := hs []
    rw [List.append_nil] at hs0
    have hsh := scan_short 10 c _ hs0 (by omega) i (by omega)
    have hg : NumLib.get ((NumLib.putn n).take i) = (0, 0, 3) := by
      unfold NumLib.get
      rw [hsh]
    rw [manteletlaw01_NumCuts.l0, if_pos (by omega), if_pos (by omega), if_pos (by omega), Int.toNat_natCast, NumLib.get_f _ (NumLib.bytes_take hb i), Option.bind_some, hg, if_pos rfl, NumLib.wrap_succ i (by omega)]
    exact ih k (i + 1) (by omega) (by omega)
theorem NumCuts : manteletlaw01_NumCuts.Pure := by
  intro n hn
  replace hn := NumLib.wf_u64 hn
  have hp := NumLib.putn_len n hn.1 hn.2
  refine ⟨30, ?_⟩
  unfold manteletlaw01_NumCuts.f
  rw [NumLib.shown_f 30 (by decide), Option.bind_some, NumLib.put_f 30 n [] (by decide) hn.1 hn.2 (by decide), Option.bind_some, List.nil_append]
  exact cuts_l0 n hn (NumLib.putn n).length 30 0 (by omega) (by omega)
end Go.Proofs.Ytlndbodbhbcgcaa.Pure
