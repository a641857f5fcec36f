/- Of any number of runs, and any fan, the groups, and how many passes there are, are the document's: for all numbers. -/
import Derived.Test.YtlndbodbhbcgcaaPassLib
namespace Go.Proofs.Ytlndbodbhbcgcaa.Pure
open Go.RowKit Go.Proofs.Ytlndbodbhbcgcaa.PPasses Go.Proofs.YtlndbodbhbcgcaaW.PrintWords Go.Proofs.YtlndbodbhbcgcaaW.PrintLast

theorem same_l0 (n fan : Int) (l : List S25) (hl : l.length ≤ 65536) (hend : ∀ k : Nat, 65600 ≤ k → ((passes_Passes.f n fan).bind fun t => (manteletref12_Passes.f k n fan).bind fun s => some (t == s)) = some true) (d : Nat) :
    ∀ (k i : Nat), d + 65600 < k → i + d = l.length → manteletlaw12_PassesGroups.l0 k n fan true l l i = some true := by
  induction d with
  | zero =>
    intro k i hk hi
    obtain ⟨k, rfl⟩ : ∃ m, k = m + 1 := ⟨k - 1, by omega⟩
    rw [manteletlaw12_PassesGroups.l0, if_neg (by omega), if_pos rfl]
    exact hend k (by omega)
  | succ d ih =>
    intro k i hk hi
    obtain ⟨k, rfl⟩ : ∃ m, k = m + 1 := ⟨k - 1, by omega⟩
    have hw : wrap64 ((i : Int) + 1) = ((i + 1 : Nat) : Int) := by unfold wrap64; omega
    rw [manteletlaw12_PassesGroups.l0, if_pos (by omega), if_pos (by omega), if_pos (by omega), if_neg (by simp), hw]
    exact ih k (i + 1) (by omega) (by omega)
theorem PassesGroups : manteletlaw12_PassesGroups.Pure := by
  intro n fan _ _
  refine ⟨200000, ?_⟩
  unfold manteletlaw12_PassesGroups.f
  rw [PassLib.shown_f 200000 (by decide), Option.bind_some, passes_Passes.groups 200000 (by decide), Option.bind_some, PassLib.ref_groups 200000 (by decide), Option.bind_some, if_pos rfl]
  have hlen : (PassLib.grps n fan).length ≤ 65536 := by
    have hg := passes_Passes.g_len n fan
    by_cases h : n < 1 ∨ n > 65536 ∨ fan < 2 ∨ fan > 8
    · have e : passes_Passes.g n fan = 0 := by unfold passes_Passes.g; rw [if_pos h]
      unfold PassLib.grps
      rw [e]
      simp
    · obtain ⟨g1, g2, _⟩ := passes_Passes.g_lt n fan (by omega) (by omega) (by omega) (by omega)
      unfold PassLib.grps
      omega
  refine same_l0 n fan (PassLib.grps n fan) hlen (fun k hk => ?_) (PassLib.grps n fan).length 200000 0 (by omega) (by omega)
  rw [PassLib.passes_f, Option.bind_some, PassLib.ref_passes 65537 k n fan (by omega) (by omega) (by omega) (by omega), Option.bind_some]
  simp
end Go.Proofs.Ytlndbodbhbcgcaa.Pure
