/- Numbers put one behind the other are read one by one: for all lists of numbers. -/
import Derived.Test.YtlndbodbhbcgcaaNumShown
import Derived.Test.YtlndbodbhbcgcaaPNumx
namespace Go.Proofs.Ytlndbodbhbcgcaa.Pure
open Go.RowKit Go.Proofs.Ytlndbodbhbcgcaa.PNum Go.Proofs.YtlndbodbhbcgcaaW.PrintWords Go.Proofs.YtlndbodbhbcgcaaW.PrintLast

def Good (l : List Int) : Prop := ∀ x ∈ l, 0 ≤ x ∧ x < 18446744073709551616
/-- All numbers of a list, one behind the other. -/
def all : List Int → List Int
  | [] => []
  | n :: l => NumLib.putn n ++ all l
theorem all_snoc : ∀ (l : List Int) (n : Int), all (l ++ [n]) = all l ++ NumLib.putn n
  | [], n => by simp [all]
  | x :: l, n => by rw [List.cons_append, all, all, all_snoc l n, List.append_assoc]
theorem all_len : ∀ (l : List Int), Good l → (all l).length ≤ 10 * l.length
  | [], _ => by simp [all]
  | x :: l, h => by
    have h1 := h x List.mem_cons_self
    have := NumLib.putn_len x h1.1 h1.2
    have := all_len l (fun y hy => h y (List.mem_cons_of_mem _ hy))
    rw [all, List.length_append, List.length_cons]
    omega
theorem all_bytes : ∀ (l : List Int), Good l → NumLib.Bytes (all l)
  | [], _ => fun x hx => by simp [all] at hx
  | x :: l, h => NumLib.bytes_append (NumLib.putn_bytes x (h x List.mem_cons_self).1 (h x List.mem_cons_self).2) (all_bytes l (fun y hy => h y (List.mem_cons_of_mem _ hy)))
theorem rd_at (l : List Int) (i : Nat) (h : i < l.length) : l.drop i = rd l i :: l.drop (i + 1) := NumLib.rd_drop l i h
theorem good_drop {l : List Int} (h : Good l) (i : Nat) : Good (l.drop i) := fun x hx => h x (List.mem_of_mem_drop hx)
theorem good_take {l : List Int} (h : Good l) (i : Nat) : Good (l.take i) := fun x hx => h x (List.mem_of_mem_take hx)
theorem good_rd {l : List Int} (h : Good l) (i : Nat) (hi : i < l.length) : 0 ≤ rd l i ∧ rd l i < 18446744073709551616 := by
  unfold rd
  rw [Int.toNat_natCast, List.getD_eq_getElem?_getD, List.getElem?_eq_getElem hi, Option.getD_some]
  exact h _ (List.getElem_mem hi)
/-- The second loop: d numbers are still to be read. -/
theorem joins_l1 (l : List Int) (hl : Good l) (hlen : l.length ≤ 17592186044000) (m : Nat) (hm : m ≤ l.length ∧ m ≤ 100 ∧ (m = l.length ∨ m = 100)) (d : Nat) : ∀ (k i : Nat), 2 * d + 1 < k → i + d = m → manteletlaw01_NumJoins.l1 k l true (all ((l.take 100).drop i)) i = some true := by
  have ht : (l.take 100).length = m := by rw [List.length_take]; omega
  induction d with
  | zero =>
    intro k i hk hi
    obtain ⟨k, rfl⟩ : ∃ m, k = m + 2 := ⟨k - 2, by omega⟩
    have hd : (l.take 100).drop i = [] := List.drop_eq_nil_of_le (by omega)
    rw [hd, manteletlaw01_NumJoins.l1]
    by_cases h : (i : Int) < (l.length : Int)
    · rw [if_pos h, manteletlaw01_NumJoins.j3, decide_eq_false (show ¬ (i : Int) < 100 by omega), if_neg (by decide), if_pos rfl]
      rfl
    · rw [if_neg h, manteletlaw01_NumJoins.j3, if_neg (by decide), if_pos rfl]
      rfl
  | succ d ih =>
    intro k i hk hi
    obtain ⟨k, rfl⟩ : ∃ m, k = m + 2 := ⟨k - 2, by omega⟩
    have hr := good_rd hl i (by omega)
    have er : rd (l.take 100) i = rd l i := by
      unfold rd
      rw [Int.toNat_natCast, List.getD_eq_getElem?_getD, List.getD_eq_getElem?_getD, List.getElem?_take, if_pos (by omega)]
    have hg : Good ((l.take 100).drop (i + 1)) := good_drop (good_take hl _) _
    have hb := all_bytes _ hg
    have hlen2 := all_len _ hg
    have hp := NumLib.putn_len _ hr.1 hr.2
    rw [rd_at _ i (by omega), er, all, manteletlaw01_NumJoins.l1, if_pos (by omega), manteletlaw01_NumJoins.j3, if_pos (decide_eq_true (show (i : Int) < 100 by omega)), NumLib.get_f _ (NumLib.bytes_append (NumLib.putn_bytes _ hr.1 hr.2) hb), Option.bind_some, NumLib.get_put _ hr.1 hr.2]
    simp only
    rw [if_pos trivial, if_pos (by omega), if_pos (by omega), if_pos trivial, if_neg (by rw [List.length_append]; omega), if_pos (by omega), if_pos (by rw [List.length_append]; omega), Int.toNat_natCast, List.drop_left, NumLib.wrap_succ i (by omega)]
    exact ih k (i + 1) (by omega) (by omega)
/-- The first loop: d numbers are still to be put. -/
theorem joins_l0 (l : List Int) (hl : Good l) (hlen : l.length ≤ 17592186044000) (m : Nat) (hm : m ≤ l.length ∧ m ≤ 100 ∧ (m = l.length ∨ m = 100)) (d : Nat) : ∀ (k i : Nat), d + 211 < k → i + d = m → manteletlaw01_NumJoins.l0 k l true (all (l.take i)) i = some true := by
  have fin : ∀ k i : Nat, 210 < k → i = m → manteletlaw01_NumJoins.j1 k l true (all (l.take i)) = some true := by
    intro k i hk hi
    obtain ⟨k, rfl⟩ : ∃ m, k = m + 1 := ⟨k - 1, by omega⟩
    have e : l.take i = (l.take 100).drop 0 := by
      rw [List.drop_zero]
      by_cases h : l.length ≤ 100
      · rw [List.take_of_length_le (by omega), List.take_of_length_le h]
      · rw [show i = 100 by omega]
    rw [manteletlaw01_NumJoins.j1, e]
    exact joins_l1 l hl hlen m hm m k 0 (by omega) (by omega)
  induction d with
  | zero =>
    intro k i hk hi
    obtain ⟨k, rfl⟩ : ∃ m, k = m + 1 := ⟨k - 1, by omega⟩
    rw [manteletlaw01_NumJoins.l0]
    by_cases h : (i : Int) < (l.length : Int)
    · rw [if_pos h, if_neg (by omega)]
      exact fin k i (by omega) (by omega)
    · rw [if_neg h]
      exact fin k i (by omega) (by omega)
  | succ d ih =>
    intro k i hk hi
    obtain ⟨k, rfl⟩ : ∃ m, k = m + 1 := ⟨k - 1, by omega⟩
    have hr := good_rd hl i (by omega)
    have hlen2 := all_len _ (good_take hl i)
    rw [List.length_take] at hlen2
    have e : l.take (i + 1) = l.take i ++ [rd l i] := by
      have : rd l i = l[i]'(by omega) := by
        unfold rd
        rw [Int.toNat_natCast, List.getD_eq_getElem?_getD, List.getElem?_eq_getElem (by omega), Option.getD_some]
      rw [this, List.take_append_getElem]
    rw [manteletlaw01_NumJoins.l0, if_pos (by omega), if_pos (by omega), if_pos (by omega), NumLib.put_f k _ _ (by omega) hr.1 hr.2 (by omega), Option.bind_some, ← all_snoc, ← e, NumLib.wrap_succ i (by omega)]
    exact ih k (i + 1) (by omega) (by omega)
theorem NumJoins : manteletlaw01_NumJoins.Pure := by
  intro l _ hlen hl
  replace hl : Good l := fun x hx => NumLib.wf_u64 (hl x hx)
  refine ⟨1000, ?_⟩
  unfold manteletlaw01_NumJoins.f
  rw [NumLib.shown_f 1000 (by decide), Option.bind_some]
  by_cases h : l.length ≤ 100
  · exact joins_l0 l hl (by omega) l.length ⟨by omega, h, .inl rfl⟩ l.length 1000 0 (by omega) (by omega)
  · exact joins_l0 l hl (by omega) 100 ⟨by omega, by omega, .inr rfl⟩ 100 1000 0 (by omega) (by omega)
end Go.Proofs.Ytlndbodbhbcgcaa.Pure
