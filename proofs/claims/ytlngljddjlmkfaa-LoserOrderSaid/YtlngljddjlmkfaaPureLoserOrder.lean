/- In whatever order lists stand the same is told, if each may be: for all lists. -/
import Derived.Test.YtlngljddjlmkfaaShownLib
import Derived.Test.YtlngljddjlmkfaaLoserRow
import Derived.Test.YtlngljddjlmkfaaPLsx5
namespace Go.Proofs.Ytlngljddjlmkfaa.Pure
open Go.RowKit Go.Proofs.Ytlngljddjlmkfaa.PLs Go.Proofs.YtlngljddjlmkfaaW.PrintWords Go.Proofs.YtlngljddjlmkfaaW.PrintLast Go.Proofs.YtlngljddjlmkfaaW.PrintMore Go.Proofs.Ytlngljddjlmkfaa.LoserLib
set_option linter.unusedVariables false
set_option linter.unusedSimpArgs false

def rot (l : List (List E1)) (k : Nat) : List (List E1) := l.drop k ++ l.take k
theorem rot_len (l : List (List E1)) (k : Nat) (hk : k ≤ l.length) : (rot l k).length = l.length := by
  unfold rot
  rw [List.length_append, List.length_drop, List.length_take]
  omega
theorem rot_at (l : List (List E1)) (k : Nat) (hk : k < l.length) (i : Nat) (hi : i < l.length) : (rot l k)[i]? = l[(i + k) % l.length]? := by
  unfold rot
  by_cases h : i + k < l.length
  · rw [List.getElem?_append_left (by rw [List.length_drop]; omega), List.getElem?_drop, Nat.mod_eq_of_lt h, Nat.add_comm]
  · have e : (i + k) % l.length = i + k - l.length := by
      rw [Nat.mod_eq_sub_mod (by omega), Nat.mod_eq_of_lt (by omega)]
    rw [List.getElem?_append_right (by rw [List.length_drop]; omega), List.length_drop, List.getElem?_take, if_pos (by omega), e]
    congr 1
    omega
theorem cnt_rev : ∀ (ls : List (List E1)) (w : List UInt8), cnt ls.reverse.flatten w = cnt ls.flatten w
  | [], w => rfl
  | l :: ls, w => by
    simp only [List.reverse_cons, List.flatten_append, cnt_append, cnt_rev ls w, List.flatten_cons, List.flatten_nil, cnt]
    omega
theorem len_rev : ∀ (ls : List (List E1)), ls.reverse.flatten.length = ls.flatten.length
  | [] => rfl
  | l :: ls => by
    simp only [List.reverse_cons, List.flatten_append, List.length_append, len_rev ls, List.flatten_cons, List.flatten_nil, List.length_nil]
    omega
theorem rot_flat (l : List (List E1)) (k : Nat) (w : List UInt8) : cnt (rot l k).reverse.flatten w = cnt l.flatten w ∧ (rot l k).reverse.flatten.length = l.flatten.length := by
  have e : l.flatten = (l.take k).flatten ++ (l.drop k).flatten := by rw [← List.flatten_append, List.take_append_drop]
  rw [cnt_rev, len_rev]
  unfold rot
  rw [e, List.flatten_append, cnt_append, cnt_append, List.length_append, List.length_append]
  omega
theorem order_l1 (l : List (List E1)) (hf : Few l) (hmay : ∀ m ∈ l, mayS m = 0) (k : Nat) (hk : k < l.length) : ∀ (i fuel : Nat), i ≤ l.length → fuel = 800000 + i + 1 → manteletlaw11_LoserOrder.l1 fuel l true (k : Int) ((rot l k).drop i).reverse ((i : Int) - 1) = some true := by
  have h20 := hf.1
  have hfl := few_flat hf
  intro i
  induction i with
  | zero =>
    intro fuel _ hfu
    obtain ⟨r, r1, r2, _⟩ := merge_f (800000 + 0) l (by omega) (fun m hm => by have := hf.2 m hm; omega) (by omega) (by omega) (by omega)
    have hrm : ∀ m ∈ (rot l k).reverse, m ∈ l := fun m hm => by
      rw [List.mem_reverse] at hm
      unfold rot at hm
      rcases List.mem_append.1 hm with h | h
      · exact List.mem_of_mem_drop h
      · exact List.mem_of_mem_take h
    have hrl := rot_len l k (by omega)
    obtain ⟨s, s1, s2, _⟩ := merge_f (800000 + 0) (rot l k).reverse (by rw [List.length_reverse]; omega) (fun m hm => by have := hf.2 m (hrm m hm); omega) (by omega) (by have := (rot_flat l k []).2; omega) (by omega)
    have rr := r2 (badS_of hmay)
    have e : s = r := res_same (s2 (badS_of (fun m hm => hmay m (hrm m hm)))) rr (fun w => (rot_flat l k w).1)
    have hlen : r.1.length < 700000 := by
      rcases rr with ⟨_, q1, q2, q3⟩ | ⟨q, _⟩
      · exact ris_len q1 q2 q3 (by omega)
      · rw [q]; simp
    subst hfu
    rw [manteletlaw11_LoserOrder.l1, if_neg (by omega), List.drop_zero, r1, Option.bind_some, s1, Option.bind_some, if_pos rfl, e, same_f r.1 (by omega) _ (by omega), Option.bind_some, if_pos rfl, beq_self_eq_true]
  | succ i ih =>
    intro fuel hi hfu
    have hrl := rot_len l k (by omega)
    have hil : i < (rot l k).length := by omega
    have hat := rot_at l k hk i (by omega)
    have hm : (i + k) % l.length < l.length := Nat.mod_lt _ (by omega)
    have hw : wrap64 (((i + 1 : Nat) : Int) - 1 + (k : Int)) = ((i + k : Nat) : Int) := by unfold wrap64; omega
    have ht : Int.tmod ((i + k : Nat) : Int) (l.length : Int) = (((i + k) % l.length : Nat) : Int) := by
      rw [Int.tmod_eq_emod_of_nonneg (by omega)]
      exact (Int.natCast_emod _ _).symm
    have hw2 : wrap64 (((i + 1 : Nat) : Int) - 1 - 1) = (i : Int) - 1 := by unfold wrap64; omega
    have hd : (rot l k).drop i = l[(i + k) % l.length] :: (rot l k).drop (i + 1) := by
      rw [List.drop_eq_getElem_cons hil]
      congr 1
      have := hat
      rw [List.getElem?_eq_getElem hil, List.getElem?_eq_getElem hm] at this
      exact Option.some.inj this
    subst hfu
    rw [show 800000 + (i + 1) + 1 = (800000 + i + 1) + 1 by omega, manteletlaw11_LoserOrder.l1, if_pos (by omega), if_neg (by omega), hw, ht, if_pos (by omega), if_pos (by omega), if_pos (by rw [List.length_reverse, List.length_drop]; omega), rdL_eq l _ hm, hw2]
    have := ih (800000 + i + 1) (by omega) rfl
    rw [hd, List.reverse_cons] at this
    exact this
theorem order_l0 (l : List (List E1)) (hf : Few l) (h0 : 0 < l.length) (a : Int) (k : Nat) (hk : k < l.length) (ha : Int.tmod (wrap64 a) (l.length : Int) = k) : ∀ (d i fuel : Nat), i + d = l.length → fuel = 800000 + l.length + 2 + d → (∀ m ∈ l.take i, mayS m = 0) → manteletlaw11_LoserOrder.l0 fuel l a true i = some true := by
  have h20 := hf.1
  have hfl := few_flat hf
  intro d
  induction d with
  | zero =>
    intro i fuel hi hfu hm
    rw [List.take_of_length_le (by omega)] at hm
    have hw : wrap64 ((l.length : Int) - 1) = (l.length : Int) - 1 := by unfold wrap64; omega
    subst hfu
    rw [show 800000 + l.length + 2 + 0 = (800000 + l.length + 1) + 1 by omega, manteletlaw11_LoserOrder.l0, if_neg (by omega), if_neg (by omega), ha, hw]
    have := order_l1 l hf hm k hk l.length (800000 + l.length + 1) (Nat.le_refl _) rfl
    have hrl := rot_len l k (by omega)
    rw [List.drop_of_length_le (by omega)] at this
    exact this
  | succ d ih =>
    intro i fuel hi hfu hm
    have hil : i < l.length := by omega
    have hli := hf.2 _ (List.getElem_mem hil)
    subst hfu
    rw [show 800000 + l.length + 2 + (d + 1) = (800000 + l.length + 2 + d) + 1 by omega, manteletlaw11_LoserOrder.l0, if_pos (by omega), if_pos (by omega), rdL_eq l i hil, may_f _ l[i] (by omega) (by omega), Option.bind_some]
    by_cases hb : mayS l[i] = 0
    · rw [if_pos hb, wr1 i (by omega)]
      refine ih (i + 1) _ (by omega) rfl (fun m hmm => ?_)
      rw [List.take_add_one, List.getElem?_eq_getElem hil] at hmm
      rcases List.mem_append.1 hmm with h | h
      · exact hm m h
      · have : m = l[i] := by simpa using h
        rw [this]; exact hb
    · obtain ⟨r, r1, _, r3⟩ := merge_f (800000 + l.length + 2 + d) l (by omega) (fun m hm => by have := hf.2 m hm; omega) (by omega) (by omega) (by omega)
      have hbad : badS l = mayS l[i] := by
        have e : l = l.take i ++ l[i] :: l.drop (i + 1) := by rw [← List.drop_eq_getElem_cons hil, List.take_append_drop]
        have : badS l = badS (l.take i ++ l[i] :: l.drop (i + 1)) := congrArg badS e
        rw [this]
        unfold badS
        rw [List.map_append, List.find?_append, List.find?_eq_none.2 (fun v hv => by
          obtain ⟨m, h1, rfl⟩ := List.mem_map.1 hv
          simpa using hm m h1), List.map_cons, List.find?_cons_of_pos (by simpa using hb)]
        rfl
      have hr := r3 (by rw [hbad]; exact hb)
      rw [if_neg hb, r1, Option.bind_some, if_pos rfl, Option.bind_some, hr, hbad]
      exact congrArg some (beq_self_eq_true _)
theorem LoserOrder (l0 : List (List E1)) (a1 : Int) (w0 : l0.length ≤ maxLen ∧ ∀ x ∈ l0, x.length ≤ maxLen ∧ ∀ y ∈ x, y.f0.size ≤ maxLen ∧ (Lit.int .u64 y.f1).wf = true) (w1 : (Lit.int .u8 a1).wf = true) : ∃ k, manteletlaw11_LoserOrder.f k l0 a1 = some true := by
  have hw : 0 ≤ a1 ∧ a1 ≤ 255 := by simp [Lit.wf, IntKind.min, IntKind.max, IntKind.bits, IntKind.signed] at w1; omega
  obtain ⟨b, hb, h2⟩ := few_f l0 (800000 + l0.length + 2 + l0.length + 1) (by omega)
  by_cases h20 : b = true
  · subst h20
    have hf := h2 rfl
    have hl := hf.1
    refine ⟨800000 + l0.length + 2 + l0.length + 1, ?_⟩
    unfold manteletlaw11_LoserOrder.f
    rw [shown_f _ (by omega) (by omega), Option.bind_some, hb, Option.bind_some, if_pos rfl]
    by_cases h0 : l0.length = 0
    · rw [show ((l0.length : Int) == 0) = true from beq_iff_eq.mpr (by omega), manteletlaw11_LoserOrder.j0, if_pos rfl]
    · have hlt := Int.emod_lt_of_pos a1 (show 0 < (l0.length : Int) by omega)
      have hge := Int.emod_nonneg a1 (show (l0.length : Int) ≠ 0 by omega)
      have e2 : wrap64 a1 = a1 := by unfold wrap64; omega
      obtain ⟨i, hi⟩ := Int.eq_ofNat_of_zero_le hge
      rw [show ((l0.length : Int) == 0) = false from beq_eq_false_iff_ne.mpr (by omega), manteletlaw11_LoserOrder.j0, if_neg (by simp)]
      exact order_l0 l0 hf (by omega) a1 i (by omega) (by rw [e2, Int.tmod_eq_emod_of_nonneg hw.1, hi]) l0.length 0 _ (by omega) rfl (fun m hm => by simp at hm)
  · have h20 : b = false := by simpa using h20
    obtain ⟨b', hb', _⟩ := few_f l0 800000 (by omega)
    have e : b' = b := by
      by_cases h : b' = b
      · exact h
      · exfalso
        -- more rounds give the same answer
        have : ∀ n, manteletlaw11_few.f (800000 + n) l0 = some b' := by
          intro n
          induction n with
          | zero => exact hb'
          | succ n ih => exact manteletlaw11_few.mono l0 (800000 + n) b' ih
        have h3 := this (l0.length + 2 + l0.length + 1)
        rw [show 800000 + (l0.length + 2 + l0.length + 1) = 800000 + l0.length + 2 + l0.length + 1 by omega, hb] at h3
        exact h (Option.some.inj h3).symm
    refine ⟨800000, ?_⟩
    unfold manteletlaw11_LoserOrder.f
    rw [shown_f _ (by omega) (by omega), Option.bind_some, hb', Option.bind_some, e, h20, if_neg (by simp), manteletlaw11_LoserOrder.j0, if_pos rfl]
end Go.Proofs.Ytlngljddjlmkfaa.Pure
