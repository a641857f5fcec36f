/- Entries may be just if each may by itself, and each two that stand next to each other rise: for all entries. -/
import Derived.Test.YtmfngihgoanhpaaRunShown
import Derived.Test.YtmfngihgoanhpaaRunRow
import Derived.Test.YtmfngihgoanhpaaPRunx13
namespace Go.Proofs.Ytmfngihgoanhpaa.Pure
open Go.RowKit Go.Proofs.Ytmfngihgoanhpaa.PRun Go.Proofs.YtmfngihgoanhpaaW.PrintWords Go.Proofs.YtmfngihgoanhpaaW.PrintLast Go.Proofs.YtmfngihgoanhpaaW.PrintMore Go.Proofs.Ytmfngihgoanhpaa.NumLib Go.Proofs.Ytmfngihgoanhpaa.FrameLib Go.Proofs.Ytmfngihgoanhpaa.RunLib
set_option linter.unusedVariables false
set_option linter.unusedSimpArgs false

theorem rises_snoc : ∀ (a : List S44) (y z : S44), rises (a ++ [y, z]) = (rises (a ++ [y]) && less y z)
  | [], y, z => by simp [rises]
  | [x], y, z => by simp [rises]
  | x :: w :: a, y, z => by
    have := rises_snoc (w :: a) y z
    simp only [List.cons_append, rises] at this ⊢
    rw [this, Bool.and_assoc]
theorem rises_take (l : List S44) (i : Nat) (h1 : 1 ≤ i) (h : i < l.length) : rises (l.take (i + 1)) = (rises (l.take i) && less l[i - 1] l[i]) := by
  obtain ⟨j, rfl⟩ : ∃ j, i = j + 1 := ⟨i - 1, by omega⟩
  have e1 : l.take (j + 1) = l.take j ++ [l[j]] := by rw [List.take_succ_eq_append_getElem (by omega)]
  have e2 : l.take (j + 1 + 1) = l.take j ++ [l[j], l[j + 1]] := by rw [List.take_succ_eq_append_getElem h, e1, List.append_assoc]; rfl
  rw [e2, e1, rises_snoc]
  rfl
theorem may_one (x : S44) : (mayS [x] == 0) = decide (fineS x) := by
  unfold mayS
  by_cases h : fineS x
  · rw [if_pos (by simpa using h), if_pos (show rises [x] = true from rfl), decide_eq_true h]; rfl
  · rw [if_neg (by simpa using h), decide_eq_false h]; rfl
theorem may_fin (l : List S44) (one ris : Bool) (h1 : one = true ↔ ∀ x ∈ l, fineS x) (h2 : ris = true ↔ rises l = true) :
    (if one = true then (if ((mayS l == 0) == ris) = true then (if ((mayS l == 1) == (!one)) = true then (some ((mayS l == 9) == (!ris))) else (none)) else (none)) else (if ((mayS l == 0) == false) = true then (if ((mayS l == 1) == (!one)) = true then (some ((mayS l == 9) == false)) else (none)) else (none))) = some true := by
  unfold mayS
  cases one with
  | true =>
    have hf := h1.1 rfl
    rw [if_pos hf, if_pos rfl]
    cases ris with
    | true => rw [if_pos (show rises l = true from h2.1 rfl)]; rfl
    | false => rw [if_neg (show ¬ rises l = true from fun h => by have := h2.2 h; cases this)]; rfl
  | false =>
    have hf : ¬ ∀ x ∈ l, fineS x := fun h => by have := h1.2 h; cases this
    rw [if_neg hf, if_neg (by simp)]
    rfl
theorem may_l0 (l : List S44) (hl : l.length ≤ 200) (d : Nat) : ∀ (k i : Nat) (one ris : Bool), d + 1000 < k → i + d = l.length → (one = true ↔ ∀ x ∈ l.take i, fineS x) → (ris = true ↔ rises (l.take i) = true) →
    manteletlaw09_RunMay.l0 k l true one ris i = some true := by
  induction d with
  | zero =>
    intro k i one ris hk hi h1 h2
    obtain ⟨k, rfl⟩ : ∃ m, k = m + 1 := ⟨k - 1, by omega⟩
    rw [List.take_of_length_le (by omega)] at h1 h2
    rw [manteletlaw09_RunMay.l0, if_neg (by omega), RunLib.may_f k l (by omega) (by omega), Option.bind_some, if_pos rfl]
    exact may_fin l one ris h1 h2
  | succ d ih =>
    intro k i one ris hk hi h1 h2
    obtain ⟨k, rfl⟩ : ∃ m, k = m + 1 := ⟨k - 1, by omega⟩
    have hlt : i < l.length := by omega
    have hw : wrap64 ((i : Int) + 1) = ((i + 1 : Nat) : Int) := by unfold wrap64; omega
    have hcut : (l.take (i + 1)).drop i = [l[i]] := by
      rw [List.take_succ_eq_append_getElem hlt, List.drop_append_of_le_length (by rw [List.length_take]; omega), List.drop_of_length_le (by rw [List.length_take]; omega)]
      rfl
    have ht : ∀ x, x ∈ l.take (i + 1) ↔ x ∈ l.take i ∨ x = l[i] := fun x => by rw [List.take_succ_eq_append_getElem hlt, List.mem_append, List.mem_singleton]
    have hone : ∀ b : Bool, (b = true ↔ fineS l[i]) → one = true → (b = true ↔ ∀ x ∈ l.take (i + 1), fineS x) := by
      intro b hb ho
      rw [hb]
      exact ⟨fun hf x hx => by rcases (ht x).1 hx with h | h <;> first | exact h1.1 ho x h | exact h ▸ hf, fun h => h _ ((ht _).2 (.inr rfl))⟩
    have hone' : one = false → (false = true ↔ ∀ x ∈ l.take (i + 1), fineS x) := by
      intro ho
      refine ⟨(fun h => by cases h), fun h => ?_⟩
      have := h1.2 (fun x hx => h x ((ht x).2 (.inl hx)))
      rw [ho] at this
      exact this
    have hr0 : i = 0 → rises (l.take (i + 1)) = true := by
      intro h0
      subst h0
      rw [List.take_succ_eq_append_getElem hlt, List.take_zero]
      rfl
    have hrf : ris = false → (false = true ↔ rises (l.take (i + 1)) = true) := by
      intro hr
      refine ⟨(fun h => by cases h), fun h => ?_⟩
      by_cases h0 : i = 0
      · subst h0
        have := h2.2 (by rw [List.take_zero]; rfl)
        rw [hr] at this
        exact this
      · rw [rises_take l i (by omega) hlt] at h
        have := h2.2 (Bool.and_eq_true_iff.1 h).1
        rw [hr] at this
        exact this
    have hrt : ris = true → 1 ≤ i → (less l[i - 1] l[i] = true ↔ rises (l.take (i + 1)) = true) := by
      intro hr h0
      rw [rises_take l i h0 hlt, h2.1 hr, Bool.true_and]
    have hpair : ∀ b : Bool, (b = true ↔ ∀ x ∈ l.take (i + 1), fineS x) →
        (if ris = true then (if (i : Int) = 0 then manteletlaw09_RunMay.l0 k l true b true ((i + 1 : Nat) : Int) else (if 0 ≤ wrap64 ((i : Int) - 1) then (if wrap64 ((i : Int) - 1) < (l.length : Int) then manteletlaw09_RunMay.l0 k l true b (Op.bytesLess (((rd_T44 l (wrap64 ((i : Int) - 1))).f0).toList) (((rd_T44 l (i : Int)).f0).toList)) ((i + 1 : Nat) : Int) else none) else none)) else manteletlaw09_RunMay.l0 k l true b false ((i + 1 : Nat) : Int)) = some true := by
      intro b hb
      cases ris with
      | false =>
        rw [if_neg (by simp)]
        exact ih k (i + 1) b false (by omega) (by omega) hb (hrf rfl)
      | true =>
        rw [if_pos rfl]
        by_cases h0 : i = 0
        · rw [if_pos (by omega)]
          exact ih k (i + 1) b true (by omega) (by omega) hb ⟨fun _ => hr0 h0, fun _ => rfl⟩
        · have hv : wrap64 ((i : Int) - 1) = ((i - 1 : Nat) : Int) := by unfold wrap64; omega
          rw [if_neg (by omega), hv, if_pos (by omega), if_pos (by omega), rdT_eq l i hlt, rdT_eq l (i - 1) (by omega)]
          exact ih k (i + 1) b _ (by omega) (by omega) hb (hrt rfl (by omega))
    rw [manteletlaw09_RunMay.l0, if_pos (by omega), hw]
    cases one with
    | true =>
      rw [if_pos rfl, if_pos (by omega), if_pos (by omega), if_pos (by omega), Int.toNat_natCast, Int.toNat_natCast, hcut, RunLib.may_f k [l[i]] (by simp) (by simp; omega), Option.bind_some, may_one]
      exact hpair _ (hone _ ⟨fun h => of_decide_eq_true h, fun h => decide_eq_true h⟩ rfl)
    | false =>
      rw [if_neg (by simp)]
      have := hpair false (hone' rfl)
      rw [if_pos (show (0 : Int) ≤ (i : Int) by omega)]
      exact this
theorem RunMay (l0 : List S44) (w0 : l0.length ≤ maxLen ∧ ∀ x ∈ l0, x.f0.size ≤ maxLen ∧ (Lit.int .u64 x.f1).wf = true) : ∃ k, manteletlaw09_RunMay.f k l0 = some true := by
  refine ⟨600000, ?_⟩
  obtain ⟨b, hb, h2⟩ := few_f l0 600000 (by omega)
  unfold manteletlaw09_RunMay.f
  rw [shown_f 600000 (by omega), Option.bind_some, hb, Option.bind_some]
  cases b with
  | false => rw [if_neg (by simp)]
  | true =>
    rw [if_pos rfl]
    exact may_l0 l0 (h2 rfl) l0.length 600000 0 true true (by have := h2 rfl; omega) (by omega) ⟨fun _ x hx => by simp at hx, fun _ => rfl⟩ ⟨fun _ => by rw [List.take_zero]; rfl, fun _ => rfl⟩
end Go.Proofs.Ytmfngihgoanhpaa.Pure
