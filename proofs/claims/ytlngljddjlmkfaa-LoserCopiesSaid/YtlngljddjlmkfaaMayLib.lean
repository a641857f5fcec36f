/- Plain laws of entries: which may be; lists that are the same. -/
import Derived.Test.YtlngljddjlmkfaaPLsx4
namespace Go.Proofs.Ytlngljddjlmkfaa.LoserLib
open Go.RowKit Go.Proofs.Ytlngljddjlmkfaa.PLs Go.Proofs.YtlngljddjlmkfaaW.PrintWords Go.Proofs.YtlngljddjlmkfaaW.PrintLast Go.Proofs.YtlngljddjlmkfaaW.PrintMore
set_option linter.unusedVariables false
set_option linter.unusedSimpArgs false

theorem toList_data (s : ByteArray) : s.toList = s.data.toList := by
  cases s
  exact ByteArray.toList_mk _
theorem toList_inj {a b : ByteArray} : a.toList = b.toList ↔ a = b := by
  constructor
  · intro h
    rw [toList_data, toList_data] at h
    cases a; cases b
    congr 1
    exact Array.toList_inj.1 h
  · intro h; rw [h]
theorem toList_nil (a : ByteArray) : a.toList = ([] : List UInt8) ↔ a.size = 0 := by
  rw [toList_data]
  constructor
  · intro h
    have := congrArg List.length h
    simpa using this
  · intro h
    apply List.eq_nil_of_length_eq_zero
    simpa using h

/-! ### Which entries may be -/
def fineS (x : S37) : Prop := 1 ≤ x.f0.size ∧ x.f0.size ≤ 255 ∧ 1 ≤ x.f1 ∧ x.f1 ≤ 4611686018427387904
instance (x : S37) : Decidable (fineS x) := inferInstanceAs (Decidable (_ ∧ _))
def less (x y : S37) : Bool := Op.bytesLess x.f0.toList y.f0.toList
def rises : List S37 → Bool
  | x :: y :: l => less x y && rises (y :: l)
  | _ => true
def mayS (l : List S37) : Int := if ∀ x ∈ l, fineS x then (if rises l = true then 0 else 9) else 1

theorem rdT_eq (l : List S37) (i : Nat) (h : i < l.length) : rd_T37 l i = l[i] := by
  unfold rd_T37
  rw [Int.toNat_natCast, List.getD_eq_getElem?_getD, List.getElem?_eq_getElem h, Option.getD_some]
theorem fine_f (a : ByteArray) (c : Int) : run_fine.f a c = some (decide (fineS ⟨a, c⟩)) := by
  unfold run_fine.f fineS
  simp only [toList_nil]
  by_cases h1 : a.size = 0
  · rw [if_pos h1]
    simp [h1]
  · rw [if_neg h1]
    by_cases h2 : (a.size : Int) ≤ 255
    · rw [if_pos h2]
      by_cases h3 : c ≥ 1
      · rw [if_pos h3]
        have h4 : 1 ≤ a.size := by omega
        have h5 : a.size ≤ 255 := by omega
        have h6 : 1 ≤ c := h3
        simp [h4, h5, h6]
      · rw [if_neg h3]
        have h6 : ¬ 1 ≤ c := h3
        simp [h6]
    · rw [if_neg h2]
      have h5 : ¬ a.size ≤ 255 := by omega
      simp [h5]
theorem idx_l0 (l : List S37) (hl : l.length < 1000000000) (d : Nat) : ∀ (k i : Nat), d < k → i + d = l.length → ∃ r, api_Entry_27.l0 k l (l.length : Int) i = some r ∧ (r ≥ 0 ↔ ¬ ∀ x ∈ l.drop i, fineS x) := by
  induction d with
  | zero =>
    intro k i hk hi
    obtain ⟨k, rfl⟩ : ∃ m, k = m + 1 := ⟨k - 1, by omega⟩
    refine ⟨-1, by rw [api_Entry_27.l0, if_neg (by omega)], ?_⟩
    rw [List.drop_of_length_le (by omega)]
    simp
  | succ d ih =>
    intro k i hk hi
    obtain ⟨k, rfl⟩ : ∃ m, k = m + 1 := ⟨k - 1, by omega⟩
    have hw : wrap64 ((i : Int) + 1) = ((i + 1 : Nat) : Int) := by unfold wrap64; omega
    have hlt : i < l.length := by omega
    rw [api_Entry_27.l0, if_pos (by omega), if_pos (by omega), if_pos (by omega), rdT_eq l i hlt]
    unfold run_May_1.f
    rw [fine_f, Option.bind_some, Option.bind_some, hw]
    have hd : l.drop i = l[i] :: l.drop (i + 1) := List.drop_eq_getElem_cons hlt
    by_cases hf : fineS l[i]
    · obtain ⟨r, hr, h2⟩ := ih k (i + 1) (by omega) (by omega)
      rw [decide_eq_true (show fineS ⟨l[i].f0, l[i].f1⟩ from hf), if_neg (by decide)]
      refine ⟨r, hr, h2.trans ?_⟩
      rw [hd, List.forall_mem_cons]
      exact ⟨fun h h' => h h'.2, fun h h' => h ⟨hf, h'⟩⟩
    · rw [decide_eq_false (show ¬ fineS ⟨l[i].f0, l[i].f1⟩ from hf), if_pos (by decide)]
      exact ⟨i, rfl, fun _ h => hf (h _ (by rw [hd]; exact List.mem_cons_self)), fun _ => by omega⟩
theorem may_l0 (l : List S37) (hl : l.length < 1000000000) (d : Nat) : ∀ (k i : Nat), d < k → 1 ≤ i → i + d = max 1 l.length → run_May.l0 k l i = some (if rises (l.drop (i - 1)) = true then 0 else 9) := by
  induction d with
  | zero =>
    intro k i hk h1 hi
    obtain ⟨k, rfl⟩ : ∃ m, k = m + 1 := ⟨k - 1, by omega⟩
    rw [run_May.l0, if_neg (by omega)]
    have : rises (l.drop (i - 1)) = true := by
      have hlen : (l.drop (i - 1)).length ≤ 1 := by rw [List.length_drop]; omega
      match l.drop (i - 1), hlen with
      | [], _ => rfl
      | [_], _ => rfl
    rw [if_pos this]
  | succ d ih =>
    intro k i hk h1 hi
    obtain ⟨k, rfl⟩ : ∃ m, k = m + 1 := ⟨k - 1, by omega⟩
    have hw : wrap64 ((i : Int) + 1) = ((i + 1 : Nat) : Int) := by unfold wrap64; omega
    have hv : wrap64 ((i : Int) - 1) = ((i - 1 : Nat) : Int) := by unfold wrap64; omega
    have hlt : i < l.length := by omega
    rw [run_May.l0, if_pos (by omega), if_pos (by omega), hv, if_pos (by omega), if_pos (by omega), rdT_eq l i hlt, rdT_eq l (i - 1) (by omega), hw]
    have e : l.drop (i - 1) = l[i - 1] :: l[i] :: l.drop (i + 1) := by
      rw [List.drop_eq_getElem_cons (by omega)]
      congr 1
      rw [show i - 1 + 1 = i by omega, List.drop_eq_getElem_cons hlt]
    have e2 : l.drop (i + 1 - 1) = l[i] :: l.drop (i + 1) := by
      rw [show i + 1 - 1 = i by omega, List.drop_eq_getElem_cons hlt]
    have := ih k (i + 1) (by omega) (by omega) (by omega)
    rw [e2] at this
    rw [e, rises, this]
    unfold less
    by_cases hb : Op.bytesLess l[i - 1].f0.toList l[i].f0.toList = true
    · rw [if_pos hb, hb, Bool.true_and]
    · rw [if_neg hb]
      simp [hb]
theorem may_f (k : Nat) (l : List S37) (hl : l.length < 1000000000) (hk : l.length + 2 < k) : run_May.f k l = some (mayS l) := by
  obtain ⟨r, h1, h2⟩ := idx_l0 l hl l.length k 0 (by omega) (by omega)
  unfold run_May.f api_Entry_20.f api_Entry_27.f
  rw [Int.natCast_zero] at h1
  rw [h1, Option.bind_some, Option.bind_some]
  rw [List.drop_zero] at h2
  unfold mayS
  by_cases hf : ∀ x ∈ l, fineS x
  · rw [if_pos hf, decide_eq_false (fun h => h2.1 h hf), if_neg (by decide)]
    have := may_l0 l hl (max 1 l.length - 1) k 1 (by omega) (by omega) (by omega)
    exact this
  · rw [if_neg hf, decide_eq_true (h2.2 hf), if_pos rfl]
theorem mayS_cases (l : List S37) : mayS l = 0 ∨ mayS l = 1 ∨ mayS l = 9 := by
  unfold mayS
  split
  · split <;> simp
  · simp
theorem mayS_zero {l : List S37} (h : mayS l = 0) : (∀ x ∈ l, fineS x) ∧ rises l = true := by
  unfold mayS at h
  by_cases hf : ∀ x ∈ l, fineS x
  · rw [if_pos hf] at h
    by_cases hr : rises l = true
    · exact ⟨hf, hr⟩
    · rw [if_neg hr] at h; simp at h
  · rw [if_neg hf] at h; simp at h

theorem same_l0 (l : List S37) (hl : l.length < 1000000000) (d : Nat) : ∀ (k i : Nat), d < k → i + d = l.length → manteletref08_Same.l0 k l l i = some true := by
  induction d with
  | zero =>
    intro k i hk hi
    obtain ⟨k, rfl⟩ : ∃ m, k = m + 1 := ⟨k - 1, by omega⟩
    rw [manteletref08_Same.l0, if_neg (by omega)]
  | succ d ih =>
    intro k i hk hi
    obtain ⟨k, rfl⟩ : ∃ m, k = m + 1 := ⟨k - 1, by omega⟩
    have hw : wrap64 ((i : Int) + 1) = ((i + 1 : Nat) : Int) := by unfold wrap64; omega
    rw [manteletref08_Same.l0, if_pos (by omega), if_pos (by omega), if_pos (by omega), if_neg (by simp), hw]
    exact ih k (i + 1) (by omega) (by omega)
theorem same_f (l : List S37) (hl : l.length < 1000000000) (k : Nat) (hk : l.length < k) : manteletref08_Same.f k l l = some true := by
  unfold manteletref08_Same.f
  rw [if_pos rfl]
  exact same_l0 l hl l.length k 0 hk (by omega)

end Go.Proofs.Ytlngljddjlmkfaa.LoserLib
