/- Plain laws of runs: texts as numbers, which entries may be, what they share. -/
import Derived.Test.YtmfngihgoanhpaaFrameScan
namespace Go.Proofs.Ytmfngihgoanhpaa.RunLib
open Go.RowKit Go.Proofs.Ytmfngihgoanhpaa.PRun Go.Proofs.YtmfngihgoanhpaaW.PrintWords Go.Proofs.YtmfngihgoanhpaaW.PrintLast Go.Proofs.YtmfngihgoanhpaaW.PrintMore Go.Proofs.Ytmfngihgoanhpaa.NumLib Go.Proofs.Ytmfngihgoanhpaa.FrameLib
set_option linter.unusedVariables false
set_option linter.unusedSimpArgs false

theorem toList_data (s : ByteArray) : s.toList = s.data.toList := by
  cases s
  exact ByteArray.toList_mk _
theorem bytesOf_len (s : ByteArray) : (bytesOf s).length = s.size := by
  unfold bytesOf
  rw [List.length_map, Array.length_toList]
  rfl
theorem bytesOf_bytes (s : ByteArray) : Bytes (bytesOf s) := fun x hx => by
  unfold bytesOf at hx
  obtain ⟨b, _, rfl⟩ := List.mem_map.1 hx
  have := b.toNat_lt
  omega
theorem str_bytesOf (s : ByteArray) : strOfNums (bytesOf s) = s := by
  cases s with
  | mk d =>
    unfold strOfNums bytesOf
    congr 1
    rw [List.map_map]
    have : ((fun n : Int => UInt8.ofNat n.toNat) ∘ fun b : UInt8 => (b.toNat : Int)) = id := by
      funext b
      simp
    rw [this, List.map_id]
theorem bytesOf_str (l : List Int) (h : Bytes l) : bytesOf (strOfNums l) = l := by
  unfold strOfNums bytesOf
  simp only [List.map_map]
  have : ∀ x ∈ l, ((fun b : UInt8 => (b.toNat : Int)) ∘ fun n : Int => UInt8.ofNat n.toNat) x = x := fun x hx => by
    have := h x hx
    simp only [Function.comp, UInt8.toNat_ofNat']
    omega
  rw [List.map_congr_left this]
  simp
theorem bytesOf_inj {a b : ByteArray} (h : bytesOf a = bytesOf b) : a = b := by
  rw [← str_bytesOf a, h, str_bytesOf]
theorem bytesOf_append (a b : ByteArray) : bytesOf (a ++ b) = bytesOf a ++ bytesOf b := by
  unfold bytesOf
  rw [ByteArray.data_append, Array.toList_append, List.map_append]
theorem bytesOf_tail (s : ByteArray) (n : Nat) : bytesOf (s.extract n s.size) = (bytesOf s).drop n := by
  unfold bytesOf
  rw [ByteArray.data_extract, Array.toList_extract, List.extract_eq_take_drop, ← List.map_drop]
  congr 1
  apply List.take_of_length_le
  rw [List.length_drop, Array.length_toList]
  exact Nat.le_refl _
theorem bytesOf_head (s : ByteArray) (n : Nat) : bytesOf (s.extract 0 n) = (bytesOf s).take n := by
  unfold bytesOf
  rw [ByteArray.data_extract, Array.toList_extract, List.extract_eq_take_drop, ← List.map_take, List.drop_zero, Nat.sub_zero]
theorem bt_eq (s : ByteArray) (i : Nat) (h : i < s.size) : bt s i = rd (bytesOf s) i := by
  have h' : i < s.data.toList.length := by rw [Array.length_toList]; exact h
  unfold bt rd bytesOf
  rw [Int.toNat_natCast, dif_pos h, List.getD_eq_getElem?_getD, List.getElem?_map, List.getElem?_eq_getElem h']
  simp
  rfl
theorem toList_inj {a b : ByteArray} : a.toList = b.toList ↔ a = b := by
  constructor
  · intro h
    rw [toList_data, toList_data] at h
    cases a; cases b
    congr 1
    exact Array.toList_inj.1 h
  · intro h; rw [h]
theorem toList_nil (a : ByteArray) : a.toList = ([] : List UInt8) ↔ a.size = 0 := by
  rw [toList_data]
  constructor
  · intro h
    have := congrArg List.length h
    simpa using this
  · intro h
    apply List.eq_nil_of_length_eq_zero
    simpa using h

/-! ### Which entries may be -/
def fineS (x : S44) : Prop := 1 ≤ x.f0.size ∧ x.f0.size ≤ 255 ∧ 1 ≤ x.f1 ∧ x.f1 ≤ 4611686018427387904
instance (x : S44) : Decidable (fineS x) := inferInstanceAs (Decidable (_ ∧ _))
def less (x y : S44) : Bool := Op.bytesLess x.f0.toList y.f0.toList
def rises : List S44 → Bool
  | x :: y :: l => less x y && rises (y :: l)
  | _ => true
def mayS (l : List S44) : Int := if ∀ x ∈ l, fineS x then (if rises l = true then 0 else 9) else 1

theorem rdT_eq (l : List S44) (i : Nat) (h : i < l.length) : rd_T44 l i = l[i] := by
  unfold rd_T44
  rw [Int.toNat_natCast, List.getD_eq_getElem?_getD, List.getElem?_eq_getElem h, Option.getD_some]
theorem fine_f (a : ByteArray) (c : Int) : run_fine.f a c = some (decide (fineS ⟨a, c⟩)) := by
  unfold run_fine.f fineS
  simp only [toList_nil]
  by_cases h1 : a.size = 0
  · rw [if_pos h1]
    simp [h1]
  · rw [if_neg h1]
    by_cases h2 : (a.size : Int) ≤ 255
    · rw [if_pos h2]
      by_cases h3 : c ≥ 1
      · rw [if_pos h3]
        have h4 : 1 ≤ a.size := by omega
        have h5 : a.size ≤ 255 := by omega
        have h6 : 1 ≤ c := h3
        simp [h4, h5, h6]
      · rw [if_neg h3]
        have h6 : ¬ 1 ≤ c := h3
        simp [h6]
    · rw [if_neg h2]
      have h5 : ¬ a.size ≤ 255 := by omega
      simp [h5]
theorem idx_l0 (l : List S44) (hl : l.length < 1000000000) (d : Nat) : ∀ (k i : Nat), d < k → i + d = l.length → ∃ r, api_Entry_43.l0 k l (l.length : Int) i = some r ∧ (r ≥ 0 ↔ ¬ ∀ x ∈ l.drop i, fineS x) := by
  induction d with
  | zero =>
    intro k i hk hi
    obtain ⟨k, rfl⟩ : ∃ m, k = m + 1 := ⟨k - 1, by omega⟩
    refine ⟨-1, by rw [api_Entry_43.l0, if_neg (by omega)], ?_⟩
    rw [List.drop_of_length_le (by omega)]
    simp
  | succ d ih =>
    intro k i hk hi
    obtain ⟨k, rfl⟩ : ∃ m, k = m + 1 := ⟨k - 1, by omega⟩
    have hw : wrap64 ((i : Int) + 1) = ((i + 1 : Nat) : Int) := by unfold wrap64; omega
    have hlt : i < l.length := by omega
    rw [api_Entry_43.l0, if_pos (by omega), if_pos (by omega), if_pos (by omega), rdT_eq l i hlt]
    unfold run_May_1.f
    rw [fine_f, Option.bind_some, Option.bind_some, hw]
    have hd : l.drop i = l[i] :: l.drop (i + 1) := List.drop_eq_getElem_cons hlt
    by_cases hf : fineS l[i]
    · obtain ⟨r, hr, h2⟩ := ih k (i + 1) (by omega) (by omega)
      rw [decide_eq_true (show fineS ⟨l[i].f0, l[i].f1⟩ from hf), if_neg (by decide)]
      refine ⟨r, hr, h2.trans ?_⟩
      rw [hd, List.forall_mem_cons]
      exact ⟨fun h h' => h h'.2, fun h h' => h ⟨hf, h'⟩⟩
    · rw [decide_eq_false (show ¬ fineS ⟨l[i].f0, l[i].f1⟩ from hf), if_pos (by decide)]
      exact ⟨i, rfl, fun _ h => hf (h _ (by rw [hd]; exact List.mem_cons_self)), fun _ => by omega⟩
theorem may_l0 (l : List S44) (hl : l.length < 1000000000) (d : Nat) : ∀ (k i : Nat), d < k → 1 ≤ i → i + d = max 1 l.length → run_May.l0 k l i = some (if rises (l.drop (i - 1)) = true then 0 else 9) := by
  induction d with
  | zero =>
    intro k i hk h1 hi
    obtain ⟨k, rfl⟩ : ∃ m, k = m + 1 := ⟨k - 1, by omega⟩
    rw [run_May.l0, if_neg (by omega)]
    have : rises (l.drop (i - 1)) = true := by
      have hlen : (l.drop (i - 1)).length ≤ 1 := by rw [List.length_drop]; omega
      match l.drop (i - 1), hlen with
      | [], _ => rfl
      | [_], _ => rfl
    rw [if_pos this]
  | succ d ih =>
    intro k i hk h1 hi
    obtain ⟨k, rfl⟩ : ∃ m, k = m + 1 := ⟨k - 1, by omega⟩
    have hw : wrap64 ((i : Int) + 1) = ((i + 1 : Nat) : Int) := by unfold wrap64; omega
    have hv : wrap64 ((i : Int) - 1) = ((i - 1 : Nat) : Int) := by unfold wrap64; omega
    have hlt : i < l.length := by omega
    rw [run_May.l0, if_pos (by omega), if_pos (by omega), hv, if_pos (by omega), if_pos (by omega), rdT_eq l i hlt, rdT_eq l (i - 1) (by omega), hw]
    have e : l.drop (i - 1) = l[i - 1] :: l[i] :: l.drop (i + 1) := by
      rw [List.drop_eq_getElem_cons (by omega)]
      congr 1
      rw [show i - 1 + 1 = i by omega, List.drop_eq_getElem_cons hlt]
    have e2 : l.drop (i + 1 - 1) = l[i] :: l.drop (i + 1) := by
      rw [show i + 1 - 1 = i by omega, List.drop_eq_getElem_cons hlt]
    have := ih k (i + 1) (by omega) (by omega) (by omega)
    rw [e2] at this
    rw [e, rises, this]
    unfold less
    by_cases hb : Op.bytesLess l[i - 1].f0.toList l[i].f0.toList = true
    · rw [if_pos hb, hb, Bool.true_and]
    · rw [if_neg hb]
      simp [hb]
theorem may_f (k : Nat) (l : List S44) (hl : l.length < 1000000000) (hk : l.length + 2 < k) : run_May.f k l = some (mayS l) := by
  obtain ⟨r, h1, h2⟩ := idx_l0 l hl l.length k 0 (by omega) (by omega)
  unfold run_May.f api_Entry_32.f api_Entry_43.f
  rw [Int.natCast_zero] at h1
  rw [h1, Option.bind_some, Option.bind_some]
  rw [List.drop_zero] at h2
  unfold mayS
  by_cases hf : ∀ x ∈ l, fineS x
  · rw [if_pos hf, decide_eq_false (fun h => h2.1 h hf), if_neg (by decide)]
    have := may_l0 l hl (max 1 l.length - 1) k 1 (by omega) (by omega) (by omega)
    exact this
  · rw [if_neg hf, decide_eq_true (h2.2 hf), if_pos rfl]
theorem mayS_cases (l : List S44) : mayS l = 0 ∨ mayS l = 1 ∨ mayS l = 9 := by
  unfold mayS
  split
  · split <;> simp
  · simp
theorem mayS_zero {l : List S44} (h : mayS l = 0) : (∀ x ∈ l, fineS x) ∧ rises l = true := by
  unfold mayS at h
  by_cases hf : ∀ x ∈ l, fineS x
  · rw [if_pos hf] at h
    by_cases hr : rises l = true
    · exact ⟨hf, hr⟩
    · rw [if_neg hr] at h; simp at h
  · rw [if_neg hf] at h; simp at h

/-! ### Few, the same -/
theorem few_l0 (l : List S44) (d : Nat) : ∀ (k i : Nat), 2 * d + 2 < k → i ≤ 201 → i ≤ l.length → i + d = min 201 l.length → ∃ b, manteletlaw09_few.l0 k l i = some b ∧ (b = true → l.length ≤ 200) := by
  induction d with
  | zero =>
    intro k i hk h1 h2 hi
    obtain ⟨k, rfl⟩ : ∃ m, k = m + 2 := ⟨k - 2, by omega⟩
    refine ⟨decide ((l.length : Int) ≤ 200), ?_, fun h => by have := of_decide_eq_true h; omega⟩
    rw [manteletlaw09_few.l0]
    by_cases h : (i : Int) < (l.length : Int)
    · rw [if_pos h, decide_eq_false (by omega), manteletlaw09_few.j1, if_neg (by decide)]
    · rw [if_neg h, manteletlaw09_few.j1, if_neg (by decide)]
  | succ d ih =>
    intro k i hk h1 h2 hi
    obtain ⟨k, rfl⟩ : ∃ m, k = m + 2 := ⟨k - 2, by omega⟩
    have hw : wrap64 ((i : Int) + 1) = ((i + 1 : Nat) : Int) := by unfold wrap64; omega
    rw [manteletlaw09_few.l0, if_pos (by omega), decide_eq_true (by omega), manteletlaw09_few.j1, if_pos rfl, if_pos (by omega), if_pos (by omega), hw]
    by_cases h3 : ((rd_T44 l i).f0.size : Int) > 300
    · rw [if_pos h3]
      exact ⟨false, rfl, fun h => by cases h⟩
    · rw [if_neg h3]
      exact ih k (i + 1) (by omega) (by omega) (by omega) (by omega)
theorem few_f (l : List S44) (k : Nat) (hk : 500 < k) : ∃ b, manteletlaw09_few.f k l = some b ∧ (b = true → l.length ≤ 200) :=
  few_l0 l (min 201 l.length) k 0 (by omega) (by omega) (by omega) (by omega)
theorem same_l0 (l : List S44) (hl : l.length < 1000000000) (d : Nat) : ∀ (k i : Nat), d < k → i + d = l.length → manteletref08_Same.l0 k l l i = some true := by
  induction d with
  | zero =>
    intro k i hk hi
    obtain ⟨k, rfl⟩ : ∃ m, k = m + 1 := ⟨k - 1, by omega⟩
    rw [manteletref08_Same.l0, if_neg (by omega)]
  | succ d ih =>
    intro k i hk hi
    obtain ⟨k, rfl⟩ : ∃ m, k = m + 1 := ⟨k - 1, by omega⟩
    have hw : wrap64 ((i : Int) + 1) = ((i + 1 : Nat) : Int) := by unfold wrap64; omega
    rw [manteletref08_Same.l0, if_pos (by omega), if_pos (by omega), if_pos (by omega), if_neg (by simp), hw]
    exact ih k (i + 1) (by omega) (by omega)
theorem same_f (l : List S44) (hl : l.length < 1000000000) (k : Nat) (hk : l.length < k) : manteletref08_Same.f k l l = some true := by
  unfold manteletref08_Same.f
  rw [if_pos rfl]
  exact same_l0 l hl l.length k 0 hk (by omega)

/-! ### What two texts share -/
def sh : List Int → List Int → Nat
  | x :: a, y :: b => if x = y then sh a b + 1 else 0
  | _, _ => 0
theorem sh_le : ∀ a b, sh a b ≤ a.length ∧ sh a b ≤ b.length
  | [], _ => by simp [sh]
  | _ :: _, [] => by simp [sh]
  | x :: a, y :: b => by
    have := sh_le a b
    rw [sh]
    split <;> simp <;> omega
theorem sh_take : ∀ a b : List Int, a.take (sh a b) = b.take (sh a b)
  | [], b => by simp [sh]
  | _ :: _, [] => by simp [sh]
  | x :: a, y :: b => by
    rw [sh]
    split
    · rename_i h
      rw [List.take_succ_cons, List.take_succ_cons, h, sh_take a b]
    · simp
theorem rd_bytes (s : ByteArray) (i : Nat) (h : i < s.size) : (bytesOf s).drop i = rd (bytesOf s) i :: (bytesOf s).drop (i + 1) := rd_drop _ _ (by rw [bytesOf_len]; exact h)
theorem shared_l0 (a b : ByteArray) (ha : a.size < 1000000000) (d : Nat) : ∀ (k i : Nat), d < k → i + d = min a.size b.size → run_shared.l0 k a b i = some ((i + sh ((bytesOf a).drop i) ((bytesOf b).drop i) : Nat) : Int) := by
  have hmn : mn (a.size : Int) (b.size : Int) = ((min a.size b.size : Nat) : Int) := by unfold mn; split <;> omega
  induction d with
  | zero =>
    intro k i hk hi
    obtain ⟨k, rfl⟩ : ∃ m, k = m + 1 := ⟨k - 1, by omega⟩
    rw [run_shared.l0, hmn, if_neg (by omega)]
    have : sh ((bytesOf a).drop i) ((bytesOf b).drop i) = 0 := by
      have h1 := (sh_le ((bytesOf a).drop i) ((bytesOf b).drop i))
      rw [List.length_drop, List.length_drop, bytesOf_len, bytesOf_len] at h1
      omega
    rw [this, Nat.add_zero]
  | succ d ih =>
    intro k i hk hi
    obtain ⟨k, rfl⟩ : ∃ m, k = m + 1 := ⟨k - 1, by omega⟩
    have hw : wrap64 ((i : Int) + 1) = ((i + 1 : Nat) : Int) := by unfold wrap64; omega
    rw [run_shared.l0, hmn, if_pos (by omega), if_pos (by omega), if_pos (by omega), if_pos (by omega), bt_eq a i (by omega), bt_eq b i (by omega), hw, rd_bytes a i (by omega), rd_bytes b i (by omega), sh]
    by_cases h : rd (bytesOf a) i = rd (bytesOf b) i
    · rw [if_pos h, if_pos h, ih k (i + 1) (by omega) (by omega)]
      congr 2
      omega
    · rw [if_neg h, if_neg h, Nat.add_zero]
theorem shared_f (a b : ByteArray) (ha : a.size < 1000000000) (k : Nat) (hk : a.size < k) : run_shared.f k a b = some ((sh (bytesOf a) (bytesOf b) : Nat) : Int) := by
  unfold run_shared.f
  have := shared_l0 a b ha (min a.size b.size) k 0 (by omega) (by omega)
  rw [List.drop_zero, List.drop_zero, Nat.zero_add] at this
  exact this
end Go.Proofs.Ytmfngihgoanhpaa.RunLib
