/- The example at the head of the statements on merging holds; which lists are few. -/
import Derived.Test.YtlngljddjlmkfaaMergeLib
namespace Go.Proofs.Ytlngljddjlmkfaa.LoserLib
open Go.RowKit Go.Proofs.Ytlngljddjlmkfaa.PLs Go.Proofs.YtlngljddjlmkfaaW.PrintWords Go.Proofs.YtlngljddjlmkfaaW.PrintLast Go.Proofs.YtlngljddjlmkfaaW.PrintMore
set_option linter.unusedVariables false
set_option linter.unusedSimpArgs false

theorem rdL_eq (l : List (List E1)) (i : Nat) (h : i < l.length) : rd_L3 l i = l[i] := by
  unfold rd_L3
  rw [Int.toNat_natCast, List.getD_eq_getElem?_getD, List.getElem?_eq_getElem h]
  rfl
theorem wr1 (i : Nat) (h : i ≤ 100000000) : wrap64 ((i : Int) + 1) = ((i + 1 : Nat) : Int) := by unfold wrap64; omega
def Few (l : List (List E1)) : Prop := l.length ≤ 20 ∧ ∀ x ∈ l, x.length ≤ 60
theorem few_l1 (l : List (List E1)) (i : Nat) (hi : i < l.length) (hs : (rd_L3 l i).length ≤ 60) (Q : Prop) (K : Nat) (h : ∀ k, K < k → ∃ b, manteletlaw11_few.l0 k l ((i + 1 : Nat) : Int) = some b ∧ (b = true → Q)) (hl : i ≤ 1000) :
    ∀ (d j k : Nat), j + d = (rd_L3 l i).length → K + d + 1 < k → ∃ b, manteletlaw11_few.l1 k l i j = some b ∧ (b = true → Q) := by
  intro d
  induction d with
  | zero =>
    intro j k hj hk
    obtain ⟨k, rfl⟩ : ∃ m, k = m + 1 := ⟨k - 1, by omega⟩
    rw [manteletlaw11_few.l1, if_pos (by omega), if_pos (by omega), if_neg (by omega), wr1 i (by omega)]
    exact h k (by omega)
  | succ d ih =>
    intro j k hj hk
    obtain ⟨k, rfl⟩ : ∃ m, k = m + 1 := ⟨k - 1, by omega⟩
    rw [manteletlaw11_few.l1, if_pos (by omega), if_pos (by omega), if_pos (by omega), if_pos (by omega), wr1 j (by omega)]
    split
    · exact ⟨false, rfl, fun h => by simp at h⟩
    · exact ih (j + 1) k (by omega) (by omega)
theorem few_l0 (l : List (List E1)) : ∀ (d i k : Nat), i + d = min 21 l.length → 70 * d + 10 < k → (∀ j (hj : j < l.length), j < i → l[j].length ≤ 60) → ∃ b, manteletlaw11_few.l0 k l i = some b ∧ (b = true → Few l) := by
  intro d
  induction d with
  | zero =>
    intro i k hi hk h
    obtain ⟨k, rfl⟩ : ∃ m, k = m + 2 := ⟨k - 2, by omega⟩
    have hfin : ∃ b, (some (decide ((l.length : Int) ≤ 20)) : Option Bool) = some b ∧ (b = true → Few l) := ⟨_, rfl, fun hb => by
      have hb := of_decide_eq_true hb
      refine ⟨by omega, fun x hx => ?_⟩
      obtain ⟨j, hj, rfl⟩ := List.getElem_of_mem hx
      exact h j hj (by omega)⟩
    rw [manteletlaw11_few.l0]
    by_cases hl : (i : Int) < (l.length : Int)
    · rw [if_pos hl, decide_eq_false (by omega), manteletlaw11_few.j1, if_neg (by simp)]
      exact hfin
    · rw [if_neg hl, manteletlaw11_few.j1, if_neg (by simp)]
      exact hfin
  | succ d ih =>
    intro i k hi hk h
    obtain ⟨k, rfl⟩ : ∃ m, k = m + 2 := ⟨k - 2, by omega⟩
    have hil : i < l.length := by omega
    have hlt : (i : Int) < 21 := by omega
    rw [manteletlaw11_few.l0, if_pos (by omega), decide_eq_true hlt, manteletlaw11_few.j1, if_pos rfl, if_pos (by omega), if_pos (by omega)]
    by_cases hs : ((rd_L3 l i).length : Int) > 60
    · rw [if_pos hs]
      exact ⟨false, rfl, fun h => by simp at h⟩
    · rw [if_neg hs]
      refine few_l1 l i hil (by omega) (Few l) (70 * d + 10) (fun k' hk' => ?_) (by omega) (rd_L3 l i).length 0 k (by omega) (by omega)
      refine ih (i + 1) k' (by omega) hk' (fun j hj hji => ?_)
      by_cases e : j = i
      · subst e
        rw [← rdL_eq l j hj]
        omega
      · exact h j hj (by omega)
theorem few_f (l : List (List E1)) (k : Nat) (hk : 1600 < k) : ∃ b, manteletlaw11_few.f k l = some b ∧ (b = true → Few l) :=
  few_l0 l (min 21 l.length) 0 k (by omega) (by omega) (fun j _ hj => by omega)
theorem few_flat {l : List (List E1)} (h : Few l) : l.flatten.length ≤ 1200 := by
  have : ∀ (l : List (List E1)), (∀ x ∈ l, x.length ≤ 60) → l.flatten.length ≤ 60 * l.length := by
    intro l
    induction l with
    | nil => intro _; simp
    | cons x l ih =>
      intro h
      have h1 := h x List.mem_cons_self
      have h2 := ih (fun y hy => h y (List.mem_cons_of_mem _ hy))
      rw [List.flatten_cons, List.length_append, List.length_cons]
      omega
  have h1 := this l h.2
  have h2 := h.1
  omega
def exA : List (List E1) := [[(⟨(⟨#[97]⟩ : ByteArray), 1⟩ : E1), (⟨(⟨#[98]⟩ : ByteArray), 2⟩ : E1)], [(⟨(⟨#[98]⟩ : ByteArray), 3⟩ : E1)]]
def exB : List E1 := [(⟨(⟨#[97]⟩ : ByteArray), 1⟩ : E1), (⟨(⟨#[98]⟩ : ByteArray), 5⟩ : E1)]
theorem ex_may : mayS exB = 0 := by decide +kernel
theorem ex_bad : badS exA = 0 := by decide +kernel
theorem shown_f (k : Nat) (hk : 200000 < k) (hk2 : k ≤ 900000) : manteletlaw11_shown.f k = some true := by
  obtain ⟨r, h1, h2, _⟩ := merge_f k exA (by decide) (fun l hl => by
    have : l = exA[0] ∨ l = exA[1] := by
      unfold exA at hl ⊢
      rcases List.mem_cons.1 hl with h | h
      · exact .inl h
      · exact .inr (List.mem_singleton.1 h)
    rcases this with h | h <;> rw [h] <;> decide) hk (by
      have : exA.flatten.length = 3 := rfl
      omega) hk2
  have hres := h2 ex_bad
  have hB : Res exA.flatten (exB, 0) := by
    obtain ⟨p1, p2⟩ := may_ris ex_may
    refine .inl ⟨rfl, p1, p2, fun w => ?_⟩
    unfold exA exB
    rw [List.flatten_cons, List.flatten_cons, List.flatten_nil, List.append_nil]
    show cnt [_, _] w = cnt [_, _, _] w
    simp only [cnt]
    have k1 : key (⟨(⟨#[98]⟩ : ByteArray), 5⟩ : E1) = key (⟨(⟨#[98]⟩ : ByteArray), 2⟩ : E1) := rfl
    have k2 : key (⟨(⟨#[98]⟩ : ByteArray), 3⟩ : E1) = key (⟨(⟨#[98]⟩ : ByteArray), 2⟩ : E1) := rfl
    have k3 : key (⟨(⟨#[97]⟩ : ByteArray), 1⟩ : E1) = key (⟨(⟨#[97]⟩ : ByteArray), 1⟩ : E1) := rfl
    rw [k1, k2]
    split <;> split <;> omega
  have e := res_same hres hB (fun _ => rfl)
  unfold manteletlaw11_shown.f
  show (loser_Merge.f k exA).bind _ = _
  rw [h1, Option.bind_some, e, if_pos rfl]
  show (manteletref08_Same.f k exB exB).bind _ = _
  rw [same_f exB (by decide) k (by
    have : exB.length = 2 := rfl
    omega)]
  rfl
/-- What is told may be. -/
theorem res_may {E : List E1} {r : List E1 × Int} (h : Res E r) (h0 : r.2 = 0) (hf : ∀ x ∈ E, fineS x) : mayS r.1 = 0 ∧ (∀ w, cnt r.1 w = cnt E w) ∧ ∀ w, cnt E w ≤ MAXC := by
  rcases h with ⟨_, h1, h2, h3⟩ | ⟨h, _⟩
  · refine ⟨?_, h3, fun w => by rw [← h3]; exact cnt_small h1 h2 w⟩
    unfold mayS
    rw [if_pos (fun x hx => ?_), if_pos (ris_rises h1)]
    have hp := h2 x hx
    obtain ⟨y, hy, hk⟩ := cnt_has (E := E) (w := key x) (by rw [← h3]; have := cnt_mem h2 hx; omega)
    have e : y.f0 = x.f0 := toList_inj.1 hk
    have hy' := hf y hy
    unfold fineS at hy' ⊢
    rw [e] at hy'
    exact ⟨hy'.1, hy'.2.1, hp.1, hp.2⟩
  · rw [h] at h0
    exact absurd h0 (by simp)
theorem res_ok {E : List E1} {r : List E1 × Int} (h : Res E r) (hs : ∀ w, cnt E w ≤ MAXC) : r.2 = 0 := by
  rcases h with h | ⟨_, w, h⟩
  · exact h.1
  · have := hs w
    omega
theorem badS_of {ls : List (List E1)} (h : ∀ l ∈ ls, mayS l = 0) : badS ls = 0 := by
  unfold badS
  rw [List.find?_eq_none.2 (fun v hv => by
    obtain ⟨l, hl, rfl⟩ := List.mem_map.1 hv
    simpa using h l hl)]
  rfl
theorem flat_fine {ls : List (List E1)} (h : ∀ l ∈ ls, mayS l = 0) : ∀ x ∈ ls.flatten, fineS x := fun x hx => by
  obtain ⟨l, h1, h2⟩ := List.mem_flatten.1 hx
  exact (mayS_zero (h l h1)).1 x h2
end Go.Proofs.Ytlngljddjlmkfaa.LoserLib
