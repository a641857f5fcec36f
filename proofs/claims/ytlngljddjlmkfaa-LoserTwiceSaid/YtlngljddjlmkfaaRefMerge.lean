/- Plain laws of merging: all of the reference's merging. -/
import Derived.Test.YtlngljddjlmkfaaRefLib
namespace Go.Proofs.Ytlngljddjlmkfaa.LoserLib
open Go.RowKit Go.Proofs.Ytlngljddjlmkfaa.PLoser Go.Proofs.YtlngljddjlmkfaaW.PrintWords Go.Proofs.YtlngljddjlmkfaaW.PrintLast Go.Proofs.YtlngljddjlmkfaaW.PrintMore
set_option linter.unusedVariables false
set_option linter.unusedSimpArgs false

theorem ref_l2 (E : List E1) (ls : List (List E1)) (i : Nat) (hi : i < ls.length) (hil : i ≤ 1000) (l : List E1) (hll : l.length ≤ 1000) (hl : ls[i] = l) (hlp : ∀ x ∈ l, fineS x) (hrest : ∀ l ∈ ls, ∀ x ∈ l, fineS x) (K : Nat) (N : Nat) (hN : N + 10 < K) (hN2 : N ≤ 100000)
    (h : ∀ k out, K < k → Ris out → Pos out → out.length + (ls.drop (i + 1)).flatten.length ≤ N → (∀ w, cnt out w + cnt (ls.drop (i + 1)).flatten w = cnt E w) → ∃ r, manteletref11_Merge.l1 k ls out ((i + 1 : Nat) : Int) = some r ∧ Res E r) :
    ∀ (d j k : Nat) (out : List E1), j + d = l.length → K + d + 1 < k → Ris out → Pos out → out.length + (l.drop j).length + (ls.drop (i + 1)).flatten.length ≤ N → (∀ w, cnt out w + cnt (l.drop j) w + cnt (ls.drop (i + 1)).flatten w = cnt E w) → ∃ r, manteletref11_Merge.l2 k ls out i j = some r ∧ Res E r := by
  have hrd : rd_L3 ls i = l := by rw [rdL_eq ls i hi, hl]
  intro d
  induction d with
  | zero =>
    intro j k out hj hk hr hp hlen hc
    obtain ⟨k, rfl⟩ : ∃ m, k = m + 1 := ⟨k - 1, by omega⟩
    rw [manteletref11_Merge.l2, if_pos (by omega), if_pos (by omega), hrd, if_neg (by omega), wr1 i (by omega)]
    rw [List.drop_of_length_le (by omega)] at hc hlen
    exact h k out (by omega) hr hp (by simp only [List.length_nil] at hlen; omega) (fun w => by have := hc w; rw [show cnt ([] : List E1) w = 0 from rfl] at this; omega)
  | succ d ih =>
    intro j k out hj hk hr hp hlen hc
    obtain ⟨k, rfl⟩ : ∃ m, k = m + 1 := ⟨k - 1, by omega⟩
    have hjl : j < l.length := by omega
    have hx := hlp l[j] (List.getElem_mem hjl)
    rw [List.drop_eq_getElem_cons hjl] at hc hlen
    rw [List.length_cons] at hlen
    obtain ⟨r, h1, h2⟩ := tab_f out hr hp (by omega) l[j] hx.2.2 (by have := hx.1; omega) k (by omega)
    rw [manteletref11_Merge.l2, if_pos (by omega), if_pos (by omega), hrd, if_pos (by omega), if_pos (by omega), rdT_eq l j hjl, h1, Option.bind_some]
    rcases h2 with ⟨g1, g2, g3, g4, g5, g6⟩ | ⟨g1, g2⟩
    · rw [if_pos g2, wr1 j (by omega)]
      refine ih (j + 1) k r.1 (by omega) (by omega) g3 g4 (by omega) (fun w => ?_)
      have a1 := hc w
      have a2 := g5 w
      have a3 : cnt [l[j]] w = (if key l[j] = w then l[j].f1 else 0) := by simp only [cnt]; split <;> omega
      rw [cnt] at a1
      omega
    · rw [if_neg (by omega)]
      refine ⟨_, rfl, .inr ⟨rfl, key l[j], ?_⟩⟩
      have a1 := hc (key l[j])
      rw [cnt, if_pos rfl] at a1
      have a2 : 0 ≤ cnt (l.drop (j + 1)) (key l[j]) := cnt_ge (fun x hx => (hlp x (List.mem_of_mem_drop hx)).2.2) _
      have a3 : 0 ≤ cnt (ls.drop (i + 1)).flatten (key l[j]) := cnt_ge (fun x hx => by
        obtain ⟨m, m1, m2⟩ := List.mem_flatten.1 hx
        exact (hrest m (List.mem_of_mem_drop m1) x m2).2.2) _
      omega
theorem ref_l1 (E : List E1) (ls : List (List E1)) (hl : ls.length ≤ 1000) (hlen : ∀ l ∈ ls, l.length ≤ 100) (hf : ∀ l ∈ ls, ∀ x ∈ l, fineS x) (N : Nat) (hN2 : N ≤ 100000) :
    ∀ (d i k : Nat) (out : List E1), i + d = ls.length → N + 200 * d + 20 < k → Ris out → Pos out → out.length + (ls.drop i).flatten.length ≤ N → (∀ w, cnt out w + cnt (ls.drop i).flatten w = cnt E w) → ∃ r, manteletref11_Merge.l1 k ls out i = some r ∧ Res E r := by
  intro d
  induction d with
  | zero =>
    intro i k out hi hk hr hp _ hc
    obtain ⟨k, rfl⟩ : ∃ m, k = m + 1 := ⟨k - 1, by omega⟩
    rw [manteletref11_Merge.l1, if_neg (by omega)]
    refine ⟨_, rfl, .inl ⟨rfl, hr, hp, fun w => ?_⟩⟩
    have := hc w
    rw [List.drop_of_length_le (by omega), List.flatten_nil] at this
    rw [show cnt ([] : List E1) w = 0 from rfl] at this
    show cnt out w = cnt E w
    omega
  | succ d ih =>
    intro i k out hi hk hr hp hn hc
    obtain ⟨k, rfl⟩ : ∃ m, k = m + 1 := ⟨k - 1, by omega⟩
    have hil : i < ls.length := by omega
    have hll := hlen ls[i] (List.getElem_mem hil)
    rw [List.drop_eq_getElem_cons hil, List.flatten_cons] at hc hn
    rw [List.length_append] at hn
    rw [manteletref11_Merge.l1, if_pos (by omega)]
    refine ref_l2 E ls i hil (by omega) ls[i] (by omega) rfl (hf _ (List.getElem_mem hil)) hf (N + 200 * d + 20) N (by omega) hN2 (fun k' out' hk' hr' hp' hn' hc' => ih (i + 1) k' out' (by omega) hk' hr' hp' hn' hc') ls[i].length 0 k out (by omega) (by omega) hr hp (by rw [List.drop_zero]; omega) (fun w => ?_)
    rw [List.drop_zero]
    have := hc w
    rw [cnt_append] at this
    omega
theorem ref_l0 (ls : List (List E1)) (hl : ls.length ≤ 1000) (hlen : ∀ l ∈ ls, l.length ≤ 100) (hN : ls.flatten.length ≤ 100000) : ∀ (d i k : Nat), i + d = ls.length → 600000 + d < k → (∀ l ∈ ls.take i, mayS l = 0) →
    ∃ r, manteletref11_Merge.l0 k ls i = some r ∧ (badS (ls.drop i) = 0 → Res ls.flatten r) ∧ (badS (ls.drop i) ≠ 0 → r = ([], badS (ls.drop i))) := by
  intro d
  induction d with
  | zero =>
    intro i k hi hk h
    obtain ⟨k, rfl⟩ : ∃ m, k = m + 1 := ⟨k - 1, by omega⟩
    rw [List.take_of_length_le (by omega)] at h
    have hd : ls.drop i = [] := List.drop_of_length_le (by omega)
    rw [manteletref11_Merge.l0, if_neg (by omega), hd]
    obtain ⟨r, h1, h2⟩ := ref_l1 ls.flatten ls hl hlen (fun l hlm => (mayS_zero (h l hlm)).1) ls.flatten.length hN ls.length 0 k [] (by omega) (by omega) List.Pairwise.nil (fun x hx => by simp at hx) (by simp) (fun w => by rw [List.drop_zero, show cnt ([] : List E1) w = 0 from rfl]; omega)
    exact ⟨r, h1, fun _ => h2, fun h => absurd rfl h⟩
  | succ d ih =>
    intro i k hi hk h
    obtain ⟨k, rfl⟩ : ∃ m, k = m + 1 := ⟨k - 1, by omega⟩
    have hil : i < ls.length := by omega
    have hll := hlen ls[i] (List.getElem_mem hil)
    rw [manteletref11_Merge.l0, if_pos (by omega), if_pos (by omega), rdL_eq ls i hil, ref_may_f k ls[i] (by omega) (by omega), Option.bind_some, List.drop_eq_getElem_cons hil]
    by_cases hb : mayS ls[i] = 0
    · have e : badS (ls[i] :: ls.drop (i + 1)) = badS (ls.drop (i + 1)) := by
        unfold badS
        rw [List.map_cons, List.find?_cons_of_neg (by simpa using hb)]
      rw [if_pos hb, wr1 i (by omega), e]
      refine ih (i + 1) k (by omega) (by omega) (fun l hlm => ?_)
      rw [List.take_add_one, List.getElem?_eq_getElem hil] at hlm
      rcases List.mem_append.1 hlm with hlm | hlm
      · exact h l hlm
      · have : l = ls[i] := by simpa using hlm
        rw [this]; exact hb
    · have e : badS (ls[i] :: ls.drop (i + 1)) = mayS ls[i] := by
        unfold badS
        rw [List.map_cons, List.find?_cons_of_pos (by simpa using hb)]
        rfl
      rw [if_neg hb, e]
      exact ⟨_, rfl, fun h => absurd h hb, fun _ => rfl⟩
theorem refmerge_f (k : Nat) (ls : List (List E1)) (hl : ls.length ≤ 256) (hlen : ∀ l ∈ ls, l.length ≤ 100) (hN : ls.flatten.length ≤ 100000) (hk : 650000 < k) :
    ∃ r, manteletref11_Merge.f k ls = some r ∧ (badS ls = 0 → Res ls.flatten r) ∧ (badS ls ≠ 0 → r = ([], badS ls)) := by
  unfold manteletref11_Merge.f
  rw [if_neg (by omega)]
  exact ref_l0 ls (by omega) hlen hN ls.length 0 k (by omega) (by omega) (fun l hl => by simp at hl)
/-- What is told may be. -/
theorem res_may {E : List E1} {r : List E1 × Int} (h : Res E r) (h0 : r.2 = 0) (hf : ∀ x ∈ E, fineS x) : mayS r.1 = 0 ∧ (∀ w, cnt r.1 w = cnt E w) ∧ ∀ w, cnt E w ≤ MAXC := by
  rcases h with ⟨_, h1, h2, h3⟩ | ⟨h, _⟩
  · refine ⟨?_, h3, fun w => by rw [← h3]; exact cnt_small h1 h2 w⟩
    unfold mayS
    rw [if_pos (fun x hx => ?_), if_pos (ris_rises h1)]
    have hp := h2 x hx
    obtain ⟨y, hy, hk⟩ := cnt_has (E := E) (w := key x) (by rw [← h3]; have := cnt_mem h2 hx; omega)
    have e : y.f0 = x.f0 := toList_inj.1 hk
    have hy' := hf y hy
    unfold fineS at hy' ⊢
    rw [e] at hy'
    exact ⟨hy'.1, hy'.2.1, hp.1, hp.2⟩
  · rw [h] at h0
    exact absurd h0 (by simp)
theorem res_ok {E : List E1} {r : List E1 × Int} (h : Res E r) (hs : ∀ w, cnt E w ≤ MAXC) : r.2 = 0 := by
  rcases h with h | ⟨_, w, h⟩
  · exact h.1
  · have := hs w
    omega
theorem badS_of {ls : List (List E1)} (h : ∀ l ∈ ls, mayS l = 0) : badS ls = 0 := by
  unfold badS
  rw [List.find?_eq_none.2 (fun v hv => by
    obtain ⟨l, hl, rfl⟩ := List.mem_map.1 hv
    simpa using h l hl)]
  rfl
theorem flat_fine {ls : List (List E1)} (h : ∀ l ∈ ls, mayS l = 0) : ∀ x ∈ ls.flatten, fineS x := fun x hx => by
  obtain ⟨l, h1, h2⟩ := List.mem_flatten.1 hx
  exact (mayS_zero (h l h1)).1 x h2
end Go.Proofs.Ytlngljddjlmkfaa.LoserLib
