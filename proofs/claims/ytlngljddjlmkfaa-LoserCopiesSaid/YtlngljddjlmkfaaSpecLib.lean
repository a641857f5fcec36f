/- Plain laws of merged lists: how often words stand, and which list says so. -/
import Derived.Test.YtlngljddjlmkfaaTreeLib
namespace Go.Proofs.Ytlngljddjlmkfaa.LoserLib
open Go.RowKit Go.Proofs.Ytlngljddjlmkfaa.PLs Go.Proofs.YtlngljddjlmkfaaW.PrintWords Go.Proofs.YtlngljddjlmkfaaW.PrintLast Go.Proofs.YtlngljddjlmkfaaW.PrintMore
set_option linter.unusedVariables false
set_option linter.unusedSimpArgs false

abbrev MAXC : Int := 4611686018427387904
/-- A word's counts, together. -/
def cnt : List E1 → List UInt8 → Int
  | [], _ => 0
  | x :: l, w => (if key x = w then x.f1 else 0) + cnt l w
def Ris (l : List E1) : Prop := l.Pairwise (fun a b => Op.bytesLess (key a) (key b) = true)
def Pos (l : List E1) : Prop := ∀ x ∈ l, 1 ≤ x.f1 ∧ x.f1 ≤ MAXC
theorem cnt_append (a b : List E1) (w : List UInt8) : cnt (a ++ b) w = cnt a w + cnt b w := by
  induction a with
  | nil => simp [cnt]
  | cons x a ih => rw [List.cons_append, cnt, cnt, ih]; omega
theorem cnt_ge {l : List E1} (h : Pos l) (w : List UInt8) : 0 ≤ cnt l w := by
  induction l with
  | nil => simp [cnt]
  | cons x l ih =>
    have h1 := h x List.mem_cons_self
    have h2 := ih (fun y hy => h y (List.mem_cons_of_mem _ hy))
    rw [cnt]
    split <;> omega
theorem cnt_mem {l : List E1} (h : Pos l) {x : E1} (hx : x ∈ l) : x.f1 ≤ cnt l (key x) := by
  induction l with
  | nil => simp at hx
  | cons y l ih =>
    have hp : Pos l := fun z hz => h z (List.mem_cons_of_mem _ hz)
    have h2 := cnt_ge hp (key x)
    rw [cnt]
    rcases List.mem_cons.1 hx with rfl | hx
    · rw [if_pos rfl]; omega
    · have h3 := ih hp hx
      have h1 := h y List.mem_cons_self
      split <;> omega
theorem cnt_none {l : List E1} {w : List UInt8} (h : ∀ x ∈ l, key x ≠ w) : cnt l w = 0 := by
  induction l with
  | nil => rfl
  | cons x l ih => rw [cnt, if_neg (h x List.mem_cons_self), ih (fun y hy => h y (List.mem_cons_of_mem _ hy))]; rfl
theorem cnt_one {l : List E1} (hr : Ris l) {x : E1} (hx : x ∈ l) : cnt l (key x) = x.f1 := by
  induction l with
  | nil => simp at hx
  | cons y l ih =>
    have hr' := List.pairwise_cons.1 hr
    rw [cnt]
    rcases List.mem_cons.1 hx with rfl | hx
    · rw [if_pos rfl, cnt_none (fun z hz e => by have := hr'.1 z hz; rw [e, bl_irrefl] at this; simp at this)]
      omega
    · rw [if_neg (fun e => by have := hr'.1 x hx; rw [e, bl_irrefl] at this; simp at this), ih hr'.2 hx]
      omega
/-- In a list that rises a word's count is that of its entry, or nothing. -/
theorem cnt_small {l : List E1} (hr : Ris l) (hp : Pos l) (w : List UInt8) : cnt l w ≤ MAXC := by
  by_cases h : ∃ x ∈ l, key x = w
  · obtain ⟨x, hx, rfl⟩ := h
    rw [cnt_one hr hx]
    exact (hp x hx).2
  · rw [cnt_none (fun x hx e => h ⟨x, hx, e⟩)]
    decide
theorem entry_ext {x y : E1} (h1 : key x = key y) (h2 : x.f1 = y.f1) : x = y := by
  cases x; cases y
  have := toList_inj.1 h1
  simp only at this h2
  rw [this, h2]
/-- Two lists that rise, with the same counts, are the same. -/
theorem ris_same : ∀ {a b : List E1}, Ris a → Ris b → Pos a → Pos b → (∀ w, cnt a w = cnt b w) → a = b
  | [], [], _, _, _, _, _ => rfl
  | [], y :: b, _, _, _, hb, h => by
    have h1 := cnt_mem hb (List.mem_cons_self (a := y) (l := b))
    have h2 := (hb y List.mem_cons_self).1
    have h3 := h (key y)
    rw [cnt] at h3
    omega
  | x :: a, [], _, _, ha, _, h => by
    have h1 := cnt_mem ha (List.mem_cons_self (a := x) (l := a))
    have h2 := (ha x List.mem_cons_self).1
    have h3 := h (key x)
    rw [show cnt [] (key x) = 0 from rfl] at h3
    omega
  | x :: a, y :: b, ra, rb, pa, pb, h => by
    have ra' := List.pairwise_cons.1 ra
    have rb' := List.pairwise_cons.1 rb
    have hx := h (key x)
    have hy := h (key y)
    have k1 := cnt_mem pa (List.mem_cons_self (a := x) (l := a))
    have k2 := (pa x List.mem_cons_self).1
    have k3 := cnt_mem pb (List.mem_cons_self (a := y) (l := b))
    have k4 := (pb y List.mem_cons_self).1
    have hk : key x = key y := by
      cases h1 : Op.bytesLess (key x) (key y) with
      | true =>
        have : cnt (y :: b) (key x) = 0 := cnt_none (fun z hz e => by
          rcases List.mem_cons.1 hz with rfl | hz
          · rw [e, bl_irrefl] at h1; simp at h1
          · have := bl_trans _ _ _ h1 (rb'.1 z hz)
            rw [e, bl_irrefl] at this; simp at this)
        omega
      | false =>
        cases h2 : Op.bytesLess (key y) (key x) with
        | true =>
          have : cnt (x :: a) (key y) = 0 := cnt_none (fun z hz e => by
            rcases List.mem_cons.1 hz with rfl | hz
            · rw [e, bl_irrefl] at h2; simp at h2
            · have := bl_trans _ _ _ h2 (ra'.1 z hz)
              rw [e, bl_irrefl] at this; simp at this)
          omega
        | false => exact bl_tri _ _ h1 h2
    have e1 := cnt_one ra (List.mem_cons_self (a := x) (l := a))
    have e2 := cnt_one rb (List.mem_cons_self (a := y) (l := b))
    rw [← hk] at e2
    have hxy : x = y := entry_ext hk (by omega)
    subst hxy
    have := ris_same ra'.2 rb'.2 (fun z hz => pa z (List.mem_cons_of_mem _ hz)) (fun z hz => pb z (List.mem_cons_of_mem _ hz)) (fun w => by
      have := h w
      rw [cnt, cnt] at this
      omega)
    rw [this]
/-- What is told of all entries: their words, each once, with its counts together; or that a word's are too many. -/
def Res (E : List E1) (r : List E1 × Int) : Prop :=
  (r.2 = 0 ∧ Ris r.1 ∧ Pos r.1 ∧ ∀ w, cnt r.1 w = cnt E w) ∨ (r = ([], 5) ∧ ∃ w, MAXC < cnt E w)
theorem res_same {E E' : List E1} {r r' : List E1 × Int} (h : Res E r) (h' : Res E' r') (he : ∀ w, cnt E w = cnt E' w) : r = r' := by
  rcases h with ⟨h1, h2, h3, h4⟩ | ⟨h1, w, h2⟩
  · rcases h' with ⟨g1, g2, g3, g4⟩ | ⟨g1, w, g2⟩
    · have := ris_same h2 g2 h3 g3 (fun w => by rw [h4, g4, he])
      exact Prod.ext this (h1.trans g1.symm)
    · have := cnt_small h2 h3 w
      rw [h4, he] at this
      omega
  · rcases h' with ⟨g1, g2, g3, g4⟩ | ⟨g1, _⟩
    · have := cnt_small g2 g3 w
      rw [g4, ← he] at this
      omega
    · rw [h1, g1]
theorem add_f (a b : Int) (ha : 0 ≤ a ∧ a ≤ MAXC) (hb : 0 ≤ b ∧ b ≤ MAXC) : num_Add.f a b = some (if a + b ≤ MAXC then (a + b, true) else (0, false)) := by
  have hM : MAXC = 4611686018427387904 := rfl
  rw [hM] at ha hb ⊢
  unfold num_Add.f
  have w1 : IntKind.u64.wrap (4611686018427387904 - a) = 4611686018427387904 - a := by simp only [IntKind.wrap, IntKind.bits, IntKind.signed]; simp; omega
  rw [if_neg (by omega), w1]
  by_cases h : a + b ≤ 4611686018427387904
  · have w2 : IntKind.u64.wrap (a + b) = a + b := by simp only [IntKind.wrap, IntKind.bits, IntKind.signed]; simp; omega
    rw [if_neg (by omega), if_pos h, w2]
  · rw [if_pos (by omega), if_neg h]
theorem rises_ris : ∀ {l : List E1}, rises l = true → Ris l
  | [], _ => List.Pairwise.nil
  | [x], _ => List.pairwise_singleton _ _
  | x :: y :: l, h => by
    rw [rises, Bool.and_eq_true] at h
    have ih := rises_ris h.2
    refine List.pairwise_cons.2 ⟨fun z hz => ?_, ih⟩
    rcases List.mem_cons.1 hz with rfl | hz
    · exact h.1
    · exact bl_trans _ _ _ h.1 ((List.pairwise_cons.1 ih).1 z hz)
theorem ris_rises : ∀ {l : List E1}, Ris l → rises l = true
  | [], _ => rfl
  | [x], _ => rfl
  | x :: y :: l, h => by
    have h' := List.pairwise_cons.1 h
    rw [rises, Bool.and_eq_true]
    exact ⟨h'.1 y List.mem_cons_self, ris_rises h'.2⟩
theorem may_ris {l : List E1} (h : mayS l = 0) : Ris l ∧ Pos l := by
  obtain ⟨h1, h2⟩ := mayS_zero h
  exact ⟨rises_ris h2, fun x hx => (h1 x hx).2.2⟩
/-- A list that rises has no more entries than all that its counts come of. -/
theorem ris_len_le : ∀ (l E : List E1), Ris l → Pos l → (∀ w, 0 < cnt l w → ∃ x ∈ E, key x = w) → l.length ≤ E.length
  | [], E, _, _, _ => by simp
  | x :: l, E, hr, hp, h => by
    have hr' := List.pairwise_cons.1 hr
    have hx := hp x List.mem_cons_self
    obtain ⟨y, hy, hk⟩ := h (key x) (by have := cnt_mem hp (List.mem_cons_self (a := x) (l := l)); omega)
    have hp' : Pos l := fun z hz => hp z (List.mem_cons_of_mem _ hz)
    have := ris_len_le l (E.filter (fun z => decide (key z ≠ key x))) hr'.2 hp' (fun w hw => by
      have hne : w ≠ key x := fun e => by
        rw [e, cnt_none (fun z hz q => by have := hr'.1 z hz; rw [q, bl_irrefl] at this; simp at this)] at hw
        omega
      obtain ⟨z, hz, hzk⟩ := h w (by rw [cnt]; split <;> omega)
      exact ⟨z, List.mem_filter.2 ⟨hz, by rw [hzk]; exact decide_eq_true hne⟩, hzk⟩)
    have hlt : (E.filter (fun z => decide (key z ≠ key x))).length < E.length := by
      rcases Nat.lt_or_ge (E.filter (fun z => decide (key z ≠ key x))).length E.length with h | h
      · exact h
      · have := (List.filter_sublist (p := fun z => decide (key z ≠ key x)) (l := E)).eq_of_length_le h
        rw [← this] at hy
        have := (List.mem_filter.1 hy).2
        simp [hk] at this
    rw [List.length_cons]
    omega
theorem cnt_has : ∀ {E : List E1} {w : List UInt8}, 0 < cnt E w → ∃ x ∈ E, key x = w
  | [], w, h => by simp [cnt] at h
  | x :: E, w, h => by
    rw [cnt] at h
    by_cases hk : key x = w
    · exact ⟨x, List.mem_cons_self, hk⟩
    · rw [if_neg hk] at h
      obtain ⟨y, hy, hyk⟩ := cnt_has (E := E) (w := w) (by omega)
      exact ⟨y, List.mem_cons_of_mem _ hy, hyk⟩
theorem ris_len {l E : List E1} (hr : Ris l) (hp : Pos l) (h : ∀ w, cnt l w = cnt E w) {n : Nat} (hE : E.length < n) : l.length < n := by
  have := ris_len_le l E hr hp (fun w hw => cnt_has (by rw [← h]; exact hw))
  omega
end Go.Proofs.Ytlngljddjlmkfaa.LoserLib
