/- Plain laws of the tree of losers: at its top stands a list that no other list is ahead of. -/
import Derived.Test.YtlngljddjlmkfaaMayLib
namespace Go.Proofs.Ytlngljddjlmkfaa.LoserLib
open Go.RowKit Go.Proofs.Ytlngljddjlmkfaa.PLs Go.Proofs.YtlngljddjlmkfaaW.PrintWords Go.Proofs.YtlngljddjlmkfaaW.PrintLast Go.Proofs.YtlngljddjlmkfaaW.PrintMore
set_option linter.unusedVariables false
set_option linter.unusedSimpArgs false

/-! ### The order of texts -/
theorem bl_irrefl : ∀ a, Op.bytesLess a a = false
  | [] => rfl
  | x :: a => by
    rw [Op.bytesLess, bl_irrefl a]
    simp
theorem u8_lt {a b : UInt8} : (a < b) ↔ a.toNat < b.toNat := UInt8.lt_iff_toNat_lt
theorem u8_eq {a b : UInt8} (h : ¬ a < b) (h' : ¬ b < a) : a = b := by
  rw [u8_lt] at h h'
  exact UInt8.toNat_inj.1 (by omega)
theorem bl_cons (x y : UInt8) (a b : List UInt8) : Op.bytesLess (x :: a) (y :: b) = true ↔ x < y ∨ x = y ∧ Op.bytesLess a b = true := by
  rw [Op.bytesLess]
  simp
theorem bl_trans : ∀ a b c, Op.bytesLess a b = true → Op.bytesLess b c = true → Op.bytesLess a c = true
  | [], [], _, h, _ => by simp [Op.bytesLess] at h
  | _ :: _, [], _, h, _ => by simp [Op.bytesLess] at h
  | _, _ :: _, [], _, h => by simp [Op.bytesLess] at h
  | [], _ :: _, _ :: _, _, _ => by simp [Op.bytesLess]
  | x :: a, y :: b, z :: c, h1, h2 => by
    rw [bl_cons] at h1 h2 ⊢
    rcases h1 with h1 | ⟨rfl, h1⟩
    · rcases h2 with h2 | ⟨rfl, h2⟩
      · rw [u8_lt] at *
        exact .inl (by omega)
      · exact .inl h1
    · rcases h2 with h2 | ⟨rfl, h2⟩
      · exact .inl h2
      · exact .inr ⟨rfl, bl_trans a b c h1 h2⟩
theorem bl_tri : ∀ a b, Op.bytesLess a b = false → Op.bytesLess b a = false → a = b
  | [], [], _, _ => rfl
  | [], _ :: _, h, _ => by simp [Op.bytesLess] at h
  | _ :: _, [], _, h => by simp [Op.bytesLess] at h
  | x :: a, y :: b, h1, h2 => by
    have n1 : ¬ Op.bytesLess (x :: a) (y :: b) = true := by rw [h1]; simp
    have n2 : ¬ Op.bytesLess (y :: b) (x :: a) = true := by rw [h2]; simp
    rw [bl_cons] at n1 n2
    have hxy : x = y := u8_eq (fun h => n1 (.inl h)) (fun h => n2 (.inl h))
    subst hxy
    have e1 : Op.bytesLess a b = false := by
      cases h : Op.bytesLess a b with
      | false => rfl
      | true => exact absurd (.inr ⟨rfl, h⟩) n1
    have e2 : Op.bytesLess b a = false := by
      cases h : Op.bytesLess b a with
      | false => rfl
      | true => exact absurd (.inr ⟨rfl, h⟩) n2
    rw [bl_tri a b e1 e2]
theorem bl_asymm {a b : List UInt8} (h : Op.bytesLess a b = true) : Op.bytesLess b a = false := by
  cases h2 : Op.bytesLess b a with
  | false => rfl
  | true =>
    have := bl_trans a b a h h2
    rw [bl_irrefl] at this
    simp at this
/-- What is behind no a, where a is behind no b, is behind no b. -/
theorem bl_neg {a b c : List UInt8} (h1 : Op.bytesLess b a = false) (h2 : Op.bytesLess c b = false) : Op.bytesLess c a = false := by
  cases h : Op.bytesLess c a with
  | false => rfl
  | true =>
    cases h3 : Op.bytesLess a b with
    | true => rw [bl_trans c a b h h3] at h2; simp at h2
    | false => rw [bl_tri a b h3 h1] at h; rw [h] at h2; simp at h2

/-! ### Which list is ahead -/
abbrev E1 := S37
def key (x : E1) : List UInt8 := x.f0.toList
theorem ahead_irrefl (ls : List (List E1)) (a : Nat) : aheadB ls a a = false := by
  unfold aheadB
  by_cases h : (at2 ls a).length = 0
  · rw [if_pos h]
  · rw [if_neg h, if_neg h]
    exact bl_irrefl _
theorem ahead_asymm {ls : List (List E1)} {a b : Nat} (h : aheadB ls a b = true) : aheadB ls b a = false := by
  unfold aheadB at h ⊢
  by_cases h1 : (at2 ls a).length = 0
  · rw [if_pos h1] at h; simp at h
  · rw [if_neg h1] at h
    by_cases h2 : (at2 ls b).length = 0
    · rw [if_pos h2]
    · rw [if_neg h2] at h
      rw [if_neg h2, if_neg h1]
      exact bl_asymm h
theorem ahead_neg {ls : List (List E1)} {a b c : Nat} (h1 : aheadB ls b a = false) (h2 : aheadB ls c b = false) : aheadB ls c a = false := by
  unfold aheadB at *
  by_cases hc : (at2 ls c).length = 0
  · rw [if_pos hc]
  · rw [if_neg hc] at h2 ⊢
    by_cases hb : (at2 ls b).length = 0
    · rw [if_pos hb] at h2; simp at h2
    · rw [if_neg hb] at h1 h2
      by_cases ha : (at2 ls a).length = 0
      · rw [if_pos ha] at h1; simp at h1
      · rw [if_neg ha] at h1 ⊢
        exact bl_neg h1 h2
theorem ahead_same {ls ls' : List (List E1)} {a b : Nat} (h1 : at2 ls' a = at2 ls a) (h2 : at2 ls' b = at2 ls b) : aheadB ls' a b = aheadB ls a b := by
  unfold aheadB
  rw [h1, h2]

/-! ### Nodes -/
/-- q lies at or below k. -/
def In (q k : Nat) : Prop := ∃ t, q / 2 ^ t = k
theorem in_refl (k : Nat) : In k k := ⟨0, by simp⟩
theorem in_up {q c : Nat} (h : In q c) : In q (c / 2) := by
  obtain ⟨t, rfl⟩ := h
  exact ⟨t + 1, by rw [Nat.pow_succ, Nat.div_div_eq_div_mul]⟩
theorem in_ge {q k : Nat} (h : In q k) : k ≤ q := by
  obtain ⟨t, rfl⟩ := h
  exact Nat.div_le_self _ _
theorem in_down {q k : Nat} (h : In q k) (hn : q ≠ k) : ∃ c, c / 2 = k ∧ In q c := by
  obtain ⟨t, ht⟩ := h
  cases t with
  | zero => exact absurd (by simpa using ht) hn
  | succ t => exact ⟨q / 2 ^ t, by rw [← ht, Nat.pow_succ, Nat.div_div_eq_div_mul], t, rfl⟩
theorem div_lt {q a b : Nat} (hab : a < b) (h : 1 ≤ q / 2 ^ a) : q / 2 ^ b < q / 2 ^ a := by
  have e : 2 ^ b = 2 ^ a * 2 ^ (b - a) := by rw [← Nat.pow_add]; congr 1; omega
  have h2 : 2 ≤ 2 ^ (b - a) := by
    have := Nat.pow_le_pow_right (n := 2) (by decide) (show 1 ≤ b - a by omega)
    simpa using this
  rw [e, ← Nat.div_div_eq_div_mul]
  exact Nat.div_lt_self h h2
/-- Below one child nothing is below the other one. -/
theorem in_apart {q c s : Nat} (h1 : In q c) (h2 : In q s) (hcs : c / 2 = s / 2) (h0 : 1 ≤ c / 2) : c = s := by
  obtain ⟨a, ha⟩ := h1
  obtain ⟨b, hb⟩ := h2
  have h3 : q / 2 ^ (a + 1) = c / 2 := by rw [Nat.pow_succ, ← Nat.div_div_eq_div_mul, ha]
  have h4 : q / 2 ^ (b + 1) = s / 2 := by rw [Nat.pow_succ, ← Nat.div_div_eq_div_mul, hb]
  rcases Nat.lt_trichotomy a b with h | h | h
  · have := div_lt (q := q) (a := a + 1) (b := b + 1) (by omega) (by omega)
    omega
  · subst h; omega
  · have := div_lt (q := q) (a := b + 1) (b := a + 1) (by omega) (by omega)
    omega
theorem in_one : ∀ m, 1 ≤ m → In m 1 := by
  intro m
  induction m using Nat.strongRecOn with
  | _ m ih =>
    intro h
    by_cases h1 : m = 1
    · rw [h1]; exact in_refl 1
    · obtain ⟨t, ht⟩ := ih (m / 2) (by omega) (by omega)
      exact ⟨t + 1, by rw [Nat.pow_succ, Nat.mul_comm, ← Nat.div_div_eq_div_mul, ht]⟩

/-! ### A tree's parts -/
/-- The part of the tree at and below node k: list i has won there. -/
inductive Sub (n : Nat) (ls : List (List E1)) (lost : List Nat) : Nat → Nat → Prop
  | leaf (i : Nat) : i < n → Sub n ls lost (n + i) i
  | node (k c s a b : Nat) : 1 ≤ k → k < n → c / 2 = k → s / 2 = k → c ≠ s → Sub n ls lost c a → Sub n ls lost s b → lst lost k = b → aheadB ls b a = false → Sub n ls lost k a
theorem Sub.in_ {n : Nat} {ls : List (List E1)} {lost : List Nat} {k i : Nat} (h : Sub n ls lost k i) : In (n + i) k ∧ i < n := by
  induction h with
  | leaf i hi => exact ⟨in_refl _, hi⟩
  | node k c s a b h1 h2 hc hs hcs _ _ _ _ ih1 _ =>
    exact ⟨by have := in_up ih1.1; rwa [hc] at this, ih1.2⟩
theorem Sub.same {n : Nat} {ls ls' : List (List E1)} {lost lost' : List Nat} {k i : Nat} (h : Sub n ls lost k i) (h1 : ∀ q, In q k → lst lost' q = lst lost q) (h2 : ∀ a, In (n + a) k → at2 ls' a = at2 ls a) : Sub n ls' lost' k i := by
  induction h with
  | leaf i hi => exact .leaf i hi
  | node k c s a b k1 k2 hc hs hcs sa sb hl hb ih1 ih2 =>
    have u1 : ∀ q, In q c → In q k := fun q hq => by have := in_up hq; rwa [hc] at this
    have u2 : ∀ q, In q s → In q k := fun q hq => by have := in_up hq; rwa [hs] at this
    refine .node k c s a b k1 k2 hc hs hcs (ih1 (fun q hq => h1 q (u1 q hq)) (fun a ha => h2 a (u1 _ ha))) (ih2 (fun q hq => h1 q (u2 q hq)) (fun a ha => h2 a (u2 _ ha))) ?_ ?_
    · rw [h1 k (in_refl k), hl]
    · rw [ahead_same (h2 b (u2 _ sb.in_.1)) (h2 a (u1 _ sa.in_.1))]
      exact hb
/-- Who has won is behind nobody below. -/
theorem Sub.least {n : Nat} {ls : List (List E1)} {lost : List Nat} {k i : Nat} (h : Sub n ls lost k i) : ∀ j, j < n → In (n + j) k → aheadB ls j i = false := by
  induction h with
  | leaf i hi =>
    intro j hj hin
    have e : j = i := by
      rcases Nat.lt_or_ge j i with h | h
      · have := in_ge hin; omega
      · obtain ⟨t, ht⟩ := hin
        cases t with
        | zero => simp at ht; omega
        | succ t =>
          have h2 : (n + j) / 2 ^ (t + 1) ≤ (n + j) / 2 := by
            rw [Nat.pow_succ, Nat.mul_comm, ← Nat.div_div_eq_div_mul]
            exact Nat.div_le_self _ _
          omega
    rw [e]
    exact ahead_irrefl ls i
  | node k c s a b k1 k2 hc hs hcs sa sb hl hb ih1 ih2 =>
    intro j hj hin
    obtain ⟨d, hd, hin2⟩ := in_down hin (by omega)
    have hdd : d = c ∨ d = s := by omega
    rcases hdd with e | e
    · rw [e] at hin2; exact ih1 j hj hin2
    · rw [e] at hin2; exact ahead_neg hb (ih2 j hj hin2)
/-- What lies around node c: who lost above it has won beside it. -/
inductive Ctx (n : Nat) (ls : List (List E1)) (lost : List Nat) : Nat → Prop
  | top : Ctx n ls lost 1
  | up (p c s b : Nat) : 1 ≤ p → p < n → c / 2 = p → s / 2 = p → c ≠ s → Sub n ls lost s b → lst lost p = b → Ctx n ls lost p → Ctx n ls lost c
theorem Ctx.same {n : Nat} {ls ls' : List (List E1)} {lost lost' : List Nat} {c : Nat} (h : Ctx n ls lost c) (h1 : ∀ q, In q c ∨ lst lost' q = lst lost q) (h2 : ∀ a, In (n + a) c ∨ at2 ls' a = at2 ls a) : Ctx n ls' lost' c := by
  induction h with
  | top => exact .top
  | up p c s b p1 p2 hc hs hcs sb hl _ ih =>
    have u1 : ∀ q, In q c → In q p := fun q hq => by have := in_up hq; rwa [hc] at this
    refine .up p c s b p1 p2 hc hs hcs (sb.same (fun q hq => ?_) (fun a ha => ?_)) ?_ (ih (fun q => (h1 q).imp (u1 q) id) (fun a => (h2 a).imp (u1 _) id))
    · rcases h1 q with h | h
      · exact absurd (in_apart h hq (by omega) (by omega)) hcs
      · exact h
    · rcases h2 a with h | h
      · exact absurd (in_apart h ha (by omega) (by omega)) hcs
      · exact h
    · rcases h1 p with h | h
      · have := in_ge h; omega
      · rw [h, hl]
theorem Sub.ctx {n : Nat} {ls : List (List E1)} {lost : List Nat} {k i : Nat} (h : Sub n ls lost k i) : Ctx n ls lost k → Ctx n ls lost (n + i) := by
  induction h with
  | leaf i hi => exact id
  | node k c s a b k1 k2 hc hs hcs sa sb hl hb ih1 _ => exact fun h => ih1 (.up k c s b k1 k2 hc hs hcs sb hl h)
def Tree (ls : List (List E1)) (lost : List Nat) : Prop := Sub ls.length ls lost 1 (lst lost 0)
theorem lst_set (l : List Nat) (i v j : Nat) (hi : i < l.length) : lst (l.set i v) j = if i = j then v else lst l j := by
  unfold lst
  rw [List.getD_eq_getElem?_getD, List.getD_eq_getElem?_getD, List.getElem?_set]
  by_cases h : i = j
  · rw [if_pos h, if_pos h, if_pos (h ▸ hi)]; rfl
  · rw [if_neg h, if_neg h]
theorem in_zero {k : Nat} (h : In 0 k) : k = 0 := by
  obtain ⟨t, ht⟩ := h
  rw [Nat.zero_div] at ht
  exact ht.symm
/-- A list that plays from node c up: then somebody has won at the top. -/
theorem play_tree (ls : List (List E1)) : ∀ (d c j : Nat) (lost : List Nat), c / 2 ≤ d → 1 ≤ c → lost.length = ls.length → 0 < ls.length → Sub ls.length ls lost c j → Ctx ls.length ls lost c → Tree ls (playG ls d (c / 2) j lost) := by
  intro d
  induction d with
  | zero =>
    intro c j lost hd h1 hl hn hs hc
    have e : c = 1 := by omega
    subst e
    rw [playG]
    unfold Tree
    rw [lst_set _ _ _ _ (by omega), if_pos rfl]
    exact hs.same (fun q hq => by
      rw [lst_set _ _ _ _ (by omega), if_neg (fun e => by subst e; have := in_zero hq; omega)]) (fun _ _ => rfl)
  | succ d ih =>
    intro c j lost hd h1 hl hn hs hc
    rw [playG]
    by_cases e : c / 2 = 0
    · have e1 : c = 1 := by omega
      subst e1
      rw [if_pos rfl]
      unfold Tree
      rw [lst_set _ _ _ _ (by omega), if_pos rfl]
      exact hs.same (fun q hq => by
        rw [lst_set _ _ _ _ (by omega), if_neg (fun e => by subst e; have := in_zero hq; omega)]) (fun _ _ => rfl)
    · rw [if_neg e]
      cases hc with
      | top => exact absurd rfl e
      | up p c s b p1 p2 hcp hsp hcs sb hlb hcx =>
        subst hcp
        have hset : ∀ v q, q ≠ c / 2 → lst (lost.set (c / 2) v) q = lst lost q := fun v q hq => by rw [lst_set _ _ _ _ (by omega), if_neg (Ne.symm hq)]
        have k1 : ∀ v q, In q c → lst (lost.set (c / 2) v) q = lst lost q := fun v q hq => hset v q (by have := in_ge hq; omega)
        have k2 : ∀ v q, In q s → lst (lost.set (c / 2) v) q = lst lost q := fun v q hq => hset v q (by have := in_ge hq; omega)
        rw [hlb]
        by_cases ha : aheadB ls b j = true
        · rw [if_pos ha]
          have h2 : Sub ls.length ls (lost.set (c / 2) j) (c / 2) b := .node (c / 2) s c b j p1 p2 hsp rfl (Ne.symm hcs) (sb.same (k2 j) (fun _ _ => rfl)) (hs.same (k1 j) (fun _ _ => rfl)) (by rw [lst_set _ _ _ _ (by omega), if_pos rfl]) (ahead_asymm ha)
          refine ih (c / 2) b _ (by omega) (by omega) (by rw [List.length_set]; exact hl) hn h2 (hcx.same (fun q => ?_) (fun _ => .inr rfl))
          by_cases hq : q = c / 2
          · exact .inl (hq ▸ in_refl _)
          · exact .inr (hset j q hq)
        · have ha : aheadB ls b j = false := by simpa using ha
          rw [if_neg (by rw [ha]; simp)]
          have h2 : Sub ls.length ls lost (c / 2) j := .node (c / 2) c s j b p1 p2 rfl hsp hcs hs sb hlb ha
          exact ih (c / 2) j _ (by omega) (by omega) hl hn h2 hcx
theorem at2_set (ls : List (List E1)) (i : Nat) (l : List E1) (j : Nat) (hi : i < ls.length) : at2 (ls.set i l) j = if i = j then l else at2 ls j := by
  unfold at2
  rw [List.getD_eq_getElem?_getD, List.getD_eq_getElem?_getD, List.getElem?_set]
  by_cases h : i = j
  · rw [if_pos h, if_pos h, if_pos (h ▸ hi)]; rfl
  · rw [if_neg h, if_neg h]
/-- A list of the tree's that has won is another one, and plays. -/
theorem turn_tree {ls : List (List E1)} {lost : List Nat} (hf : Fit ls lost) (h : Tree ls lost) (l : List E1) :
    Tree (ls.set (lst lost 0) l) (playG (ls.set (lst lost 0) l) ((lst lost 0 + ls.length) / 2) ((lst lost 0 + ls.length) / 2) (lst lost 0) lost) := by
  unfold Tree at h
  have hi := h.in_.2
  have hc := h.ctx .top
  have hlen : (ls.set (lst lost 0) l).length = ls.length := List.length_set
  have hc2 : Ctx (ls.set (lst lost 0) l).length (ls.set (lst lost 0) l) lost (ls.length + lst lost 0) := by
    rw [hlen]
    refine hc.same (fun q => .inr rfl) (fun a => ?_)
    by_cases ha : a = lst lost 0
    · exact .inl (ha ▸ in_refl _)
    · exact .inr (by rw [at2_set _ _ _ _ hi, if_neg (Ne.symm ha)])
  have hs : Sub (ls.set (lst lost 0) l).length (ls.set (lst lost 0) l) lost (ls.length + lst lost 0) (lst lost 0) := by
    rw [hlen]
    exact .leaf _ hi
  rw [Nat.add_comm (lst lost 0)]
  exact play_tree _ _ (ls.length + lst lost 0) (lst lost 0) lost (Nat.le_refl _) (by have := hf.1; omega) (by rw [hlen]; exact hf.2.2.1) (by rw [hlen]; exact hf.1) hs hc2
theorem grow_sub (ls : List (List E1)) : ∀ (k : Nat) (win lost : List Nat), k < ls.length → win.length = 2 * ls.length → lost.length = ls.length → (∀ q, k < q → q < 2 * ls.length → Sub ls.length ls lost q (lst win q)) →
    ∀ q, 0 < q → q < 2 * ls.length → Sub ls.length ls (growL ls k win lost).2 q (lst (growL ls k win lost).1 q)
  | 0, win, lost, _, _, _, h => h
  | k + 1, win, lost, hk, hw, hl, h => by
    have sa := h (2 * (k + 1)) (by omega) (by omega)
    have sb := h (2 * (k + 1) + 1) (by omega) (by omega)
    have hset : ∀ v q, q ≠ k + 1 → lst (lost.set (k + 1) v) q = lst lost q := fun v q hq => by rw [lst_set _ _ _ _ (by omega), if_neg (Ne.symm hq)]
    have kk : ∀ v q, k + 1 < q → ∀ r, In r q → lst (lost.set (k + 1) v) r = lst lost r := fun v q hq r hr => hset v r (by have := in_ge hr; omega)
    rw [growL]
    by_cases ha : aheadB ls (lst win (2 * (k + 1) + 1)) (lst win (2 * (k + 1))) = true
    · rw [if_pos ha]
      refine grow_sub ls k _ _ (by omega) (by rw [List.length_set]; exact hw) (by rw [List.length_set]; exact hl) (fun q h1 h2 => ?_)
      rw [lst_set _ _ _ _ (by omega)]
      by_cases hq : k + 1 = q
      · subst hq
        rw [if_pos rfl]
        exact .node (k + 1) (2 * (k + 1) + 1) (2 * (k + 1)) _ _ (by omega) hk (by omega) (by omega) (by omega) (sb.same (kk _ _ (by omega)) (fun _ _ => rfl)) (sa.same (kk _ _ (by omega)) (fun _ _ => rfl)) (by rw [lst_set _ _ _ _ (by omega), if_pos rfl]) (ahead_asymm ha)
      · rw [if_neg hq]
        exact (h q (by omega) h2).same (kk _ _ (by omega)) (fun _ _ => rfl)
    · have ha : aheadB ls (lst win (2 * (k + 1) + 1)) (lst win (2 * (k + 1))) = false := by simpa using ha
      rw [if_neg (by rw [ha]; simp)]
      refine grow_sub ls k _ _ (by omega) (by rw [List.length_set]; exact hw) (by rw [List.length_set]; exact hl) (fun q h1 h2 => ?_)
      rw [lst_set _ _ _ _ (by omega)]
      by_cases hq : k + 1 = q
      · subst hq
        rw [if_pos rfl]
        exact .node (k + 1) (2 * (k + 1)) (2 * (k + 1) + 1) _ _ (by omega) hk (by omega) (by omega) (by omega) (sa.same (kk _ _ (by omega)) (fun _ _ => rfl)) (sb.same (kk _ _ (by omega)) (fun _ _ => rfl)) (by rw [lst_set _ _ _ _ (by omega), if_pos rfl]) ha
      · rw [if_neg hq]
        exact (h q (by omega) h2).same (kk _ _ (by omega)) (fun _ _ => rfl)
theorem winI_at (n i : Nat) (h : i < n) : lst (winI n n) (n + i) = i := by
  unfold lst winI
  rw [List.getD_eq_getElem?_getD, List.getElem?_append_right (by rw [List.length_replicate]; omega), List.length_replicate, Nat.add_sub_cancel_left, List.getElem?_append_left (by rw [List.length_range]; exact h), List.getElem?_range h]
  rfl
theorem grow_tree (ls : List (List E1)) (h0 : 0 < ls.length) : Tree ls (growG ls) := by
  have h := grow_sub ls (ls.length - 1) (winI ls.length ls.length) (List.replicate ls.length 0) (by omega) (winI_len _ _ (Nat.le_refl _)) List.length_replicate (fun q h1 h2 => by
    have := winI_at ls.length (q - ls.length) (by omega)
    rw [show ls.length + (q - ls.length) = q by omega] at this
    rw [this]
    have e := Sub.leaf (n := ls.length) (ls := ls) (lost := List.replicate ls.length 0) (q - ls.length) (by omega)
    rwa [show ls.length + (q - ls.length) = q by omega] at e) 1 (by omega) (by omega)
  have hlen := (growL_lt ls ls.length (ls.length - 1) (winI ls.length ls.length) (List.replicate ls.length 0) (winI_lt _ h0) (fun x hx => by rw [(List.mem_replicate.1 hx).2]; exact h0) (by rw [winI_len _ _ (Nat.le_refl _)]; omega)).2.2.2
  rw [List.length_replicate] at hlen
  unfold Tree growG
  show Sub ls.length ls ((growL ls (ls.length - 1) (winI ls.length ls.length) (List.replicate ls.length 0)).2.set 0 (lst (growL ls (ls.length - 1) (winI ls.length ls.length) (List.replicate ls.length 0)).1 1)) 1 (lst ((growL ls (ls.length - 1) (winI ls.length ls.length) (List.replicate ls.length 0)).2.set 0 (lst (growL ls (ls.length - 1) (winI ls.length ls.length) (List.replicate ls.length 0)).1 1)) 0)
  rw [lst_set _ _ _ 0 (by omega), if_pos rfl]
  exact h.same (fun q hq => by
    rw [lst_set _ _ _ _ (by omega), if_neg (fun e => by subst e; have := in_zero hq; omega)]) (fun _ _ => rfl)
/-- At the top stands a list that no other one is ahead of. -/
theorem top_least {ls : List (List E1)} {lost : List Nat} (hf : Fit ls lost) (h : Tree ls lost) : lst lost 0 < ls.length ∧ ∀ j, j < ls.length → aheadB ls j (lst lost 0) = false := by
  unfold Tree at h
  exact ⟨h.in_.2, fun j hj => h.least j hj (in_one _ (by have := hf.1; omega))⟩
end Go.Proofs.Ytlngljddjlmkfaa.LoserLib
