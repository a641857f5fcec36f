/- Parts of the proof, merged by a program of this session. -/
import Derived.Deep.Slices
import Derived.OpenShut
import Derived.Test.YtiohnpphhepdfaaPkPassesMergesa
import Derived.Test.YtiohnpphhepdfaaPkPassesMergese
section
namespace Go.Proofs.Ytiohnpphhepdfaa.LoserLib
open Go.RowKit Go.Proofs.Ytiohnpphhepdfaa.PPa Go.Proofs.YtiohnpphhepdfaaW.PrintWords Go.Proofs.YtiohnpphhepdfaaW.PrintLast Go.Proofs.YtiohnpphhepdfaaW.PrintMore
set_option linter.unusedVariables false
set_option linter.unusedSimpArgs false
open Go.Proofs.Ytiohnpphhepdfaa.RunLib (toList_data toList_inj toList_nil fineS less rises mayS rdT_eq fine_f may_f mayS_cases mayS_zero same_f)
theorem bl_irrefl : ∀ a, Op.bytesLess a a = false
 | [] => rfl
 | x :: a => by
  rw [Op.bytesLess, bl_irrefl a]
  simp
theorem u8_lt {a b : UInt8} : (a < b) ↔ a.toNat < b.toNat := UInt8.lt_iff_toNat_lt
theorem u8_eq {a b : UInt8} (h : ¬ a < b) (h' : ¬ b < a) : a = b := by
 rw [u8_lt] at h h'
 exact UInt8.toNat_inj.1 (by omega)
theorem bl_cons (x y : UInt8) (a b : List UInt8) : Op.bytesLess (x :: a) (y :: b) = true ↔ x < y ∨ x = y ∧ Op.bytesLess a b = true := by
 rw [Op.bytesLess]
 simp
theorem bl_trans : ∀ a b c, Op.bytesLess a b = true → Op.bytesLess b c = true → Op.bytesLess a c = true
 | [], [], _, h, _ => by simp [Op.bytesLess] at h
 | _ :: _, [], _, h, _ => by simp [Op.bytesLess] at h
 | _, _ :: _, [], _, h => by simp [Op.bytesLess] at h
 | [], _ :: _, _ :: _, _, _ => by simp [Op.bytesLess]
 | x :: a, y :: b, z :: c, h1, h2 => by
  rw [bl_cons] at h1 h2 ⊢
  rcases h1 with h1 | ⟨rfl, h1⟩
  ·rcases h2 with h2 | ⟨rfl, h2⟩
   ·rw [u8_lt] at *
    exact .inl (by omega)
   ·exact .inl h1
  ·rcases h2 with h2 | ⟨rfl, h2⟩
   ·exact .inl h2
   ·exact .inr ⟨rfl, bl_trans a b c h1 h2⟩
theorem bl_tri : ∀ a b, Op.bytesLess a b = false → Op.bytesLess b a = false → a = b
 | [], [], _, _ => rfl
 | [], _ :: _, h, _ => by simp [Op.bytesLess] at h
 | _ :: _, [], _, h => by simp [Op.bytesLess] at h
 | x :: a, y :: b, h1, h2 => by
  have n1 : ¬ Op.bytesLess (x :: a) (y :: b) = true := by rw [h1]; simp
  have n2 : ¬ Op.bytesLess (y :: b) (x :: a) = true := by rw [h2]; simp
  rw [bl_cons] at n1 n2
  have hxy : x = y := u8_eq (fun h => n1 (.inl h)) (fun h => n2 (.inl h))
  subst hxy
  have e1 : Op.bytesLess a b = false := by
   cases h : Op.bytesLess a b with
   | false => rfl
   | true => exact absurd (.inr ⟨rfl, h⟩) n1
  have e2 : Op.bytesLess b a = false := by
   cases h : Op.bytesLess b a with
   | false => rfl
   | true => exact absurd (.inr ⟨rfl, h⟩) n2
  rw [bl_tri a b e1 e2]
theorem bl_asymm {a b : List UInt8} (h : Op.bytesLess a b = true) : Op.bytesLess b a = false := by
 cases h2 : Op.bytesLess b a with
 | false => rfl
 | true =>
  have := bl_trans a b a h h2
  rw [bl_irrefl] at this
  simp at this
theorem bl_neg {a b c : List UInt8} (h1 : Op.bytesLess b a = false) (h2 : Op.bytesLess c b = false) : Op.bytesLess c a = false := by
 cases h : Op.bytesLess c a with
 | false => rfl
 | true =>
  cases h3 : Op.bytesLess a b with
  | true => rw [bl_trans c a b h h3] at h2; simp at h2
  | false => rw [bl_tri a b h3 h1] at h; rw [h] at h2; simp at h2
abbrev E1 := S41
def key (x : E1) : List UInt8 := x.f0.toList
theorem ahead_irrefl (ls : List (List E1)) (a : Nat) : aheadB ls a a = false := by
 unfold aheadB
 by_cases h : (at2 ls a).length = 0
 ·rw [if_pos h]
 ·rw [if_neg h, if_neg h]
  exact bl_irrefl _
theorem ahead_asymm {ls : List (List E1)} {a b : Nat} (h : aheadB ls a b = true) : aheadB ls b a = false := by
 unfold aheadB at h ⊢
 by_cases h1 : (at2 ls a).length = 0
 ·rw [if_pos h1] at h; simp at h
 ·rw [if_neg h1] at h
  by_cases h2 : (at2 ls b).length = 0
  ·rw [if_pos h2]
  ·rw [if_neg h2] at h
   rw [if_neg h2, if_neg h1]
   exact bl_asymm h
theorem ahead_neg {ls : List (List E1)} {a b c : Nat} (h1 : aheadB ls b a = false) (h2 : aheadB ls c b = false) : aheadB ls c a = false := by
 unfold aheadB at *
 by_cases hc : (at2 ls c).length = 0
 ·rw [if_pos hc]
 ·rw [if_neg hc] at h2 ⊢
  by_cases hb : (at2 ls b).length = 0
  ·rw [if_pos hb] at h2; simp at h2
  ·rw [if_neg hb] at h1 h2
   by_cases ha : (at2 ls a).length = 0
   ·rw [if_pos ha] at h1; simp at h1
   ·rw [if_neg ha] at h1 ⊢
    exact bl_neg h1 h2
theorem ahead_same {ls ls' : List (List E1)} {a b : Nat} (h1 : at2 ls' a = at2 ls a) (h2 : at2 ls' b = at2 ls b) : aheadB ls' a b = aheadB ls a b := by
 unfold aheadB
 rw [h1, h2]
def In (q k : Nat) : Prop := ∃ t, q / 2 ^ t = k
theorem in_refl (k : Nat) : In k k := ⟨0, by simp⟩
theorem in_up {q c : Nat} (h : In q c) : In q (c / 2) := by
 obtain ⟨t, rfl⟩ := h
 exact ⟨t + 1, by rw [Nat.pow_succ, Nat.div_div_eq_div_mul]⟩
theorem in_ge {q k : Nat} (h : In q k) : k ≤ q := by
 obtain ⟨t, rfl⟩ := h
 exact Nat.div_le_self _ _
theorem in_down {q k : Nat} (h : In q k) (hn : q ≠ k) : ∃ c, c / 2 = k ∧ In q c := by
 obtain ⟨t, ht⟩ := h
 cases t with
 | zero => exact absurd (by simpa using ht) hn
 | succ t => exact ⟨q / 2 ^ t, by rw [← ht, Nat.pow_succ, Nat.div_div_eq_div_mul], t, rfl⟩
theorem div_lt {q a b : Nat} (hab : a < b) (h : 1 ≤ q / 2 ^ a) : q / 2 ^ b < q / 2 ^ a := by
 have e : 2 ^ b = 2 ^ a * 2 ^ (b - a) := by rw [← Nat.pow_add]; congr 1; omega
 have h2 : 2 ≤ 2 ^ (b - a) := by
  have := Nat.pow_le_pow_right (n := 2) (by decide) (show 1 ≤ b - a by omega)
  simpa using this
 rw [e, ← Nat.div_div_eq_div_mul]
 exact Nat.div_lt_self h h2
theorem in_apart {q c s : Nat} (h1 : In q c) (h2 : In q s) (hcs : c / 2 = s / 2) (h0 : 1 ≤ c / 2) : c = s := by
 obtain ⟨a, ha⟩ := h1
 obtain ⟨b, hb⟩ := h2
 have h3 : q / 2 ^ (a + 1) = c / 2 := by rw [Nat.pow_succ, ← Nat.div_div_eq_div_mul, ha]
 have h4 : q / 2 ^ (b + 1) = s / 2 := by rw [Nat.pow_succ, ← Nat.div_div_eq_div_mul, hb]
 rcases Nat.lt_trichotomy a b with h | h | h
 ·have := div_lt (q := q) (a := a + 1) (b := b + 1) (by omega) (by omega)
  omega
 ·subst h; omega
 ·have := div_lt (q := q) (a := b + 1) (b := a + 1) (by omega) (by omega)
  omega
theorem in_one : ∀ m, 1 ≤ m → In m 1 := by
 intro m
 induction m using Nat.strongRecOn with
 | _ m ih =>
  intro h
  by_cases h1 : m = 1
  ·rw [h1]; exact in_refl 1
  ·obtain ⟨t, ht⟩ := ih (m / 2) (by omega) (by omega)
   exact ⟨t + 1, by rw [Nat.pow_succ, Nat.mul_comm, ← Nat.div_div_eq_div_mul, ht]⟩
inductive Sub (n : Nat) (ls : List (List E1)) (lost : List Nat) : Nat → Nat → Prop
 | leaf (i : Nat) : i < n → Sub n ls lost (n + i) i
 | node (k c s a b : Nat) : 1 ≤ k → k < n → c / 2 = k → s / 2 = k → c ≠ s → Sub n ls lost c a → Sub n ls lost s b → lst lost k = b → aheadB ls b a = false → Sub n ls lost k a
theorem Sub.in_ {n : Nat} {ls : List (List E1)} {lost : List Nat} {k i : Nat} (h : Sub n ls lost k i) : In (n + i) k ∧ i < n := by
 induction h with
 | leaf i hi => exact ⟨in_refl _, hi⟩
 | node k c s a b h1 h2 hc hs hcs _ _ _ _ ih1 _ =>
  exact ⟨by have := in_up ih1.1; rwa [hc] at this, ih1.2⟩
theorem Sub.same {n : Nat} {ls ls' : List (List E1)} {lost lost' : List Nat} {k i : Nat} (h : Sub n ls lost k i) (h1 : ∀ q, In q k → lst lost' q = lst lost q) (h2 : ∀ a, In (n + a) k → at2 ls' a = at2 ls a) : Sub n ls' lost' k i := by
 induction h with
 | leaf i hi => exact .leaf i hi
 | node k c s a b k1 k2 hc hs hcs sa sb hl hb ih1 ih2 =>
  have u1 : ∀ q, In q c → In q k := fun q hq => by have := in_up hq; rwa [hc] at this
  have u2 : ∀ q, In q s → In q k := fun q hq => by have := in_up hq; rwa [hs] at this
  refine .node k c s a b k1 k2 hc hs hcs (ih1 (fun q hq => h1 q (u1 q hq)) (fun a ha => h2 a (u1 _ ha))) (ih2 (fun q hq => h1 q (u2 q hq)) (fun a ha => h2 a (u2 _ ha))) ?_ ?_
  ·rw [h1 k (in_refl k), hl]
  ·rw [ahead_same (h2 b (u2 _ sb.in_.1)) (h2 a (u1 _ sa.in_.1))]
   exact hb
theorem Sub.least {n : Nat} {ls : List (List E1)} {lost : List Nat} {k i : Nat} (h : Sub n ls lost k i) : ∀ j, j < n → In (n + j) k → aheadB ls j i = false := by
 induction h with
 | leaf i hi =>
  intro j hj hin
  have e : j = i := by
   rcases Nat.lt_or_ge j i with h | h
   ·have := in_ge hin; omega
   ·obtain ⟨t, ht⟩ := hin
    cases t with
    | zero => simp at ht; omega
    | succ t =>
     have h2 : (n + j) / 2 ^ (t + 1) ≤ (n + j) / 2 := by
      rw [Nat.pow_succ, Nat.mul_comm, ← Nat.div_div_eq_div_mul]
      exact Nat.div_le_self _ _
     omega
  rw [e]
  exact ahead_irrefl ls i
 | node k c s a b k1 k2 hc hs hcs sa sb hl hb ih1 ih2 =>
  intro j hj hin
  obtain ⟨d, hd, hin2⟩ := in_down hin (by omega)
  have hdd : d = c ∨ d = s := by omega
  rcases hdd with e | e
  ·rw [e] at hin2; exact ih1 j hj hin2
  ·rw [e] at hin2; exact ahead_neg hb (ih2 j hj hin2)
inductive Ctx (n : Nat) (ls : List (List E1)) (lost : List Nat) : Nat → Prop
 | top : Ctx n ls lost 1
 | up (p c s b : Nat) : 1 ≤ p → p < n → c / 2 = p → s / 2 = p → c ≠ s → Sub n ls lost s b → lst lost p = b → Ctx n ls lost p → Ctx n ls lost c
theorem Ctx.same {n : Nat} {ls ls' : List (List E1)} {lost lost' : List Nat} {c : Nat} (h : Ctx n ls lost c) (h1 : ∀ q, In q c ∨ lst lost' q = lst lost q) (h2 : ∀ a, In (n + a) c ∨ at2 ls' a = at2 ls a) : Ctx n ls' lost' c := by
 induction h with
 | top => exact .top
 | up p c s b p1 p2 hc hs hcs sb hl _ ih =>
  have u1 : ∀ q, In q c → In q p := fun q hq => by have := in_up hq; rwa [hc] at this
  refine .up p c s b p1 p2 hc hs hcs (sb.same (fun q hq => ?_) (fun a ha => ?_)) ?_ (ih (fun q => (h1 q).imp (u1 q) id) (fun a => (h2 a).imp (u1 _) id))
  ·rcases h1 q with h | h
   ·exact absurd (in_apart h hq (by omega) (by omega)) hcs
   ·exact h
  ·rcases h2 a with h | h
   ·exact absurd (in_apart h ha (by omega) (by omega)) hcs
   ·exact h
  ·rcases h1 p with h | h
   ·have := in_ge h; omega
   ·rw [h, hl]
theorem Sub.ctx {n : Nat} {ls : List (List E1)} {lost : List Nat} {k i : Nat} (h : Sub n ls lost k i) : Ctx n ls lost k → Ctx n ls lost (n + i) := by
 induction h with
 | leaf i hi => exact id
 | node k c s a b k1 k2 hc hs hcs sa sb hl hb ih1 _ => exact fun h => ih1 (.up k c s b k1 k2 hc hs hcs sb hl h)
def Tree (ls : List (List E1)) (lost : List Nat) : Prop := Sub ls.length ls lost 1 (lst lost 0)
theorem lst_set (l : List Nat) (i v j : Nat) (hi : i < l.length) : lst (l.set i v) j = if i = j then v else lst l j := by
 unfold lst
 rw [List.getD_eq_getElem?_getD, List.getD_eq_getElem?_getD, List.getElem?_set]
 by_cases h : i = j
 ·rw [if_pos h, if_pos h, if_pos (h ▸ hi)]; rfl
 ·rw [if_neg h, if_neg h]
theorem in_zero {k : Nat} (h : In 0 k) : k = 0 := by
 obtain ⟨t, ht⟩ := h
 rw [Nat.zero_div] at ht
 exact ht.symm
theorem play_tree (ls : List (List E1)) : ∀ (d c j : Nat) (lost : List Nat), c / 2 ≤ d → 1 ≤ c → lost.length = ls.length → 0 < ls.length → Sub ls.length ls lost c j → Ctx ls.length ls lost c → Tree ls (playG ls d (c / 2) j lost) := by
 intro d
 induction d with
 | zero =>
  intro c j lost hd h1 hl hn hs hc
  have e : c = 1 := by omega
  subst e
  rw [playG]
  unfold Tree
  rw [lst_set _ _ _ _ (by omega), if_pos rfl]
  exact hs.same (fun q hq => by
   rw [lst_set _ _ _ _ (by omega), if_neg (fun e => by subst e; have := in_zero hq; omega)]) (fun _ _ => rfl)
 | succ d ih =>
  intro c j lost hd h1 hl hn hs hc
  rw [playG]
  by_cases e : c / 2 = 0
  ·have e1 : c = 1 := by omega
   subst e1
   rw [if_pos rfl]
   unfold Tree
   rw [lst_set _ _ _ _ (by omega), if_pos rfl]
   exact hs.same (fun q hq => by
    rw [lst_set _ _ _ _ (by omega), if_neg (fun e => by subst e; have := in_zero hq; omega)]) (fun _ _ => rfl)
  ·rw [if_neg e]
   cases hc with
   | top => exact absurd rfl e
   | up p c s b p1 p2 hcp hsp hcs sb hlb hcx =>
    subst hcp
    have hset : ∀ v q, q ≠ c / 2 → lst (lost.set (c / 2) v) q = lst lost q := fun v q hq => by rw [lst_set _ _ _ _ (by omega), if_neg (Ne.symm hq)]
    have k1 : ∀ v q, In q c → lst (lost.set (c / 2) v) q = lst lost q := fun v q hq => hset v q (by have := in_ge hq; omega)
    have k2 : ∀ v q, In q s → lst (lost.set (c / 2) v) q = lst lost q := fun v q hq => hset v q (by have := in_ge hq; omega)
    rw [hlb]
    by_cases ha : aheadB ls b j = true
    ·rw [if_pos ha]
     have h2 : Sub ls.length ls (lost.set (c / 2) j) (c / 2) b := .node (c / 2) s c b j p1 p2 hsp rfl (Ne.symm hcs) (sb.same (k2 j) (fun _ _ => rfl)) (hs.same (k1 j) (fun _ _ => rfl)) (by rw [lst_set _ _ _ _ (by omega), if_pos rfl]) (ahead_asymm ha)
     refine ih (c / 2) b _ (by omega) (by omega) (by rw [List.length_set]; exact hl) hn h2 (hcx.same (fun q => ?_) (fun _ => .inr rfl))
     by_cases hq : q = c / 2
     ·exact .inl (hq ▸ in_refl _)
     ·exact .inr (hset j q hq)
    ·have ha : aheadB ls b j = false := by simpa using ha
     rw [if_neg (by rw [ha]; simp)]
     have h2 : Sub ls.length ls lost (c / 2) j := .node (c / 2) c s j b p1 p2 rfl hsp hcs hs sb hlb ha
     exact ih (c / 2) j _ (by omega) (by omega) hl hn h2 hcx
theorem at2_set (ls : List (List E1)) (i : Nat) (l : List E1) (j : Nat) (hi : i < ls.length) : at2 (ls.set i l) j = if i = j then l else at2 ls j := by
 unfold at2
 rw [List.getD_eq_getElem?_getD, List.getD_eq_getElem?_getD, List.getElem?_set]
 by_cases h : i = j
 ·rw [if_pos h, if_pos h, if_pos (h ▸ hi)]; rfl
 ·rw [if_neg h, if_neg h]
theorem turn_tree {ls : List (List E1)} {lost : List Nat} (hf : Fit ls lost) (h : Tree ls lost) (l : List E1) :
  Tree (ls.set (lst lost 0) l) (playG (ls.set (lst lost 0) l) ((lst lost 0 + ls.length) / 2) ((lst lost 0 + ls.length) / 2) (lst lost 0) lost) := by
 unfold Tree at h
 have hi := h.in_.2
 have hc := h.ctx .top
 have hlen : (ls.set (lst lost 0) l).length = ls.length := List.length_set
 have hc2 : Ctx (ls.set (lst lost 0) l).length (ls.set (lst lost 0) l) lost (ls.length + lst lost 0) := by
  rw [hlen]
  refine hc.same (fun q => .inr rfl) (fun a => ?_)
  by_cases ha : a = lst lost 0
  ·exact .inl (ha ▸ in_refl _)
  ·exact .inr (by rw [at2_set _ _ _ _ hi, if_neg (Ne.symm ha)])
 have hs : Sub (ls.set (lst lost 0) l).length (ls.set (lst lost 0) l) lost (ls.length + lst lost 0) (lst lost 0) := by
  rw [hlen]
  exact .leaf _ hi
 rw [Nat.add_comm (lst lost 0)]
 exact play_tree _ _ (ls.length + lst lost 0) (lst lost 0) lost (Nat.le_refl _) (by have := hf.1; omega) (by rw [hlen]; exact hf.2.2.1) (by rw [hlen]; exact hf.1) hs hc2
theorem grow_sub (ls : List (List E1)) : ∀ (k : Nat) (win lost : List Nat), k < ls.length → win.length = 2 * ls.length → lost.length = ls.length → (∀ q, k < q → q < 2 * ls.length → Sub ls.length ls lost q (lst win q)) →
  ∀ q, 0 < q → q < 2 * ls.length → Sub ls.length ls (growL ls k win lost).2 q (lst (growL ls k win lost).1 q)
 | 0, win, lost, _, _, _, h => h
 | k + 1, win, lost, hk, hw, hl, h => by
  have sa := h (2 * (k + 1)) (by omega) (by omega)
  have sb := h (2 * (k + 1) + 1) (by omega) (by omega)
  have hset : ∀ v q, q ≠ k + 1 → lst (lost.set (k + 1) v) q = lst lost q := fun v q hq => by rw [lst_set _ _ _ _ (by omega), if_neg (Ne.symm hq)]
  have kk : ∀ v q, k + 1 < q → ∀ r, In r q → lst (lost.set (k + 1) v) r = lst lost r := fun v q hq r hr => hset v r (by have := in_ge hr; omega)
  rw [growL]
  by_cases ha : aheadB ls (lst win (2 * (k + 1) + 1)) (lst win (2 * (k + 1))) = true
  ·rw [if_pos ha]
   refine grow_sub ls k _ _ (by omega) (by rw [List.length_set]; exact hw) (by rw [List.length_set]; exact hl) (fun q h1 h2 => ?_)
   rw [lst_set _ _ _ _ (by omega)]
   by_cases hq : k + 1 = q
   ·subst hq
    rw [if_pos rfl]
    exact .node (k + 1) (2 * (k + 1) + 1) (2 * (k + 1)) _ _ (by omega) hk (by omega) (by omega) (by omega) (sb.same (kk _ _ (by omega)) (fun _ _ => rfl)) (sa.same (kk _ _ (by omega)) (fun _ _ => rfl)) (by rw [lst_set _ _ _ _ (by omega), if_pos rfl]) (ahead_asymm ha)
   ·rw [if_neg hq]
    exact (h q (by omega) h2).same (kk _ _ (by omega)) (fun _ _ => rfl)
  ·have ha : aheadB ls (lst win (2 * (k + 1) + 1)) (lst win (2 * (k + 1))) = false := by simpa using ha
   rw [if_neg (by rw [ha]; simp)]
   refine grow_sub ls k _ _ (by omega) (by rw [List.length_set]; exact hw) (by rw [List.length_set]; exact hl) (fun q h1 h2 => ?_)
   rw [lst_set _ _ _ _ (by omega)]
   by_cases hq : k + 1 = q
   ·subst hq
    rw [if_pos rfl]
    exact .node (k + 1) (2 * (k + 1)) (2 * (k + 1) + 1) _ _ (by omega) hk (by omega) (by omega) (by omega) (sa.same (kk _ _ (by omega)) (fun _ _ => rfl)) (sb.same (kk _ _ (by omega)) (fun _ _ => rfl)) (by rw [lst_set _ _ _ _ (by omega), if_pos rfl]) ha
   ·rw [if_neg hq]
    exact (h q (by omega) h2).same (kk _ _ (by omega)) (fun _ _ => rfl)
theorem winI_at (n i : Nat) (h : i < n) : lst (winI n n) (n + i) = i := by
 unfold lst winI
 rw [List.getD_eq_getElem?_getD, List.getElem?_append_right (by rw [List.length_replicate]; omega), List.length_replicate, Nat.add_sub_cancel_left, List.getElem?_append_left (by rw [List.length_range]; exact h), List.getElem?_range h]
 rfl
theorem grow_tree (ls : List (List E1)) (h0 : 0 < ls.length) : Tree ls (growG ls) := by
 have h := grow_sub ls (ls.length - 1) (winI ls.length ls.length) (List.replicate ls.length 0) (by omega) (winI_len _ _ (Nat.le_refl _)) List.length_replicate (fun q h1 h2 => by
  have := winI_at ls.length (q - ls.length) (by omega)
  rw [show ls.length + (q - ls.length) = q by omega] at this
  rw [this]
  have e := Sub.leaf (n := ls.length) (ls := ls) (lost := List.replicate ls.length 0) (q - ls.length) (by omega)
  rwa [show ls.length + (q - ls.length) = q by omega] at e) 1 (by omega) (by omega)
 have hlen := (growL_lt ls ls.length (ls.length - 1) (winI ls.length ls.length) (List.replicate ls.length 0) (winI_lt _ h0) (fun x hx => by rw [(List.mem_replicate.1 hx).2]; exact h0) (by rw [winI_len _ _ (Nat.le_refl _)]; omega)).2.2.2
 rw [List.length_replicate] at hlen
 unfold Tree growG
 show Sub ls.length ls ((growL ls (ls.length - 1) (winI ls.length ls.length) (List.replicate ls.length 0)).2.set 0 (lst (growL ls (ls.length - 1) (winI ls.length ls.length) (List.replicate ls.length 0)).1 1)) 1 (lst ((growL ls (ls.length - 1) (winI ls.length ls.length) (List.replicate ls.length 0)).2.set 0 (lst (growL ls (ls.length - 1) (winI ls.length ls.length) (List.replicate ls.length 0)).1 1)) 0)
 rw [lst_set _ _ _ 0 (by omega), if_pos rfl]
 exact h.same (fun q hq => by
  rw [lst_set _ _ _ _ (by omega), if_neg (fun e => by subst e; have := in_zero hq; omega)]) (fun _ _ => rfl)
theorem top_least {ls : List (List E1)} {lost : List Nat} (hf : Fit ls lost) (h : Tree ls lost) : lst lost 0 < ls.length ∧ ∀ j, j < ls.length → aheadB ls j (lst lost 0) = false := by
 unfold Tree at h
 exact ⟨h.in_.2, fun j hj => h.least j hj (in_one _ (by have := hf.1; omega))⟩
end Go.Proofs.Ytiohnpphhepdfaa.LoserLib
end
section
namespace Go.Proofs.Ytiohnpphhepdfaa.LoserLib
open Go.RowKit Go.Proofs.Ytiohnpphhepdfaa.PPa Go.Proofs.YtiohnpphhepdfaaW.PrintWords Go.Proofs.YtiohnpphhepdfaaW.PrintLast Go.Proofs.YtiohnpphhepdfaaW.PrintMore
set_option linter.unusedVariables false
set_option linter.unusedSimpArgs false
open Go.Proofs.Ytiohnpphhepdfaa.RunLib (toList_data toList_inj toList_nil fineS less rises mayS rdT_eq fine_f may_f mayS_cases mayS_zero same_f)
abbrev MAXC : Int := 4611686018427387904
def cnt : List E1 → List UInt8 → Int
 | [], _ => 0
 | x :: l, w => (if key x = w then x.f1 else 0) + cnt l w
def Ris (l : List E1) : Prop := l.Pairwise (fun a b => Op.bytesLess (key a) (key b) = true)
def Pos (l : List E1) : Prop := ∀ x ∈ l, 1 ≤ x.f1 ∧ x.f1 ≤ MAXC
theorem cnt_append (a b : List E1) (w : List UInt8) : cnt (a ++ b) w = cnt a w + cnt b w := by
 induction a with
 | nil => simp [cnt]
 | cons x a ih => rw [List.cons_append, cnt, cnt, ih]; omega
theorem cnt_ge {l : List E1} (h : Pos l) (w : List UInt8) : 0 ≤ cnt l w := by
 induction l with
 | nil => simp [cnt]
 | cons x l ih =>
  have h1 := h x List.mem_cons_self
  have h2 := ih (fun y hy => h y (List.mem_cons_of_mem _ hy))
  rw [cnt]
  split <;> omega
theorem cnt_mem {l : List E1} (h : Pos l) {x : E1} (hx : x ∈ l) : x.f1 ≤ cnt l (key x) := by
 induction l with
 | nil => simp at hx
 | cons y l ih =>
  have hp : Pos l := fun z hz => h z (List.mem_cons_of_mem _ hz)
  have h2 := cnt_ge hp (key x)
  rw [cnt]
  rcases List.mem_cons.1 hx with rfl | hx
  ·rw [if_pos rfl]; omega
  ·have h3 := ih hp hx
   have h1 := h y List.mem_cons_self
   split <;> omega
theorem cnt_none {l : List E1} {w : List UInt8} (h : ∀ x ∈ l, key x ≠ w) : cnt l w = 0 := by
 induction l with
 | nil => rfl
 | cons x l ih => rw [cnt, if_neg (h x List.mem_cons_self), ih (fun y hy => h y (List.mem_cons_of_mem _ hy))]; rfl
theorem cnt_one {l : List E1} (hr : Ris l) {x : E1} (hx : x ∈ l) : cnt l (key x) = x.f1 := by
 induction l with
 | nil => simp at hx
 | cons y l ih =>
  have hr' := List.pairwise_cons.1 hr
  rw [cnt]
  rcases List.mem_cons.1 hx with rfl | hx
  ·rw [if_pos rfl, cnt_none (fun z hz e => by have := hr'.1 z hz; rw [e, bl_irrefl] at this; simp at this)]
   omega
  ·rw [if_neg (fun e => by have := hr'.1 x hx; rw [e, bl_irrefl] at this; simp at this), ih hr'.2 hx]
   omega
theorem cnt_small {l : List E1} (hr : Ris l) (hp : Pos l) (w : List UInt8) : cnt l w ≤ MAXC := by
 by_cases h : ∃ x ∈ l, key x = w
 ·obtain ⟨x, hx, rfl⟩ := h
  rw [cnt_one hr hx]
  exact (hp x hx).2
 ·rw [cnt_none (fun x hx e => h ⟨x, hx, e⟩)]
  decide
theorem entry_ext {x y : E1} (h1 : key x = key y) (h2 : x.f1 = y.f1) : x = y := by
 cases x; cases y
 have := toList_inj.1 h1
 simp only at this h2
 rw [this, h2]
theorem ris_same : ∀ {a b : List E1}, Ris a → Ris b → Pos a → Pos b → (∀ w, cnt a w = cnt b w) → a = b
 | [], [], _, _, _, _, _ => rfl
 | [], y :: b, _, _, _, hb, h => by
  have h1 := cnt_mem hb (List.mem_cons_self (a := y) (l := b))
  have h2 := (hb y List.mem_cons_self).1
  have h3 := h (key y)
  rw [cnt] at h3
  omega
 | x :: a, [], _, _, ha, _, h => by
  have h1 := cnt_mem ha (List.mem_cons_self (a := x) (l := a))
  have h2 := (ha x List.mem_cons_self).1
  have h3 := h (key x)
  rw [show cnt [] (key x) = 0 from rfl] at h3
  omega
 | x :: a, y :: b, ra, rb, pa, pb, h => by
  have ra' := List.pairwise_cons.1 ra
  have rb' := List.pairwise_cons.1 rb
  have hx := h (key x)
  have hy := h (key y)
  have k1 := cnt_mem pa (List.mem_cons_self (a := x) (l := a))
  have k2 := (pa x List.mem_cons_self).1
  have k3 := cnt_mem pb (List.mem_cons_self (a := y) (l := b))
  have k4 := (pb y List.mem_cons_self).1
  have hk : key x = key y := by
   cases h1 : Op.bytesLess (key x) (key y) with
   | true =>
    have : cnt (y :: b) (key x) = 0 := cnt_none (fun z hz e => by
     rcases List.mem_cons.1 hz with rfl | hz
     ·rw [e, bl_irrefl] at h1; simp at h1
     ·have := bl_trans _ _ _ h1 (rb'.1 z hz)
      rw [e, bl_irrefl] at this; simp at this)
    omega
   | false =>
    cases h2 : Op.bytesLess (key y) (key x) with
    | true =>
     have : cnt (x :: a) (key y) = 0 := cnt_none (fun z hz e => by
      rcases List.mem_cons.1 hz with rfl | hz
      ·rw [e, bl_irrefl] at h2; simp at h2
      ·have := bl_trans _ _ _ h2 (ra'.1 z hz)
       rw [e, bl_irrefl] at this; simp at this)
     omega
    | false => exact bl_tri _ _ h1 h2
  have e1 := cnt_one ra (List.mem_cons_self (a := x) (l := a))
  have e2 := cnt_one rb (List.mem_cons_self (a := y) (l := b))
  rw [← hk] at e2
  have hxy : x = y := entry_ext hk (by omega)
  subst hxy
  have := ris_same ra'.2 rb'.2 (fun z hz => pa z (List.mem_cons_of_mem _ hz)) (fun z hz => pb z (List.mem_cons_of_mem _ hz)) (fun w => by
   have := h w
   rw [cnt, cnt] at this
   omega)
  rw [this]
def Res (E : List E1) (r : List E1 × Int) : Prop :=
 (r.2 = 0 ∧ Ris r.1 ∧ Pos r.1 ∧ ∀ w, cnt r.1 w = cnt E w) ∨ (r = ([], 5) ∧ ∃ w, MAXC < cnt E w)
theorem res_same {E E' : List E1} {r r' : List E1 × Int} (h : Res E r) (h' : Res E' r') (he : ∀ w, cnt E w = cnt E' w) : r = r' := by
 rcases h with ⟨h1, h2, h3, h4⟩ | ⟨h1, w, h2⟩
 ·rcases h' with ⟨g1, g2, g3, g4⟩ | ⟨g1, w, g2⟩
  ·have := ris_same h2 g2 h3 g3 (fun w => by rw [h4, g4, he])
   exact Prod.ext this (h1.trans g1.symm)
  ·have := cnt_small h2 h3 w
   rw [h4, he] at this
   omega
 ·rcases h' with ⟨g1, g2, g3, g4⟩ | ⟨g1, _⟩
  ·have := cnt_small g2 g3 w
   rw [g4, ← he] at this
   omega
  ·rw [h1, g1]
theorem add_f (a b : Int) (ha : 0 ≤ a ∧ a ≤ MAXC) (hb : 0 ≤ b ∧ b ≤ MAXC) : num_Add.f a b = some (if a + b ≤ MAXC then (a + b, true) else (0, false)) := by
 have hM : MAXC = 4611686018427387904 := rfl
 rw [hM] at ha hb ⊢
 unfold num_Add.f
 have w1 : IntKind.u64.wrap (4611686018427387904 - a) = 4611686018427387904 - a := by simp only [IntKind.wrap, IntKind.bits, IntKind.signed]; simp; omega
 rw [if_neg (by omega), w1]
 by_cases h : a + b ≤ 4611686018427387904
 ·have w2 : IntKind.u64.wrap (a + b) = a + b := by simp only [IntKind.wrap, IntKind.bits, IntKind.signed]; simp; omega
  rw [if_neg (by omega), if_pos h, w2]
 ·rw [if_pos (by omega), if_neg h]
theorem rises_ris : ∀ {l : List E1}, rises l = true → Ris l
 | [], _ => List.Pairwise.nil
 | [x], _ => List.pairwise_singleton _ _
 | x :: y :: l, h => by
  rw [rises, Bool.and_eq_true] at h
  have ih := rises_ris h.2
  refine List.pairwise_cons.2 ⟨fun z hz => ?_, ih⟩
  rcases List.mem_cons.1 hz with rfl | hz
  ·exact h.1
  ·exact bl_trans _ _ _ h.1 ((List.pairwise_cons.1 ih).1 z hz)
theorem ris_rises : ∀ {l : List E1}, Ris l → rises l = true
 | [], _ => rfl
 | [x], _ => rfl
 | x :: y :: l, h => by
  have h' := List.pairwise_cons.1 h
  rw [rises, Bool.and_eq_true]
  exact ⟨h'.1 y List.mem_cons_self, ris_rises h'.2⟩
theorem may_ris {l : List E1} (h : mayS l = 0) : Ris l ∧ Pos l := by
 obtain ⟨h1, h2⟩ := mayS_zero h
 exact ⟨rises_ris h2, fun x hx => (h1 x hx).2.2⟩
theorem ris_len_le : ∀ (l E : List E1), Ris l → Pos l → (∀ w, 0 < cnt l w → ∃ x ∈ E, key x = w) → l.length ≤ E.length
 | [], E, _, _, _ => by simp
 | x :: l, E, hr, hp, h => by
  have hr' := List.pairwise_cons.1 hr
  have hx := hp x List.mem_cons_self
  obtain ⟨y, hy, hk⟩ := h (key x) (by have := cnt_mem hp (List.mem_cons_self (a := x) (l := l)); omega)
  have hp' : Pos l := fun z hz => hp z (List.mem_cons_of_mem _ hz)
  have := ris_len_le l (E.filter (fun z => decide (key z ≠ key x))) hr'.2 hp' (fun w hw => by
   have hne : w ≠ key x := fun e => by
    rw [e, cnt_none (fun z hz q => by have := hr'.1 z hz; rw [q, bl_irrefl] at this; simp at this)] at hw
    omega
   obtain ⟨z, hz, hzk⟩ := h w (by rw [cnt]; split <;> omega)
   exact ⟨z, List.mem_filter.2 ⟨hz, by rw [hzk]; exact decide_eq_true hne⟩, hzk⟩)
  have hlt : (E.filter (fun z => decide (key z ≠ key x))).length < E.length := by
   rcases Nat.lt_or_ge (E.filter (fun z => decide (key z ≠ key x))).length E.length with h | h
   ·exact h
   ·have := (List.filter_sublist (p := fun z => decide (key z ≠ key x)) (l := E)).eq_of_length_le h
    rw [← this] at hy
    have := (List.mem_filter.1 hy).2
    simp [hk] at this
  rw [List.length_cons]
  omega
theorem cnt_has : ∀ {E : List E1} {w : List UInt8}, 0 < cnt E w → ∃ x ∈ E, key x = w
 | [], w, h => by simp [cnt] at h
 | x :: E, w, h => by
  rw [cnt] at h
  by_cases hk : key x = w
  ·exact ⟨x, List.mem_cons_self, hk⟩
  ·rw [if_neg hk] at h
   obtain ⟨y, hy, hyk⟩ := cnt_has (E := E) (w := w) (by omega)
   exact ⟨y, List.mem_cons_of_mem _ hy, hyk⟩
theorem ris_len {l E : List E1} (hr : Ris l) (hp : Pos l) (h : ∀ w, cnt l w = cnt E w) {n : Nat} (hE : E.length < n) : l.length < n := by
 have := ris_len_le l E hr hp (fun w hw => cnt_has (by rw [← h]; exact hw))
 omega
end Go.Proofs.Ytiohnpphhepdfaa.LoserLib
end
section
namespace Go.Proofs.Ytiohnpphhepdfaa.LoserLib
open Go.RowKit Go.Proofs.Ytiohnpphhepdfaa.PPa Go.Proofs.YtiohnpphhepdfaaW.PrintWords Go.Proofs.YtiohnpphhepdfaaW.PrintLast Go.Proofs.YtiohnpphhepdfaaW.PrintMore
set_option linter.unusedVariables false
set_option linter.unusedSimpArgs false
open Go.Proofs.Ytiohnpphhepdfaa.RunLib (toList_data toList_inj toList_nil fineS less rises mayS rdT_eq fine_f may_f mayS_cases mayS_zero same_f)
theorem flat_set : ∀ (ls : List (List E1)) (i : Nat) (l : List E1) (w : List UInt8) (hi : i < ls.length), cnt (ls.set i l).flatten w + cnt ls[i] w = cnt ls.flatten w + cnt l w
 | [], i, l, w, hi => by simp at hi
 | a :: ls, 0, l, w, hi => by
  rw [List.set_cons_zero, List.flatten_cons, List.flatten_cons, cnt_append, cnt_append, List.getElem_cons_zero]
  omega
 | a :: ls, i + 1, l, w, hi => by
  have ih := flat_set ls i l w (by simpa using hi)
  rw [List.set_cons_succ, List.flatten_cons, List.flatten_cons, cnt_append, cnt_append, List.getElem_cons_succ]
  omega
theorem flat_set_len : ∀ (ls : List (List E1)) (i : Nat) (l : List E1) (hi : i < ls.length), (ls.set i l).flatten.length + ls[i].length = ls.flatten.length + l.length
 | [], i, l, hi => by simp at hi
 | a :: ls, 0, l, hi => by
  rw [List.set_cons_zero, List.flatten_cons, List.flatten_cons, List.length_append, List.length_append, List.getElem_cons_zero]
  omega
 | a :: ls, i + 1, l, hi => by
  have ih := flat_set_len ls i l (by simpa using hi)
  rw [List.set_cons_succ, List.flatten_cons, List.flatten_cons, List.length_append, List.length_append, List.getElem_cons_succ]
  omega
theorem at2_eq (ls : List (List E1)) (i : Nat) (hi : i < ls.length) : at2 ls i = ls[i] := by
 unfold at2
 rw [List.getD_eq_getElem?_getD, List.getElem?_eq_getElem hi]
 rfl
theorem hd_drop (l : List E1) (h : l.length ≠ 0) : l = hdE l :: l.drop 1 := by
 cases l with
 | nil => exact absurd rfl h
 | cons x l => rfl
theorem next_spec {ls : List (List E1)} {lost : List Nat} (hf : Fit ls lost) (ht : Tree ls lost) (hl : ∀ l ∈ ls, Ris l ∧ Pos l) :
  (∀ l ∈ (nextG ls lost).1, Ris l ∧ Pos l) ∧ Tree (nextG ls lost).1 (nextG ls lost).2.1 ∧
  ((nextG ls lost).2.2.2 = true → (∀ w, cnt [(nextG ls lost).2.2.1] w + cnt (nextG ls lost).1.flatten w = cnt ls.flatten w) ∧ (nextG ls lost).1.flatten.length + 1 = ls.flatten.length ∧ (nextG ls lost).2.2.1 ∈ ls.flatten ∧ (∀ y ∈ (nextG ls lost).1.flatten, y ∈ ls.flatten) ∧ ∀ y ∈ ls.flatten, Op.bytesLess (key y) (key (nextG ls lost).2.2.1) = false) ∧
  ((nextG ls lost).2.2.2 = false → (nextG ls lost).1.flatten = [] ∧ ls.flatten = []) := by
 obtain ⟨hi, hmin⟩ := top_least hf ht
 unfold nextG
 by_cases h : (at2 ls (lst lost 0)).length = 0
 ·rw [if_pos h]
  refine ⟨hl, ht, fun h => by simp at h, fun _ => ?_⟩
  have : ls.flatten = [] := by
   apply List.flatten_eq_nil_iff.2
   intro l hlm
   obtain ⟨j, hj, rfl⟩ := List.getElem_of_mem hlm
   have := hmin j hj
   unfold aheadB at this
   by_cases hz : (at2 ls j).length = 0
   ·rw [at2_eq ls j hj] at hz
    exact List.eq_nil_of_length_eq_zero hz
   ·rw [if_neg hz, if_pos h] at this
    simp at this
  exact ⟨this, this⟩
 ·rw [if_neg h]
  have hat := at2_eq ls (lst lost 0) hi
  have hmem : at2 ls (lst lost 0) ∈ ls := by rw [hat]; exact List.getElem_mem hi
  have hcons := hd_drop _ h
  obtain ⟨hr, hp⟩ := hl _ hmem
  have hsub : ∀ l ∈ ls.set (lst lost 0) ((at2 ls (lst lost 0)).drop 1), ∃ l' ∈ ls, l.Sublist l' := by
   intro l hlm
   rcases List.mem_or_eq_of_mem_set hlm with h | h
   ·exact ⟨l, h, List.Sublist.refl _⟩
   ·exact ⟨_, hmem, by rw [h]; exact List.drop_sublist _ _⟩
  refine ⟨fun l hlm => ?_, turn_tree hf ht _, fun _ => ⟨fun w => ?_, ?_, ?_, fun y hy => ?_, fun y hy => ?_⟩, fun h => by simp at h⟩
  ·obtain ⟨l', h1, h2⟩ := hsub l hlm
   exact ⟨(hl l' h1).1.sublist h2, fun x hx => (hl l' h1).2 x (h2.subset hx)⟩
  ·have := flat_set ls (lst lost 0) ((at2 ls (lst lost 0)).drop 1) w hi
   rw [← hat] at this
   have e : cnt (at2 ls (lst lost 0)) w = cnt [hdE (at2 ls (lst lost 0))] w + cnt ((at2 ls (lst lost 0)).drop 1) w := by
    rw [← cnt_append]
    exact congrArg (fun l => cnt l w) hcons
   show cnt [hdE (at2 ls (lst lost 0))] w + cnt (ls.set (lst lost 0) ((at2 ls (lst lost 0)).drop 1)).flatten w = cnt ls.flatten w
   omega
  ·have := flat_set_len ls (lst lost 0) ((at2 ls (lst lost 0)).drop 1) hi
   rw [← hat, List.length_drop] at this
   show (ls.set (lst lost 0) ((at2 ls (lst lost 0)).drop 1)).flatten.length + 1 = ls.flatten.length
   omega
  ·exact List.mem_flatten.2 ⟨_, hmem, by
    show hdE (at2 ls (lst lost 0)) ∈ at2 ls (lst lost 0)
    rw [hcons]; exact List.mem_cons_self⟩
  ·obtain ⟨l, hlm, hyl⟩ := List.mem_flatten.1 hy
   obtain ⟨l', h1, h2⟩ := hsub l hlm
   exact List.mem_flatten.2 ⟨l', h1, h2.subset hyl⟩
  ·obtain ⟨l, hlm, hyl⟩ := List.mem_flatten.1 hy
   obtain ⟨j, hj, rfl⟩ := List.getElem_of_mem hlm
   have hz : (at2 ls j).length ≠ 0 := by
    rw [at2_eq ls j hj]
    intro e
    rw [List.eq_nil_of_length_eq_zero e] at hyl
    simp at hyl
   have hm := hmin j hj
   unfold aheadB at hm
   rw [if_neg hz, if_neg h] at hm
   rw [← at2_eq ls j hj] at hyl
   have hrj := (hl _ hlm).1
   rw [← at2_eq ls j hj, hd_drop _ hz] at hrj
   rw [hd_drop _ hz] at hyl
   show Op.bytesLess (key y) (key (hdE (at2 ls (lst lost 0)))) = false
   rcases List.mem_cons.1 hyl with rfl | hyl
   ·exact hm
   ·exact bl_neg hm (bl_asymm ((List.pairwise_cons.1 hrj).1 y hyl))
structure Inv (E : List E1) (ls : List (List E1)) (lost : List Nat) (x : E1) (b : Bool) (out : List E1) : Prop where
 fit : Fit ls lost
 tree : Tree ls lost
 lists : ∀ l ∈ ls, Ris l ∧ Pos l
 sum : ∀ w, cnt out w + (if b = true then cnt [x] w else 0) + cnt ls.flatten w = cnt E w
 ris : Ris out
 pos : Pos out
 xpos : b = true → 1 ≤ x.f1 ∧ x.f1 ≤ MAXC
 behind : b = true → ∀ y ∈ out, Op.bytesLess (key x) (key y) = false
 ahead : b = true → ∀ y ∈ ls.flatten, Op.bytesLess (key y) (key x) = false
 done : b = false → ls.flatten = []
theorem flat_pos {ls : List (List E1)} (h : ∀ l ∈ ls, Ris l ∧ Pos l) : Pos ls.flatten := fun x hx => by
 obtain ⟨l, h1, h2⟩ := List.mem_flatten.1 hx
 exact (h l h1).2 x h2
theorem Inv.next {E : List E1} {ls : List (List E1)} {lost : List Nat} {x : E1} {out out' : List E1} (h : Inv E ls lost x true out) (hs : ∀ w, cnt out' w = cnt out w + cnt [x] w) (hr : Ris out') (hp : Pos out') (hb : ∀ y ∈ out', Op.bytesLess (key x) (key y) = false) :
  Inv E (nextG ls lost).1 (nextG ls lost).2.1 (nextG ls lost).2.2.1 (nextG ls lost).2.2.2 out' := by
 obtain ⟨n1, n2, n3, n4⟩ := next_spec h.fit h.tree h.lists
 refine ⟨h.fit.next, n2, n1, fun w => ?_, hr, hp, fun hn => ?_, fun hn y hy => ?_, fun hn y hy => ?_, fun hn => (n4 hn).1⟩
 ·have h1 := h.sum w
  rw [if_pos rfl] at h1
  have h2 := hs w
  cases hn : (nextG ls lost).2.2.2 with
  | true =>
   have h3 := (n3 hn).1 w
   rw [if_pos rfl]
   omega
  | false =>
   have h3 := n4 hn
   rw [if_neg (by simp), h3.1]
   rw [h3.2] at h1
   omega
 ·exact flat_pos h.lists _ (n3 hn).2.2.1
 ·exact bl_neg (hb y hy) (h.ahead rfl _ (n3 hn).2.2.1)
 ·exact (n3 hn).2.2.2.2 y ((n3 hn).2.2.2.1 y hy)
theorem last_app (o : List E1) (z : E1) : lastE (o ++ [z]) = z := by
 unfold lastE
 rw [List.length_append, List.length_singleton, Nat.add_sub_cancel, List.getD_eq_getElem?_getD, List.getElem?_append_right (Nat.le_refl _), Nat.sub_self]
 rfl
theorem set_app (o : List E1) (z v : E1) : (o ++ [z]).set ((o ++ [z]).length - 1) v = o ++ [v] := by
 rw [List.length_append, List.length_singleton, Nat.add_sub_cancel, List.set_append_right _ _ (Nat.le_refl _), Nat.sub_self]
 rfl
theorem merge_res (E : List E1) : ∀ (d : Nat) (ls : List (List E1)) (lost : List Nat) (x : E1) (b : Bool) (out : List E1), Inv E ls lost x b out → ls.flatten.length < d → out.length + d ≤ 1000000 → ∃ r, mergeL d ls lost x b out = some r ∧ Res E r := by
 intro d
 induction d with
 | zero => intro ls lost x b out h hd _; omega
 | succ d ih =>
  intro ls lost x b out h hd hlim
  rw [mergeL]
  cases b with
  | false =>
   rw [if_neg (by simp)]
   refine ⟨_, rfl, .inl ⟨rfl, h.ris, h.pos, fun w => ?_⟩⟩
   have h1 := h.sum w
   rw [if_neg (by simp), h.done rfl] at h1
   rw [show cnt ([] : List E1) w = 0 from rfl] at h1
   show cnt out w = cnt E w
   omega
  | true =>
   rw [if_pos rfl]
   have hx := h.xpos rfl
   have hlen : (nextG ls lost).2.2.2 = true → (nextG ls lost).1.flatten.length + 1 = ls.flatten.length := fun hn => ((next_spec h.fit h.tree h.lists).2.2.1 hn).2.1
   have hlen2 : (nextG ls lost).1.flatten.length < d ∨ (nextG ls lost).2.2.2 = false := by
    cases hn : (nextG ls lost).2.2.2 with
    | true => exact .inl (by have := hlen hn; omega)
    | false => exact .inr rfl
   have go : ∀ out', Inv E (nextG ls lost).1 (nextG ls lost).2.1 (nextG ls lost).2.2.1 (nextG ls lost).2.2.2 out' → out'.length ≤ out.length + 1 → ∃ r, mergeL d (nextG ls lost).1 (nextG ls lost).2.1 (nextG ls lost).2.2.1 (nextG ls lost).2.2.2 out' = some r ∧ Res E r := by
    intro out' hi ho
    rcases hlen2 with hl | hl
    ·exact ih _ _ _ _ _ hi hl (by omega)
    ·cases d with
     | zero =>
      rw [hl] at hi ⊢
      rw [mergeL, if_neg (by simp)]
      refine ⟨_, rfl, .inl ⟨rfl, hi.ris, hi.pos, fun w => ?_⟩⟩
      have h1 := hi.sum w
      rw [if_neg (by simp), hi.done rfl] at h1
      rw [show cnt ([] : List E1) w = 0 from rfl] at h1
      show cnt out' w = cnt E w
      omega
     | succ d => exact ih _ _ _ _ _ hi (by rw [hi.done hl]; simp) (by omega)
   rcases List.eq_nil_or_concat out with rfl | ⟨o, z, ho⟩
   ·rw [if_neg (by simp), if_pos (by simp)]
    refine go _ (h.next (fun w => ?_) (List.pairwise_singleton _ _) (fun y hy => ?_) (fun y hy => ?_)) (by simp)
    ·simp [cnt]
    ·rw [List.nil_append, List.mem_singleton] at hy; rw [hy]; exact hx
    ·rw [List.nil_append, List.mem_singleton] at hy; rw [hy]; exact bl_irrefl _
   ·rw [List.concat_eq_append] at ho
    subst ho
    rw [last_app]
    have hri := List.pairwise_append.1 h.ris
    have hz := h.pos z (List.mem_append_right _ List.mem_cons_self)
    have hbz := h.behind rfl z (List.mem_append_right _ List.mem_cons_self)
    have hoz : ∀ y ∈ o, Op.bytesLess (key y) (key z) = true := fun y hy => hri.2.2 y hy z List.mem_cons_self
    have hpo : Pos o := fun y hy => h.pos y (List.mem_append_left _ hy)
    by_cases hk : key z = key x
    ·rw [if_pos ⟨by simp, hk⟩, add_f _ _ ⟨by omega, hz.2⟩ ⟨by omega, hx.2⟩, Option.bind_some]
     by_cases hfit : z.f1 + x.f1 ≤ MAXC
     ·rw [if_pos hfit, if_pos rfl, set_app]
      refine go _ (h.next (fun w => ?_) ?_ (fun y hy => ?_) (fun y hy => ?_)) (by simp)
      ·rw [cnt_append, cnt_append]
       simp only [cnt]
       have : key (⟨z.f0, z.f1 + x.f1⟩ : E1) = key z := rfl
       rw [this, hk]
       split <;> omega
      ·refine List.pairwise_append.2 ⟨hri.1, List.pairwise_singleton _ _, fun y hy v hv => ?_⟩
       rw [List.mem_singleton.1 hv]
       exact hoz y hy
      ·rcases List.mem_append.1 hy with hy | hy
       ·exact hpo y hy
       ·rw [List.mem_singleton.1 hy]
        exact ⟨by show 1 ≤ z.f1 + x.f1; omega, hfit⟩
      ·rcases List.mem_append.1 hy with hy | hy
       ·exact h.behind rfl y (List.mem_append_left _ hy)
       ·rw [List.mem_singleton.1 hy]
        exact hbz
     ·rw [if_neg hfit, if_neg (by simp)]
      refine ⟨_, rfl, .inr ⟨rfl, key x, ?_⟩⟩
      have h1 := h.sum (key x)
      have h2 := cnt_ge hpo (key x)
      have h3 := cnt_ge (flat_pos h.lists) (key x)
      rw [if_pos rfl, cnt_append] at h1
      simp only [cnt] at h1
      rw [if_pos hk, if_pos trivial] at h1
      omega
    ·rw [if_neg (fun h => hk h.2), if_pos (by omega)]
     have hzx : Op.bytesLess (key z) (key x) = true := by
      cases hq : Op.bytesLess (key z) (key x) with
      | true => rfl
      | false => exact absurd (bl_tri _ _ hq hbz) hk
     refine go _ (h.next (fun w => cnt_append _ _ w) ?_ (fun y hy => ?_) (fun y hy => ?_)) (by rw [List.length_append, List.length_singleton]; exact Nat.le_refl _)
     ·refine List.pairwise_append.2 ⟨h.ris, List.pairwise_singleton _ _, fun y hy v hv => ?_⟩
      rw [List.mem_singleton.1 hv]
      rcases List.mem_append.1 hy with hy | hy
      ·exact bl_trans _ _ _ (hoz y hy) hzx
      ·rw [List.mem_singleton.1 hy]
       exact hzx
     ·rcases List.mem_append.1 hy with hy | hy
      ·exact h.pos y hy
      ·rw [List.mem_singleton.1 hy]; exact hx
     ·rcases List.mem_append.1 hy with hy | hy
      ·exact h.behind rfl y hy
      ·rw [List.mem_singleton.1 hy]; exact bl_irrefl _
theorem mays_f (k : Nat) : ∀ (ls : List (List E1)), (∀ l ∈ ls, l.length + 2 < k ∧ l.length < 1000000000) → mays k ls = some (((ls.map mayS).find? (· ≠ 0)).getD 0)
 | [], _ => rfl
 | l :: r, h => by
  have h1 := h l List.mem_cons_self
  rw [mays, may_f k l h1.2 h1.1, Option.bind_some, List.map_cons]
  by_cases h0 : mayS l = 0
  ·rw [if_pos h0, mays_f k r (fun m hm => h m (List.mem_cons_of_mem _ hm)), List.find?_cons_of_neg (by simpa using h0)]
  ·rw [if_neg h0, List.find?_cons_of_pos (by simpa using h0)]
   rfl
def badS (ls : List (List E1)) : Int := ((ls.map mayS).find? (· ≠ 0)).getD 0
theorem badS_zero {ls : List (List E1)} (h : badS ls = 0) : ∀ l ∈ ls, mayS l = 0 := by
 intro l hl
 unfold badS at h
 cases hf : (ls.map mayS).find? (· ≠ 0) with
 | none =>
  have := List.find?_eq_none.1 hf (mayS l) (List.mem_map_of_mem hl)
  simpa using this
 | some v =>
  rw [hf] at h
  have := List.find?_some hf
  simp at this
  exact absurd h this
theorem merge_f (k : Nat) (ls : List (List E1)) (h256 : ls.length ≤ 256) (hl : ∀ l ∈ ls, l.length ≤ 100000) (hk : 200000 < k) (hkl : ls.flatten.length < k) (hk2 : k ≤ 900000) :
  ∃ r, loser_Merge.f k ls = some r ∧ (badS ls = 0 → Res ls.flatten r) ∧ (badS ls ≠ 0 → r = ([], badS ls)) := by
 unfold loser_Merge.f
 rw [if_neg (by omega), mays_f k ls (fun l hm => by have := hl l hm; omega), Option.bind_some]
 show ∃ r, (if badS ls = 0 then _ else _) = some r ∧ _
 by_cases hb : badS ls = 0
 ·rw [if_pos hb]
  by_cases h0 : ls.length = 0
  ·rw [if_pos h0]
   have : ls = [] := List.eq_nil_of_length_eq_zero h0
   subst this
   exact ⟨_, rfl, fun _ => .inl ⟨rfl, List.Pairwise.nil, fun x hx => by simp at hx, fun w => rfl⟩, fun h => absurd hb h⟩
  ·rw [if_neg h0]
   have hlists : ∀ l ∈ ls, Ris l ∧ Pos l := fun l hm => may_ris (badS_zero hb l hm)
   have hfit := growG_fit (ls := ls) (by omega) (by omega)
   have htree := grow_tree ls (by omega)
   obtain ⟨n1, n2, n3, n4⟩ := next_spec hfit htree hlists
   have hinv : Inv ls.flatten (nextG ls (growG ls)).1 (nextG ls (growG ls)).2.1 (nextG ls (growG ls)).2.2.1 (nextG ls (growG ls)).2.2.2 [] := by
    refine ⟨hfit.next, n2, n1, fun w => ?_, List.Pairwise.nil, fun x hx => by simp at hx, fun hn => flat_pos hlists _ (n3 hn).2.2.1, fun hn y hy => by simp at hy, fun hn y hy => (n3 hn).2.2.2.2 y ((n3 hn).2.2.2.1 y hy), fun hn => (n4 hn).1⟩
    rw [show cnt ([] : List E1) w = 0 from rfl]
    cases hn : (nextG ls (growG ls)).2.2.2 with
    | true =>
     have := (n3 hn).1 w
     rw [if_pos rfl]
     omega
    | false =>
     have := n4 hn
     rw [if_neg (by simp), this.1, this.2]
     rfl
   have hlt : (nextG ls (growG ls)).1.flatten.length < k := by
    cases hn : (nextG ls (growG ls)).2.2.2 with
    | true => have := (n3 hn).2.1; omega
    | false => rw [(n4 hn).1]; simp; omega
   obtain ⟨r, h1, h2⟩ := merge_res ls.flatten k _ _ _ _ [] hinv hlt (by simp; omega)
   exact ⟨r, h1, fun _ => h2, fun h => absurd hb h⟩
 ·rw [if_neg hb]
  exact ⟨_, rfl, fun h => absurd h hb, fun _ => rfl⟩
end Go.Proofs.Ytiohnpphhepdfaa.LoserLib
end
section
namespace Go.Proofs.Ytiohnpphhepdfaa.LoserLib
open Go.RowKit Go.Proofs.Ytiohnpphhepdfaa.PPa Go.Proofs.YtiohnpphhepdfaaW.PrintWords Go.Proofs.YtiohnpphhepdfaaW.PrintLast Go.Proofs.YtiohnpphhepdfaaW.PrintMore
set_option linter.unusedVariables false
set_option linter.unusedSimpArgs false
open Go.Proofs.Ytiohnpphhepdfaa.RunLib (toList_data toList_inj toList_nil fineS less rises mayS rdT_eq fine_f may_f mayS_cases mayS_zero same_f)
theorem rdL_eq (l : List (List E1)) (i : Nat) (h : i < l.length) : rd_L3 l i = l[i] := by
 unfold rd_L3
 rw [Int.toNat_natCast, List.getD_eq_getElem?_getD, List.getElem?_eq_getElem h]
 rfl
theorem wr1 (i : Nat) (h : i ≤ 100000000) : wrap64 ((i : Int) + 1) = ((i + 1 : Nat) : Int) := by unfold wrap64; omega
def Few (l : List (List E1)) : Prop := l.length ≤ 20 ∧ ∀ x ∈ l, x.length ≤ 60
def exA : List (List E1) := [[(⟨(⟨#[97]⟩ : ByteArray), 1⟩ : E1), (⟨(⟨#[98]⟩ : ByteArray), 2⟩ : E1)], [(⟨(⟨#[98]⟩ : ByteArray), 3⟩ : E1)]]
def exB : List E1 := [(⟨(⟨#[97]⟩ : ByteArray), 1⟩ : E1), (⟨(⟨#[98]⟩ : ByteArray), 5⟩ : E1)]
theorem ex_may : mayS exB = 0 := by decide +kernel
theorem ex_bad : badS exA = 0 := by decide +kernel
theorem shown_f (k : Nat) (hk : 200000 < k) (hk2 : k ≤ 900000) : l11_shown.f k = some true := by
 obtain ⟨r, h1, h2, _⟩ := merge_f k exA (by decide) (fun l hl => by
  have : l = exA[0] ∨ l = exA[1] := by
   unfold exA at hl ⊢
   rcases List.mem_cons.1 hl with h | h
   ·exact .inl h
   ·exact .inr (List.mem_singleton.1 h)
  rcases this with h | h <;> rw [h] <;> decide) hk (by
   have : exA.flatten.length = 3 := rfl
   omega) hk2
 have hres := h2 ex_bad
 have hB : Res exA.flatten (exB, 0) := by
  obtain ⟨p1, p2⟩ := may_ris ex_may
  refine .inl ⟨rfl, p1, p2, fun w => ?_⟩
  unfold exA exB
  rw [List.flatten_cons, List.flatten_cons, List.flatten_nil, List.append_nil]
  show cnt [_, _] w = cnt [_, _, _] w
  simp only [cnt]
  have k1 : key (⟨(⟨#[98]⟩ : ByteArray), 5⟩ : E1) = key (⟨(⟨#[98]⟩ : ByteArray), 2⟩ : E1) := rfl
  have k2 : key (⟨(⟨#[98]⟩ : ByteArray), 3⟩ : E1) = key (⟨(⟨#[98]⟩ : ByteArray), 2⟩ : E1) := rfl
  have k3 : key (⟨(⟨#[97]⟩ : ByteArray), 1⟩ : E1) = key (⟨(⟨#[97]⟩ : ByteArray), 1⟩ : E1) := rfl
  rw [k1, k2]
  split <;> split <;> omega
 have e := res_same hres hB (fun _ => rfl)
 unfold l11_shown.f
 show (loser_Merge.f k exA).bind _ = _
 rw [h1, Option.bind_some, e, if_pos rfl]
 show (r08_Same.f k exB exB).bind _ = _
 rw [same_f exB (by decide) k (by
  have : exB.length = 2 := rfl
  omega)]
 rfl
theorem res_may {E : List E1} {r : List E1 × Int} (h : Res E r) (h0 : r.2 = 0) (hf : ∀ x ∈ E, fineS x) : mayS r.1 = 0 ∧ (∀ w, cnt r.1 w = cnt E w) ∧ ∀ w, cnt E w ≤ MAXC := by
 rcases h with ⟨_, h1, h2, h3⟩ | ⟨h, _⟩
 ·refine ⟨?_, h3, fun w => by rw [← h3]; exact cnt_small h1 h2 w⟩
  unfold mayS
  rw [if_pos (fun x hx => ?_), if_pos (ris_rises h1)]
  have hp := h2 x hx
  obtain ⟨y, hy, hk⟩ := cnt_has (E := E) (w := key x) (by rw [← h3]; have := cnt_mem h2 hx; omega)
  have e : y.f0 = x.f0 := toList_inj.1 hk
  have hy' := hf y hy
  unfold fineS at hy' ⊢
  rw [e] at hy'
  exact ⟨hy'.1, hy'.2.1, hp.1, hp.2⟩
 ·rw [h] at h0
  exact absurd h0 (by simp)
theorem badS_of {ls : List (List E1)} (h : ∀ l ∈ ls, mayS l = 0) : badS ls = 0 := by
 unfold badS
 rw [List.find?_eq_none.2 (fun v hv => by
  obtain ⟨l, hl, rfl⟩ := List.mem_map.1 hv
  simpa using h l hl)]
 rfl
theorem flat_fine {ls : List (List E1)} (h : ∀ l ∈ ls, mayS l = 0) : ∀ x ∈ ls.flatten, fineS x := fun x hx => by
 obtain ⟨l, h1, h2⟩ := List.mem_flatten.1 hx
 exact (mayS_zero (h l h1)).1 x h2
end Go.Proofs.Ytiohnpphhepdfaa.LoserLib
end
section
namespace Go.Proofs.Ytiohnpphhepdfaa.RunLib
open Go.RowKit Go.Proofs.Ytiohnpphhepdfaa.PPa Go.Proofs.YtiohnpphhepdfaaW.PrintWords Go.Proofs.YtiohnpphhepdfaaW.PrintLast Go.Proofs.YtiohnpphhepdfaaW.PrintMore Go.Proofs.Ytiohnpphhepdfaa.NumLib Go.Proofs.Ytiohnpphhepdfaa.FrameLib
set_option linter.unusedVariables false
set_option linter.unusedSimpArgs false
def wd (x : S41) : List Int := bytesOf x.f0
def entB (was : List Int) (x : S41) : List Int := putn (sh was (wd x) : Nat) ++ putn (((wd x).length - sh was (wd x) : Nat) : Int) ++ (wd x).drop (sh was (wd x)) ++ putn x.f1
def entsB : List Int → List S41 → List Int
 | _, [] => []
 | was, x :: l => entB was x ++ entsB (wd x) l
def blockB (l : List S41) : List Int := putn (l.length : Int) ++ entsB [] l
theorem wd_len {x : S41} (h : fineS x) : 1 ≤ (wd x).length ∧ (wd x).length ≤ 255 := by
 unfold wd
 rw [bytesOf_len]
 exact ⟨h.1, h.2.1⟩
theorem entB_len (was : List Int) {x : S41} (h : fineS x) : (entB was x).length ≤ 285 := by
 have h1 := wd_len h
 have h2 := (sh_le was (wd x)).2
 have h3 := putn_len ((sh was (wd x) : Nat) : Int) (by omega) (by omega)
 have h4 := putn_len (((wd x).length - sh was (wd x) : Nat) : Int) (by omega) (by omega)
 have h5 := putn_len x.f1 (by have := h.2.2.1; omega) (by have := h.2.2.2; omega)
 unfold entB
 rw [List.length_append, List.length_append, List.length_append, List.length_drop]
 omega
theorem entB_bytes (was : List Int) {x : S41} (h : fineS x) : Bytes (entB was x) := by
 have h1 := wd_len h
 have h2 := (sh_le was (wd x)).2
 unfold entB
 exact bytes_append (bytes_append (bytes_append (putn_bytes _ (by omega) (by omega)) (putn_bytes _ (by omega) (by omega))) (bytes_drop (bytesOf_bytes _) _)) (putn_bytes _ (by have := h.2.2.1; omega) (by have := h.2.2.2; omega))
theorem entsB_len : ∀ (l : List S41) (was : List Int), (∀ x ∈ l, fineS x) → (entsB was l).length ≤ 285 * l.length
 | [], _, _ => by simp [entsB]
 | x :: l, was, h => by
  have h1 := entB_len was (h x List.mem_cons_self)
  have h2 := entsB_len l (wd x) (fun y hy => h y (List.mem_cons_of_mem _ hy))
  rw [entsB, List.length_append, List.length_cons]
  omega
theorem entsB_bytes : ∀ (l : List S41) (was : List Int), (∀ x ∈ l, fineS x) → Bytes (entsB was l)
 | [], _, _ => by intro x hx; simp [entsB] at hx
 | x :: l, was, h => by
  rw [entsB]
  exact bytes_append (entB_bytes was (h x List.mem_cons_self)) (entsB_bytes l (wd x) (fun y hy => h y (List.mem_cons_of_mem _ hy)))
theorem blockB_len {l : List S41} (h : ∀ x ∈ l, fineS x) (hl : l.length ≤ 100000) : (blockB l).length ≤ 10 + 285 * l.length := by
 have h1 := entsB_len l [] h
 have h2 := putn_len (l.length : Int) (by omega) (by omega)
 unfold blockB
 rw [List.length_append]
 omega
theorem blockB_bytes {l : List S41} (h : ∀ x ∈ l, fineS x) (hl : l.length ≤ 100000) : Bytes (blockB l) :=
 bytes_append (putn_bytes _ (by omega) (by omega)) (entsB_bytes l [] h)
theorem u64_small (n : Nat) (h : n < 1000000000) : IntKind.u64.wrap (n : Int) = n := by rw [u64_wrap]; omega
theorem tail_size (s : ByteArray) (n : Nat) : (s.extract n s.size).size = s.size - n := by
 rw [← bytesOf_len, bytesOf_tail, List.length_drop, bytesOf_len]
theorem block_l0 (l : List S41) (h : ∀ x ∈ l, fineS x) (hl : l.length ≤ 100000) (d : Nat) : ∀ (k i : Nat) (was : ByteArray) (acc : List Int), d + 300 < k → i + d = l.length → was.size ≤ 255 → acc.length + 300 * d ≤ 100000000 →
  run_block.l0 k acc was l (l.length : Int) i = some (acc ++ entsB (bytesOf was) (l.drop i)) := by
 induction d with
 | zero =>
  intro k i was acc hk hi _ _
  obtain ⟨k, rfl⟩ : ∃ m, k = m + 1 := ⟨k - 1, by omega⟩
  rw [run_block.l0, if_neg (by omega), List.drop_of_length_le (by omega), entsB, List.append_nil]
 | succ d ih =>
  intro k i was acc hk hi hw hacc
  obtain ⟨k, rfl⟩ : ∃ m, k = m + 1 := ⟨k - 1, by omega⟩
  have hwr : wrap64 ((i : Int) + 1) = ((i + 1 : Nat) : Int) := by unfold wrap64; omega
  have hlt : i < l.length := by omega
  have hx := h l[i] (List.getElem_mem hlt)
  rw [run_block.l0, if_pos (by omega), if_pos (by omega), if_pos (by omega), rdT_eq l i hlt, hwr, List.drop_eq_getElem_cons hlt, entsB]
  generalize l[i] = x at hx ⊢
  have hwl := wd_len hx
  have hs := (sh_le (bytesOf was) (wd x)).2
  have hxs : x.f0.size = (wd x).length := (bytesOf_len _).symm
  rw [shared_f was x.f0 (by omega) k (by omega), Option.bind_some, show bytesOf x.f0 = wd x from rfl]
  generalize hn : sh (bytesOf was) (wd x) = n at hs ⊢
  have p1 := putn_len (n : Int) (by omega) (by omega)
  have p2 := putn_len (((wd x).length - n : Nat) : Int) (by omega) (by omega)
  have p3 := putn_len x.f1 (by have := hx.2.2.1; omega) (by have := hx.2.2.2; omega)
  have e2 : IntKind.u64.wrap (wrap64 ((x.f0.size : Int) - (n : Int))) = (((wd x).length - n : Nat) : Int) := by
   rw [hxs, show ((wd x).length : Int) - (n : Int) = (((wd x).length - n : Nat) : Int) by omega, show wrap64 (((wd x).length - n : Nat) : Int) = (((wd x).length - n : Nat) : Int) by unfold wrap64; omega, u64_small _ (by omega)]
  rw [u64_small n (by omega), NumLib.put_f k n acc (by omega) (by omega) (by omega) (by omega), Option.bind_some, e2, NumLib.put_f k _ (acc ++ putn n) (by omega) (by omega) (by omega) (by rw [List.length_append]; omega), Option.bind_some]
  have hlen2 : (acc ++ putn (n : Int) ++ putn (((wd x).length - n : Nat) : Int)).length ≤ acc.length + 20 := by rw [List.length_append, List.length_append]; omega
  rw [if_pos (by omega), if_pos (by omega), Int.toNat_natCast, if_pos (by rw [tail_size]; omega), bytesOf_tail]
  have hlen3 : (acc ++ putn (n : Int) ++ putn (((wd x).length - n : Nat) : Int) ++ (wd x).drop n).length ≤ acc.length + 275 := by rw [List.length_append, List.length_drop]; omega
  rw [show bytesOf x.f0 = wd x from rfl, NumLib.put_f k x.f1 _ (by omega) (by have := hx.2.2.1; omega) (by have := hx.2.2.2; omega) (by omega), Option.bind_some, ih k (i + 1) x.f0 _ (by omega) (by omega) (by omega) (by rw [List.length_append]; omega)]
  unfold entB
  rw [hn]
  simp only [List.append_assoc]
  rfl
theorem block_f (k : Nat) (l : List S41) (h : ∀ x ∈ l, fineS x) (hl : l.length ≤ 100000) (hk : l.length + 300 < k) : run_block.f k l = some (blockB l) := by
 unfold run_block.f
 have p1 := putn_len (l.length : Int) (by omega) (by omega)
 rw [u64_small _ (by omega), NumLib.put_f k _ [] (by omega) (by omega) (by omega) (by simp), Option.bind_some]
 have := block_l0 l h hl l.length k 0 ⟨#[]⟩ ([] ++ putn (l.length : Int)) hk (by omega) (by decide) (by rw [List.nil_append]; omega)
 rw [List.drop_zero] at this
 exact this
def chunks (size : Nat) : Nat → List S41 → List (List S41)
 | 0, _ => []
 | d + 1, l => if l = [] then [] else l.take size :: chunks size d (l.drop size)
theorem chunks_nil (size : Nat) : ∀ d, chunks size d [] = []
 | 0 => rfl
 | d + 1 => by rw [chunks, if_pos rfl]
theorem chunks_join (size : Nat) (hs : 1 ≤ size) : ∀ (d : Nat) (l : List S41), l.length ≤ d → (chunks size d l).flatten = l
 | 0, l, h => by
  have : l = [] := List.eq_nil_of_length_eq_zero (by omega)
  subst this
  rfl
 | d + 1, l, h => by
  rw [chunks]
  by_cases hl : l = []
  ·rw [if_pos hl, hl]; rfl
  ·rw [if_neg hl, List.flatten_cons, chunks_join size hs d _ (by rw [List.length_drop]; omega), List.take_append_drop]
theorem chunks_mem (size : Nat) : ∀ (d : Nat) (l : List S41), ∀ c ∈ chunks size d l, c.length ≤ size ∧ c ≠ [] ∨ size = 0
 | 0, _, c, h => by simp [chunks] at h
 | d + 1, l, c, h => by
  rw [chunks] at h
  by_cases hl : l = []
  ·rw [if_pos hl] at h; simp at h
  ·rw [if_neg hl] at h
   rcases List.mem_cons.1 h with rfl | h
   ·by_cases hs : size = 0
    ·exact .inr hs
    ·refine .inl ⟨by rw [List.length_take]; omega, fun e => ?_⟩
     rcases List.take_eq_nil_iff.1 e with e | e
     ·exact hs e
     ·exact hl e
   ·exact chunks_mem size d _ c h
theorem chunks_fine (size : Nat) {P : S41 → Prop} : ∀ (d : Nat) (l : List S41), (∀ x ∈ l, P x) → ∀ c ∈ chunks size d l, ∀ x ∈ c, P x
 | 0, _, _, c, h => by simp [chunks] at h
 | d + 1, l, hP, c, h => by
  rw [chunks] at h
  by_cases hl : l = []
  ·rw [if_pos hl] at h; simp at h
  ·rw [if_neg hl] at h
   rcases List.mem_cons.1 h with rfl | h
   ·exact fun x hx => hP x (List.mem_of_mem_take hx)
   ·exact chunks_fine size d _ (fun x hx => hP x (List.mem_of_mem_drop hx)) c h
theorem chunks_count (size : Nat) (hs : 1 ≤ size) : ∀ (d : Nat) (l : List S41), l.length ≤ d → (chunks size d l).length = (l.length + size - 1) / size
 | 0, l, h => by
  have : l = [] := List.eq_nil_of_length_eq_zero (by omega)
  subst this
  rw [chunks, List.length_nil, List.length_nil, Nat.div_eq_of_lt (by omega)]
 | d + 1, l, h => by
  rw [chunks]
  by_cases hl : l = []
  ·subst hl
   rw [if_pos rfl, List.length_nil, List.length_nil, Nat.div_eq_of_lt (by omega)]
  ·have hpos : 1 ≤ l.length := by
    cases l with
    | nil => exact absurd rfl hl
    | cons x l => simp
   rw [if_neg hl, List.length_cons, chunks_count size hs d _ (by rw [List.length_drop]; omega), List.length_drop]
   by_cases hle : size ≤ l.length
   ·rw [show l.length + size - 1 = (l.length - size + size - 1) + size by omega, Nat.add_div_right _ (by omega)]
   ·rw [show l.length - size + size - 1 = size - 1 by omega, Nat.div_eq_of_lt (by omega), show l.length + size - 1 = (l.length - 1) + size by omega, Nat.add_div_right _ (by omega), Nat.div_eq_of_lt (by omega)]
def allB (l : List S41) (size : Nat) : Nat → List (List Int)
 | 0 => []
 | c + 1 => if c * size < l.length then allB l size c ++ [blockB ((l.drop (c * size)).take size)] else allB l size c
theorem piece_eq (l : List S41) (size j : Nat) (h : j * size < l.length) : run_Encode.piece l size j = (l.drop (j * size)).take size := by
 unfold run_Encode.piece
 rw [List.drop_take, Nat.add_sub_cancel_left]
 by_cases hs : size ≤ l.length - j * size
 ·rw [Nat.min_eq_left hs]
 ·rw [Nat.min_eq_right (by omega), List.take_of_length_le (by rw [List.length_drop]; exact Nat.le_refl _), List.take_of_length_le (by rw [List.length_drop]; omega)]
theorem all_f (k : Nat) (l : List S41) (hl : ∀ x ∈ l, fineS x) (size : Nat) (hs : size ≤ 255) (hk : 1000 < k) : ∀ c, run_Encode.all k l size c = some (allB l size c)
 | 0 => rfl
 | c + 1 => by
  rw [run_Encode.all, all_f k l hl size hs hk c, Option.bind_some, allB]
  by_cases h : c * size < l.length
  ·have hp : ((l.drop (c * size)).take size).length ≤ size := by rw [List.length_take]; omega
   rw [if_pos h, if_pos h, piece_eq l size c h, block_f k _ (fun x hx => hl x (List.mem_of_mem_drop (List.mem_of_mem_take hx))) (by omega) (by omega), Option.bind_some]
  ·rw [if_neg h, if_neg h]
theorem allB_chunks (l : List S41) (size : Nat) : ∀ (c d : Nat), allB l size c ++ (chunks size d (l.drop (c * size))).map blockB = (chunks size (c + d) l).map blockB
 | 0, d => by simp [allB]
 | c + 1, d => by
  have ih := allB_chunks l size c (d + 1)
  rw [show c + 1 + d = c + (d + 1) by omega, ← ih, allB]
  by_cases h : c * size < l.length
  ·have hne : l.drop (c * size) ≠ [] := fun e => by
    have := congrArg List.length e
    rw [List.length_drop, List.length_nil] at this
    omega
   rw [if_pos h, chunks, if_neg hne, List.map_cons, List.drop_drop, show (c + 1) * size = c * size + size by rw [Nat.succ_mul]]
   simp
  ·have e : l.drop (c * size) = [] := List.drop_of_length_le (by omega)
   have e2 : l.drop ((c + 1) * size) = [] := List.drop_of_length_le (by rw [Nat.succ_mul]; omega)
   rw [if_neg h, e, e2, chunks_nil, chunks_nil]
theorem allB_eq (l : List S41) (size : Nat) : allB l size l.length = (chunks size l.length l).map blockB := by
 have := allB_chunks l size l.length 0
 rw [chunks, List.map_nil, List.append_nil, Nat.add_zero] at this
 exact this
def recs : List (List Int) → List Int
 | [] => []
 | p :: r => recL p ++ recs r
theorem recs_append : ∀ a b : List (List Int), recs (a ++ b) = recs a ++ recs b
 | [], b => rfl
 | p :: r, b => by rw [List.cons_append, recs, recs_append r b, recs, List.append_assoc]
def Okay (R : List (List Int)) : Prop := ∀ p ∈ R, p.length ≤ 1000000 ∧ Bytes p
theorem recL_le {p : List Int} (h : p.length ≤ 1000000) : (recL p).length ≤ 14 + p.length ∧ 5 ≤ (recL p).length := by
 have hl := putn_len p.length (by omega) (by omega)
 rw [rec_len]
 omega
theorem recs_bytes : ∀ R : List (List Int), Okay R → Bytes (recs R)
 | [], _ => by intro x hx; simp [recs] at hx
 | p :: r, h => by
  have h1 := h p List.mem_cons_self
  rw [recs]
  exact bytes_append (rec_bytes p h1.2 (by omega)) (recs_bytes r (fun q hq => h q (List.mem_cons_of_mem _ hq)))
theorem getR_nil : (getR []).2.2 ≠ 0 := by
 have := getR_cut [] (by decide) 0 (by rw [rec_len]; simp)
 rw [List.take_zero] at this
 exact this
theorem scan_tail : ∀ (R : List (List Int)) (d : Nat) (z : List Int), Okay R → R.length < d → (getR z).2.2 ≠ 0 → scanN d (recs R ++ z) = (R, (recs R).length)
 | [], d + 1, z, _, _, hz => by
  rw [scanN, recs, List.nil_append, if_neg hz]
  rfl
 | p :: r, d + 1, z, h, hd, hz => by
  rw [List.length_cons] at hd
  have h1 := h p List.mem_cons_self
  rw [scanN, recs, List.append_assoc, getR_rec p _ (by omega)]
  simp only [if_true, Int.toNat_natCast]
  rw [List.drop_left, scan_tail r d z (fun q hq => h q (List.mem_cons_of_mem _ hq)) (by omega) hz, List.length_append]
theorem recs_len_ge : ∀ R : List (List Int), Okay R → R.length ≤ (recs R).length
 | [], _ => by simp
 | p :: r, h => by
  have h1 := recL_le (h p List.mem_cons_self).1
  have h2 := recs_len_ge r (fun q hq => h q (List.mem_cons_of_mem _ hq))
  rw [recs, List.length_append, List.length_cons]
  omega
theorem scan_recs (R : List (List Int)) (h : Okay R) : scanN ((recs R).length + 1) (recs R) = (R, (recs R).length) := by
 have := scan_tail R ((recs R).length + 1) [] h (by have := recs_len_ge R h; omega) getR_nil
 rwa [List.append_nil] at this
def encR (l : List S41) (size : Nat) : List (List Int) := (putn (size : Int) :: (chunks size l.length l).map blockB) ++ [putn 0 ++ putn (l.length : Int)]
def encB (l : List S41) (size : Nat) : List Int := recs (encR l size)
theorem chunks_recs (size : Nat) : ∀ (d : Nat) (l : List S41), (∀ x ∈ l, fineS x) → size ≤ 255 → 1 ≤ size → (recs ((chunks size d l).map blockB)).length ≤ 309 * l.length
 | 0, l, _, _, _ => by simp [chunks, recs]
 | d + 1, l, h, hs, h1 => by
  rw [chunks]
  by_cases hl : l = []
  ·rw [if_pos hl]; simp [recs]
  ·have hpos : 1 ≤ l.length := by
    cases l with
    | nil => exact absurd rfl hl
    | cons x l => simp
   have ih := chunks_recs size d (l.drop size) (fun x hx => h x (List.mem_of_mem_drop hx)) hs h1
   have hb := blockB_len (l := l.take size) (fun x hx => h x (List.mem_of_mem_take hx)) (by rw [List.length_take]; omega)
   have hr := recL_le (p := blockB (l.take size)) (by rw [List.length_take] at hb; omega)
   rw [if_neg hl, List.map_cons, recs, List.length_append]
   rw [List.length_drop] at ih
   rw [List.length_take] at hb
   omega
theorem encR_ok (l : List S41) (h : ∀ x ∈ l, fineS x) (hl : l.length ≤ 100000) (size : Nat) (hs : size ≤ 255) (h1 : 1 ≤ size) : Okay (encR l size) := by
 intro p hp
 unfold encR at hp
 rcases List.mem_append.1 hp with hp | hp
 ·rcases List.mem_cons.1 hp with rfl | hp
  ·have := putn_len (size : Int) (by omega) (by omega)
   exact ⟨by omega, putn_bytes _ (by omega) (by omega)⟩
  ·obtain ⟨c, hc, rfl⟩ := List.mem_map.1 hp
   have hf := chunks_fine size _ l h c hc
   rcases chunks_mem size _ l c hc with hm | hm
   ·have := blockB_len hf (by omega)
    exact ⟨by omega, blockB_bytes hf (by omega)⟩
   ·omega
 ·rw [List.mem_singleton.1 hp]
  have p1 := putn_len 0 (by omega) (by omega)
  have p2 := putn_len (l.length : Int) (by omega) (by omega)
  exact ⟨by rw [List.length_append]; omega, bytes_append (putn_bytes _ (by omega) (by omega)) (putn_bytes _ (by omega) (by omega))⟩
theorem encB_len (l : List S41) (h : ∀ x ∈ l, fineS x) (hl : l.length ≤ 100000) (size : Nat) (hs : size ≤ 255) (h1 : 1 ≤ size) : (encB l size).length ≤ 309 * l.length + 100 := by
 have hr := chunks_recs size l.length l h hs h1
 have p0 := putn_len (size : Int) (by omega) (by omega)
 have p1 := putn_len 0 (by omega) (by omega)
 have p2 := putn_len (l.length : Int) (by omega) (by omega)
 have r1 := recL_le (p := putn (size : Int)) (by omega)
 have r2 := recL_le (p := putn 0 ++ putn (l.length : Int)) (by rw [List.length_append]; omega)
 rw [List.length_append] at r2
 unfold encB encR
 rw [recs_append, List.length_append, recs, List.length_append, recs, recs, List.append_nil]
 omega
theorem out_f (k : Nat) (hk : 20 < k) : ∀ (R : List (List Int)) (b : List Int), Okay R → b.length + (recs R).length ≤ 100000000 → run_Encode.out k R b = some (b ++ recs R, 0)
 | [], b, _, _ => by rw [run_Encode.out, recs, List.append_nil]
 | p :: r, b, h, hb => by
  have h1 := h p List.mem_cons_self
  rw [recs, List.length_append] at hb
  rw [run_Encode.out, FrameLib.put_f k hk b p h1.2 (by omega) (by omega), Option.bind_some]
  simp only [if_true]
  rw [out_f k hk r _ (fun q hq => h q (List.mem_cons_of_mem _ hq)) (by rw [List.length_append]; omega), recs, List.append_assoc]
def encS (l : List S41) (a : Int) : List Int × Int := if a < 1 ∨ a > 255 then ([], 1) else if mayS l = 0 then (encB l a.toNat, 0) else ([], mayS l)
theorem enc_f (k : Nat) (l : List S41) (a : Int) (hl : l.length ≤ 100000) (hk : l.length + 2000 < k) : run_Encode.f k l a = some (encS l a) := by
 unfold run_Encode.f encS
 by_cases h1 : a < 1
 ·rw [if_pos h1, if_pos (.inl h1)]
 ·rw [if_neg h1]
  by_cases h2 : a > 255
  ·rw [if_pos h2, if_pos (.inr h2)]
  ·rw [if_neg h2, if_neg (show ¬ (a < 1 ∨ a > 255) by omega), may_f k l (by omega) (by omega), Option.bind_some]
   by_cases h3 : mayS l = 0
   ·obtain ⟨hf, _⟩ := mayS_zero h3
    obtain ⟨size, rfl⟩ := Int.eq_ofNat_of_zero_le (show 0 ≤ a by omega)
    have hsz : 1 ≤ size ∧ size ≤ 255 := by omega
    have hok := encR_ok l hf hl size hsz.2 hsz.1
    have hle := encB_len l hf hl size hsz.2 hsz.1
    unfold encB at hle
    have p1 := putn_len 0 (by omega) (by omega)
    rw [if_pos h3, if_pos h3, if_pos (show l.length < 5000000000000 by omega), u64_small size (by omega), NumLib.put_f k _ [] (by omega) (by omega) (by omega) (by simp), Option.bind_some, Int.toNat_natCast, all_f k l hf size hsz.2 (by omega), Option.bind_some, NumLib.put_f k 0 [] (by omega) (by omega) (by omega) (by simp), Option.bind_some, u64_small _ (by omega), NumLib.put_f k _ _ (by omega) (by omega) (by omega) (by rw [List.nil_append]; omega), Option.bind_some, allB_eq, List.nil_append, List.nil_append]
    have := out_f k (by omega) (encR l size) [] hok (by rw [List.length_nil]; omega)
    rw [List.nil_append] at this
    exact this
   ·rw [if_neg h3, if_neg h3]
end Go.Proofs.Ytiohnpphhepdfaa.RunLib
end
section
namespace Go.Proofs.Ytiohnpphhepdfaa.RunLib
open Go.RowKit Go.Proofs.Ytiohnpphhepdfaa.PPa Go.Proofs.YtiohnpphhepdfaaW.PrintWords Go.Proofs.YtiohnpphhepdfaaW.PrintLast Go.Proofs.YtiohnpphhepdfaaW.PrintMore Go.Proofs.Ytiohnpphhepdfaa.NumLib Go.Proofs.Ytiohnpphhepdfaa.FrameLib
set_option linter.unusedVariables false
set_option linter.unusedSimpArgs false
theorem entry_f (was : ByteArray) (x : S41) (hx : fineS x) (rest : List Int) (hr : Bytes rest) (hrl : rest.length ≤ 100000000) (hw : was.size ≤ 255) : run_entry.f was (entB (bytesOf was) x ++ rest) = some (x.f0, x.f1, rest, true) := by
 have hwl := wd_len hx
 have hs := sh_le (bytesOf was) (wd x)
 have ht := sh_take (bytesOf was) (wd x)
 rw [bytesOf_len] at hs
 unfold entB
 generalize sh (bytesOf was) (wd x) = n at hs ht ⊢
 have hc := hx.2.2
 have e : putn (n : Int) ++ putn (((wd x).length - n : Nat) : Int) ++ (wd x).drop n ++ putn x.f1 ++ rest = putn (n : Int) ++ (putn (((wd x).length - n : Nat) : Int) ++ ((wd x).drop n ++ (putn x.f1 ++ rest))) := by simp only [List.append_assoc]
 rw [e]
 have b1 : Bytes (putn x.f1 ++ rest) := bytes_append (putn_bytes _ (by omega) (by omega)) hr
 have b2 : Bytes ((wd x).drop n ++ (putn x.f1 ++ rest)) := bytes_append (bytes_drop (bytesOf_bytes _) _) b1
 have b3 : Bytes (putn (((wd x).length - n : Nat) : Int) ++ ((wd x).drop n ++ (putn x.f1 ++ rest))) := bytes_append (putn_bytes _ (by omega) (by omega)) b2
 have b4 : Bytes (putn (n : Int) ++ (putn (((wd x).length - n : Nat) : Int) ++ ((wd x).drop n ++ (putn x.f1 ++ rest)))) := bytes_append (putn_bytes _ (by omega) (by omega)) b3
 unfold run_entry.f
 rw [NumLib.get_f _ b4, get_put n (by omega) (by omega), Option.bind_some]
 simp only [Int.toNat_natCast, List.drop_left]
 rw [NumLib.get_f _ b3, get_put _ (by omega) (by omega), Option.bind_some]
 simp only [Int.toNat_natCast, List.drop_left]
 have hd : ((wd x).drop n).length = (wd x).length - n := List.length_drop
 have hlen : ((wd x).drop n ++ (putn x.f1 ++ rest)).length = (wd x).length - n + (putn x.f1 ++ rest).length := by rw [List.length_append, hd]
 have htk : ((wd x).drop n ++ (putn x.f1 ++ rest)).take ((wd x).length - n) = (wd x).drop n := by rw [← hd, List.take_left]
 have hdp : ((wd x).drop n ++ (putn x.f1 ++ rest)).drop ((wd x).length - n) = putn x.f1 ++ rest := by rw [← hd, List.drop_left]
 rw [if_neg (by simp), if_neg (by rw [u64_small _ (by omega)]; omega), if_neg (by
  have hp := putn_len x.f1 (by omega) (by omega)
  rw [hlen, List.length_append, u64_small _ (by omega)]
  omega), htk, hdp]
 rw [if_pos (by
  refine ⟨by omega, by omega, by omega, by rw [hlen]; omega, ?_⟩
  have h1 : (was.extract 0 n).size ≤ 255 := by rw [← bytesOf_len, bytesOf_head, List.length_take, bytesOf_len]; omega
  have h2 : (strOfNums ((wd x).drop n)).size ≤ 255 := by
   rw [← bytesOf_len, bytesOf_str _ (show Bytes ((wd x).drop n) from bytes_drop (bytesOf_bytes _) _), hd]
   omega
  omega), NumLib.get_f _ b1, get_put x.f1 (by omega) (by omega), Option.bind_some]
 simp only [Int.toNat_natCast, List.drop_left]
 have hword : was.extract 0 n ++ strOfNums ((wd x).drop n) = x.f0 := by
  apply bytesOf_inj
  rw [bytesOf_append, bytesOf_head, bytesOf_str _ (show Bytes ((wd x).drop n) from bytes_drop (bytesOf_bytes _) _), ht]
  exact List.take_append_drop n (wd x)
 rw [hword]
 simp
theorem unblock_go : ∀ (l : List S41) (was : ByteArray) (rest : List Int) (acc : List S41), (∀ x ∈ l, fineS x) → Bytes rest → was.size ≤ 255 → acc.length + l.length < 5864062014805 → l.length ≤ 100000 → rest.length ≤ 1000000 →
  run_unblock.go l.length was (entsB (bytesOf was) l ++ rest) acc = some (acc ++ l, rest.length == 0)
 | [], was, rest, acc, _, _, _, _, _, _ => by rw [List.length_nil, run_unblock.go, entsB, List.nil_append, List.append_nil]
 | x :: l, was, rest, acc, h, hr, hw, hacc, hl1, hrl => by
  have hx := h x List.mem_cons_self
  have hl : ∀ y ∈ l, fineS y := fun y hy => h y (List.mem_cons_of_mem _ hy)
  rw [List.length_cons] at hacc hl1
  have hel := entsB_len l (wd x) hl
  rw [List.length_cons, run_unblock.go, entsB, List.append_assoc, entry_f was x hx _ (bytes_append (entsB_bytes l (wd x) hl) hr) (by rw [List.length_append]; omega) hw, Option.bind_some]
  simp only
  rw [if_neg (by simp), if_pos (by omega)]
  have := unblock_go l x.f0 rest (acc ++ [x]) hl hr hx.2.1 (by rw [List.length_append, List.length_singleton]; omega) (by omega) hrl
  rw [show wd x = bytesOf x.f0 from rfl]
  rw [show ({ f0 := x.f0, f1 := x.f1 } : S41) = x from rfl, this, List.append_assoc, List.singleton_append]
theorem unblock_f (l : List S41) (h : ∀ x ∈ l, fineS x) (hl : l.length ≤ 255) : run_unblock.f (blockB l) = some (l, true) := by
 have hb := blockB_bytes h (by omega)
 unfold run_unblock.f
 rw [NumLib.get_f _ hb]
 unfold blockB
 rw [get_put _ (by omega) (by omega), Option.bind_some]
 simp only [Int.toNat_natCast, List.drop_left]
 rw [if_neg (by simp), if_neg (by omega), if_pos (by omega)]
 have := unblock_go l ⟨#[]⟩ [] [] h (by intro x hx; simp at hx) (by decide) (by simp; omega) (by omega) (by simp)
 rw [List.append_nil, List.nil_append] at this
 exact this
theorem get_bounds (l : List Int) (hb : Bytes l) (x i e : Int) (h : get l = (x, i, e)) : 0 ≤ x ∧ x < 18446744073709551616 ∧ 0 ≤ i ∧ i ≤ l.length ∧ (e = 0 → 1 ≤ i) := by
 by_cases he : e = 0
 ·subst he
  have := get_ok l hb x i h
  omega
 ·have := get_bad l x i e h he
  omega
theorem entry_total (was : ByteArray) (l : List Int) (hb : Bytes l) (h : was.size + l.length ≤ 100000000) : ∃ r, run_entry.f was l = some r ∧ (r.2.2.2 = true → r.1.size + r.2.2.1.length ≤ was.size + l.length ∧ r.2.2.1.length + 3 ≤ l.length ∧ Bytes r.2.2.1) := by
 unfold run_entry.f
 rw [NumLib.get_f _ hb, Option.bind_some]
 rcases h1 : get l with ⟨n1, n2, n3⟩
 simp only
 have g1 := get_bounds l hb n1 n2 n3 h1
 obtain ⟨i1, rfl⟩ := Int.eq_ofNat_of_zero_le g1.2.2.1
 simp only [Int.toNat_natCast]
 have hb1 := bytes_drop hb i1
 rw [NumLib.get_f _ hb1, Option.bind_some]
 rcases h2 : get (l.drop i1) with ⟨m1, m2, m3⟩
 simp only
 have g2 := get_bounds _ hb1 m1 m2 m3 h2
 obtain ⟨i2, rfl⟩ := Int.eq_ofNat_of_zero_le g2.2.2.1
 simp only [Int.toNat_natCast]
 have hb2 := bytes_drop hb1 i2
 have hl1 : (l.drop i1).length = l.length - i1 := List.length_drop
 have hl2 : ((l.drop i1).drop i2).length = l.length - i1 - i2 := by rw [List.length_drop, hl1]
 by_cases c1 : (n3 == 0 && m3 == 0) = false
 ·rw [if_pos c1]; exact ⟨_, rfl, fun h => by simp at h⟩
 rw [if_neg c1]
 by_cases c2 : n1 > IntKind.u64.wrap (was.size : Int)
 ·rw [if_pos c2]; exact ⟨_, rfl, fun h => by simp at h⟩
 rw [if_neg c2]
 by_cases c3 : m1 > IntKind.u64.wrap (((l.drop i1).drop i2).length : Int)
 ·rw [if_pos c3]; exact ⟨_, rfl, fun h => by simp at h⟩
 rw [if_neg c3]
 rw [u64_small _ (by omega)] at c2 c3
 obtain ⟨a1, rfl⟩ := Int.eq_ofNat_of_zero_le g1.1
 obtain ⟨a2, rfl⟩ := Int.eq_ofNat_of_zero_le g2.1
 have hn3 : n3 = 0 := by
  cases hq : (n3 == 0) with
  | true => simpa using hq
  | false => rw [hq] at c1; simp at c1
 have hm3 : m3 = 0 := by
  cases hq : (m3 == 0) with
  | true => simpa using hq
  | false => rw [hq] at c1; simp at c1
 have hi1 := g1.2.2.2.2 hn3
 have hi2 := g2.2.2.2.2 hm3
 simp only [Int.toNat_natCast]
 have hh : (was.extract 0 a1).size = a1 := by
  rw [← bytesOf_len, bytesOf_head, List.length_take, bytesOf_len]
  omega
 have ht : (strOfNums (((l.drop i1).drop i2).take a2)).size = a2 := by
  rw [← bytesOf_len, bytesOf_str _ (bytes_take hb2 _), List.length_take]
  omega
 have hb3 := bytes_drop hb2 a2
 rw [if_pos (by refine ⟨by omega, by omega, by omega, by omega, ?_⟩; rw [hh, ht]; omega), NumLib.get_f _ hb3, Option.bind_some]
 rcases h3 : get (((l.drop i1).drop i2).drop a2) with ⟨p1, p2, p3⟩
 simp only
 have g3 := get_bounds _ hb3 p1 p2 p3 h3
 obtain ⟨i3, rfl⟩ := Int.eq_ofNat_of_zero_le g3.2.2.1
 simp only [Int.toNat_natCast]
 refine ⟨_, rfl, fun hp => ?_⟩
 simp only at hp ⊢
 have hp3 : p3 = 0 := by simpa using hp
 have hi3 := g3.2.2.2.2 hp3
 have hsz : (was.extract 0 a1 ++ strOfNums (((l.drop i1).drop i2).take a2)).size = a1 + a2 := by
  rw [ByteArray.size_append, hh, ht]
 have hl3 : (((l.drop i1).drop i2).drop a2).length = l.length - i1 - i2 - a2 := by rw [List.length_drop, hl2]
 have hl4 : ((((l.drop i1).drop i2).drop a2).drop i3).length = l.length - i1 - i2 - a2 - i3 := by rw [List.length_drop, hl3]
 rw [hsz, hl4]
 refine ⟨by omega, by omega, bytes_drop hb3 _⟩
theorem unblock_go_total : ∀ (n : Nat) (was : ByteArray) (left : List Int) (acc : List S41), Bytes left → was.size + left.length ≤ 100000000 → acc.length + n < 5864062014805 → ∃ r, run_unblock.go n was left acc = some r ∧ (r.2 = true → 3 * r.1.length ≤ 3 * acc.length + left.length)
 | 0, was, left, acc, _, _, _ => ⟨_, rfl, fun _ => by simp⟩
 | n + 1, was, left, acc, hb, hw, hacc => by
  obtain ⟨⟨e1, e2, e3, e4⟩, he, h2⟩ := entry_total was left hb hw
  rw [run_unblock.go, he, Option.bind_some]
  simp only at h2 ⊢
  cases e4 with
  | false =>
   rw [if_pos rfl]
   exact ⟨_, rfl, fun h => by simp at h⟩
  | true =>
   obtain ⟨h3, h4, h5⟩ := h2 rfl
   rw [if_neg (by simp), if_pos (by omega)]
   obtain ⟨r, hr, h6⟩ := unblock_go_total n e1 e3 (acc ++ [⟨e1, e2⟩]) h5 (by omega) (by rw [List.length_append, List.length_singleton]; omega)
   refine ⟨r, hr, fun h => ?_⟩
   have := h6 h
   rw [List.length_append, List.length_singleton] at this
   omega
theorem unblock_total (l : List Int) (hb : Bytes l) (h : l.length ≤ 100000000) : ∃ r, run_unblock.f l = some r ∧ (r.2 = true → 3 * r.1.length ≤ l.length) := by
 unfold run_unblock.f
 rw [NumLib.get_f _ hb, Option.bind_some]
 rcases h1 : get l with ⟨n1, n2, n3⟩
 simp only
 have g1 := get_bounds l hb n1 n2 n3 h1
 by_cases c1 : n3 ≠ 0
 ·rw [if_pos c1]; exact ⟨_, rfl, fun h => by simp at h⟩
 rw [if_neg c1]
 by_cases c2 : n1 > 255
 ·rw [if_pos c2]; exact ⟨_, rfl, fun h => by simp at h⟩
 rw [if_neg c2, if_pos (by omega)]
 have hle : (l.drop n2.toNat).length ≤ l.length := by rw [List.length_drop]; omega
 obtain ⟨r, hr, h2⟩ := unblock_go_total n1.toNat ⟨#[]⟩ (l.drop n2.toNat) [] (bytes_drop hb _) (by
  have : (⟨#[]⟩ : ByteArray).size = 0 := rfl
  omega) (by simp; omega)
 refine ⟨r, hr, fun h => ?_⟩
 have := h2 h
 rw [List.length_nil] at this
 omega
theorem rdL_eq (y : List (List Int)) (i : Nat) (h : i < y.length) : rd_L5 y i = y[i] := by
 unfold rd_L5
 rw [Int.toNat_natCast, List.getD_eq_getElem?_getD, List.getElem?_eq_getElem h, Option.getD_some]
def sumLen (y : List (List Int)) : Nat := (y.map List.length).sum
theorem sumLen_drop (y : List (List Int)) (i : Nat) (h : i < y.length) : sumLen (y.drop i) = y[i].length + sumLen (y.drop (i + 1)) := by
 unfold sumLen
 rw [List.drop_eq_getElem_cons h, List.map_cons, List.sum_cons]
theorem sumLen_sub {a b : List (List Int)} (h : a.Sublist b) : sumLen a ≤ sumLen b := by
 induction h with
 | slnil => exact Nat.le_refl _
 | cons x _ ih =>
  unfold sumLen at ih ⊢
  rw [List.map_cons, List.sum_cons]
  omega
 | cons_cons x _ ih =>
  unfold sumLen at ih ⊢
  rw [List.map_cons, List.map_cons, List.sum_cons, List.sum_cons]
  omega
theorem scanN_rows : ∀ (d : Nat) (l : List Int), Bytes l → (∀ p ∈ (scanN d l).1, Bytes p) ∧ sumLen (scanN d l).1 ≤ l.length
 | 0, l, _ => by simp [scanN, sumLen]
 | d + 1, l, hl => by
  rw [scanN]
  rcases hg : getR l with ⟨p, n, e⟩
  simp only
  by_cases he : e = 0
  ·subst he
   obtain ⟨h1, h2, h3, h4, h5, h6⟩ := getR_ok _ hl p n hg
   obtain ⟨i1, i2⟩ := scanN_rows d (l.drop n.toNat) (bytes_drop hl _)
   have h7 := rec_len p
   rw [List.length_drop] at i2
   rw [if_pos rfl]
   refine ⟨fun q hq => ?_, ?_⟩
   ·rcases List.mem_cons.1 hq with rfl | hq
    ·exact h2
    ·exact i1 q hq
   ·unfold sumLen at i2 ⊢
    rw [List.map_cons, List.sum_cons]
    omega
  ·rw [if_neg he]
   simp [sumLen]
theorem equal_f (a b : List Int) (ha : Bytes a) (hb : Bytes b) : bytes_Equal.f a b = some (decide (a = b)) := by
 unfold bytes_Equal.f
 congr 1
 by_cases h : a = b
 ·rw [decide_eq_true h, h, beq_self_eq_true]
 ·rw [decide_eq_false h]
  exact beq_eq_false_iff_ne.2 (fun e => h ((str_inj ha hb).1 e))
theorem encS_bytes (l : List S41) (a : Int) (hl : l.length ≤ 100000) : Bytes (encS l a).1 := by
 unfold encS
 by_cases h1 : a < 1 ∨ a > 255
 ·rw [if_pos h1]; intro x hx; simp at hx
 ·rw [if_neg h1]
  by_cases h2 : mayS l = 0
  ·rw [if_pos h2]
   exact recs_bytes _ (encR_ok l (mayS_zero h2).1 hl _ (by omega) (by omega))
  ·rw [if_neg h2]; intro x hx; simp at hx
def endS (x : List S41) (a : Int) (b : List Int) : List S41 × Int := if (encS x a).2 = 0 then (if (encS x a).1 = b then (x, 0) else ([], 2)) else ([], 2)
theorem dec_end (k : Nat) (b : List Int) (hb : Bytes b) (n : Int) (acc : List S41) (y : List (List Int)) (hk : acc.length + 2000 < k) (hacc : acc.length ≤ 100000) (i : Int) (hi : ¬ i < (y.length : Int)) :
  run_Decode.l0 (k + 1) b n acc y (y.length : Int) i = some (endS acc (wrap64 n) b) := by
 rw [run_Decode.l0, if_neg hi, enc_f k acc _ hacc hk, Option.bind_some]
 unfold endS
 by_cases h : (encS acc (wrap64 n)).2 = 0
 ·rw [if_pos h, if_pos h, equal_f _ _ (encS_bytes acc _ hacc) hb, Option.bind_some]
  by_cases h2 : (encS acc (wrap64 n)).1 = b
  ·rw [decide_eq_true h2, if_pos rfl, if_pos h2]
  ·rw [decide_eq_false h2, if_neg (by simp), if_neg h2]
 ·rw [if_neg h, if_neg h]
theorem dec_l0_total (b : List Int) (hb : Bytes b) (n : Int) (y : List (List Int)) (hy : ∀ p ∈ y, Bytes p) (hyl : y.length ≤ 1000000) (d : Nat) : ∀ (k i : Nat) (acc : List S41), d + 200000 < k → i + d = y.length → 3 * acc.length + sumLen (y.drop i) ≤ b.length → b.length ≤ 100000 →
  ∃ r, run_Decode.l0 k b n acc y (y.length : Int) i = some r ∧ (r = ([], 2) ∨ ∃ x, x.length ≤ b.length ∧ r = endS x (wrap64 n) b) := by
 induction d with
 | zero =>
  intro k i acc hk hi hs hbl
  obtain ⟨k, rfl⟩ : ∃ m, k = m + 1 := ⟨k - 1, by omega⟩
  exact ⟨_, dec_end k b hb n acc y (by omega) (by omega) i (by omega), .inr ⟨acc, by omega, rfl⟩⟩
 | succ d ih =>
  intro k i acc hk hi hs hbl
  obtain ⟨k, rfl⟩ : ∃ m, k = m + 1 := ⟨k - 1, by omega⟩
  have hw : wrap64 ((i : Int) + 1) = ((i + 1 : Nat) : Int) := by unfold wrap64; omega
  have hlt : i < y.length := by omega
  rw [sumLen_drop y i hlt] at hs
  obtain ⟨⟨u1, u2⟩, hu, h2⟩ := unblock_total y[i] (hy _ (List.getElem_mem hlt)) (by omega)
  rw [run_Decode.l0, if_pos (by omega), if_pos (by omega), if_pos (by omega), rdL_eq y i hlt, hu, Option.bind_some]
  simp only at h2 ⊢
  cases u2 with
  | false =>
   rw [if_neg (by simp)]
   exact ⟨_, rfl, .inl rfl⟩
  | true =>
   have h3 := h2 rfl
   rw [if_pos rfl, if_pos (by omega), hw]
   exact ih k (i + 1) (acc ++ u1) (by omega) (by omega) (by rw [List.length_append]; omega) hbl
theorem dec_l0_chunks (b : List Int) (hb : Bytes b) (n : Int) (y : List (List Int)) (hyl : y.length ≤ 1000000) : ∀ (cs : List (List S41)) (k i : Nat) (acc : List S41), (∀ c ∈ cs, (∀ x ∈ c, fineS x) ∧ c.length ≤ 255) → cs.length + 200000 < k → i ≤ y.length → y.drop i = cs.map blockB → acc.length + cs.flatten.length ≤ 100000 →
  run_Decode.l0 k b n acc y (y.length : Int) i = some (endS (acc ++ cs.flatten) (wrap64 n) b)
 | [], k, i, acc, _, hk, hi, hy, ha => by
  obtain ⟨k, rfl⟩ : ∃ m, k = m + 1 := ⟨k - 1, by omega⟩
  have hlen := congrArg List.length hy
  rw [List.length_drop, List.map_nil, List.length_nil] at hlen
  rw [List.flatten_nil] at ha ⊢
  rw [List.append_nil]
  exact dec_end k b hb n acc y (by omega) (by omega) i (by omega)
 | c :: cs, k, i, acc, hc, hk, hi, hy, ha => by
  obtain ⟨k, rfl⟩ : ∃ m, k = m + 1 := ⟨k - 1, by omega⟩
  have hlen := congrArg List.length hy
  rw [List.length_drop, List.map_cons, List.length_cons] at hlen
  have hlt : i < y.length := by omega
  have hw : wrap64 ((i : Int) + 1) = ((i + 1 : Nat) : Int) := by unfold wrap64; omega
  rw [List.drop_eq_getElem_cons hlt, List.map_cons] at hy
  injection hy with hy1 hy2
  rw [List.length_cons] at hk
  rw [List.flatten_cons, List.length_append] at ha
  have hc0 := hc c List.mem_cons_self
  rw [run_Decode.l0, if_pos (by omega), if_pos (by omega), if_pos (by omega), rdL_eq y i hlt, hy1, unblock_f c hc0.1 hc0.2, Option.bind_some]
  simp only
  rw [if_pos trivial, if_pos (by omega), hw, dec_l0_chunks b hb n y hyl cs k (i + 1) (acc ++ c) (fun c' h' => hc c' (List.mem_cons_of_mem _ h')) (by omega) (by omega) hy2 (by rw [List.length_append]; omega), List.flatten_cons, List.append_assoc]
theorem endS_ok {x : List S41} {a : Int} {b : List Int} (h : (endS x a b).2 = 0) : endS x a b = (x, 0) ∧ 1 ≤ a ∧ a ≤ 255 ∧ mayS x = 0 ∧ encB x a.toNat = b := by
 unfold endS at h ⊢
 by_cases h1 : (encS x a).2 = 0
 ·rw [if_pos h1] at h ⊢
  by_cases h2 : (encS x a).1 = b
  ·rw [if_pos h2]
   unfold encS at h1 h2
   by_cases h3 : a < 1 ∨ a > 255
   ·rw [if_pos h3] at h1; simp at h1
   ·rw [if_neg h3] at h1 h2
    by_cases h4 : mayS x = 0
    ·rw [if_pos h4] at h2
     exact ⟨rfl, by omega, by omega, h4, h2⟩
    ·rw [if_neg h4] at h1
     exact absurd h1 h4
  ·rw [if_neg h2] at h; simp at h
 ·rw [if_neg h1] at h; simp at h
theorem endS_cases (x : List S41) (a : Int) (b : List Int) : endS x a b = ([], 2) ∨ (endS x a b).2 = 0 := by
 unfold endS
 split
 ·split
  ·exact .inr rfl
  ·exact .inl rfl
 ·exact .inl rfl
def Read (b : List Int) (r : List S41 × Int) : Prop := r = ([], 2) ∨ ∃ (x : List S41) (size : Nat), r = (x, 0) ∧ 1 ≤ size ∧ size ≤ 255 ∧ mayS x = 0 ∧ x.length ≤ b.length ∧ encB x size = b
theorem read_end {b : List Int} {x : List S41} {a : Int} (hx : x.length ≤ b.length) : Read b (endS x a b) := by
 rcases endS_cases x a b with h | h
 ·exact .inl h
 ·obtain ⟨h1, h2, h3, h4, h5⟩ := endS_ok h
  exact .inr ⟨x, a.toNat, h1, by omega, by omega, h4, hx, h5⟩
end Go.Proofs.Ytiohnpphhepdfaa.RunLib
end
section
namespace Go.Proofs.Ytiohnpphhepdfaa.RunLib
open Go.RowKit Go.Proofs.Ytiohnpphhepdfaa.PPa Go.Proofs.YtiohnpphhepdfaaW.PrintWords Go.Proofs.YtiohnpphhepdfaaW.PrintLast Go.Proofs.YtiohnpphhepdfaaW.PrintMore Go.Proofs.Ytiohnpphhepdfaa.NumLib Go.Proofs.Ytiohnpphhepdfaa.FrameLib
set_option linter.unusedVariables false
set_option linter.unusedSimpArgs false
theorem dec_total (b : List Int) (hb : Bytes b) (hlen : b.length ≤ 90000) (k : Nat) (hk : b.length + 400000 < k) : ∃ r, run_Decode.f k b = some r ∧ Read b r := by
 have hsl := scanN_len (b.length + 1) b hb
 have hsr := scanN_rows (b.length + 1) b hb
 unfold run_Decode.f
 rw [scan_f b hb (by omega) k (by omega), Option.bind_some]
 simp only
 generalize (scanN (b.length + 1) b).1 = R at hsl hsr ⊢
 by_cases h2 : (R.length : Int) < 2
 ·rw [if_pos h2]; exact ⟨_, rfl, .inl rfl⟩
 rw [if_neg h2, if_pos (by omega)]
 have h0 : 0 < R.length := by omega
 have hR0 : Bytes R[0] := hsr.1 _ (List.getElem_mem h0)
 have e0 : rd_L5 R 0 = R[0] := rdL_eq R 0 h0
 rw [e0, NumLib.get_f _ hR0, Option.bind_some]
 rcases hg : get R[0] with ⟨n1, n2, n3⟩
 simp only
 have j0 : ∀ q, ∃ r, run_Decode.j0 k b R n1 q = some r ∧ Read b r := by
  intro q
  obtain ⟨k, rfl⟩ : ∃ m, k = m + 1 := ⟨k - 1, by omega⟩
  rw [run_Decode.j0]
  cases q with
  | true => rw [if_pos rfl]; exact ⟨_, rfl, .inl rfl⟩
  | false =>
   have hw : wrap64 ((R.length : Int) - 1) = ((R.length - 1 : Nat) : Int) := by unfold wrap64; omega
   rw [if_neg (by simp), hw, if_pos (by omega), if_pos (by omega), Option.bind_some, Int.toNat_natCast]
   have hsub : ∀ p ∈ (R.take (R.length - 1)).drop 1, p ∈ R := fun p hp => List.mem_of_mem_take (List.mem_of_mem_drop hp)
   have hsum : sumLen (((R.take (R.length - 1)).drop 1).drop 0) ≤ sumLen R := by
    rw [List.drop_zero]
    exact sumLen_sub ((List.drop_sublist _ _).trans (List.take_sublist _ _))
   have hyl : ((R.take (R.length - 1)).drop 1).length ≤ 1000000 := by rw [List.length_drop, List.length_take]; omega
   have hyb : ((R.take (R.length - 1)).drop 1).length ≤ b.length := by rw [List.length_drop, List.length_take]; omega
   obtain ⟨r, hr, h3⟩ := dec_l0_total b hb n1 _ (fun p hp => hsr.1 p (hsub p hp)) hyl ((R.take (R.length - 1)).drop 1).length k 0 [] (by omega) (by omega) (by rw [List.length_nil]; omega) (by omega)
   refine ⟨r, hr, ?_⟩
   rcases h3 with h3 | ⟨x, hx, h3⟩
   ·exact .inl h3
   ·rw [h3]; exact read_end hx
 by_cases h3 : n3 = 0
 ·rw [if_pos h3]; exact j0 _
 ·rw [if_neg h3]; exact j0 _
end Go.Proofs.Ytiohnpphhepdfaa.RunLib
end
section
namespace Go.Proofs.Ytiohnpphhepdfaa.RunLib
open Go.RowKit Go.Proofs.Ytiohnpphhepdfaa.PPa Go.Proofs.YtiohnpphhepdfaaW.PrintWords Go.Proofs.YtiohnpphhepdfaaW.PrintLast Go.Proofs.YtiohnpphhepdfaaW.PrintMore Go.Proofs.Ytiohnpphhepdfaa.NumLib Go.Proofs.Ytiohnpphhepdfaa.FrameLib
set_option linter.unusedVariables false
set_option linter.unusedSimpArgs false
theorem mid_rows {α : Type} (a : α) (bs : List α) (z : α) : (((a :: bs) ++ [z]).take (bs.length + 1)).drop 1 = bs := by
 rw [show bs.length + 1 = (a :: bs).length from rfl, List.take_left, List.drop_succ_cons, List.drop_zero]
theorem dec_fin (l : List S41) (hm : mayS l = 0) (hl : l.length ≤ 90000) (size : Nat) (h1 : 1 ≤ size) (hs : size ≤ 255) (hb : Bytes (encB l size)) (hf : ∀ x ∈ l, fineS x) (k : Nat) (hk : 350000 < k) (hw2 : wrap64 (size : Int) = size) (hcl : (chunks size l.length l).length ≤ 100000) (y : List (List Int)) (hy : y = (chunks size l.length l).map blockB) :
  run_Decode.l0 k (encB l size) (size : Int) [] y (y.length : Int) 0 = some (l, 0) := by
 have hcs : ∀ c ∈ chunks size l.length l, (∀ x ∈ c, fineS x) ∧ c.length ≤ 255 := by
  intro c hc
  refine ⟨chunks_fine size _ l hf c hc, ?_⟩
  rcases chunks_mem size _ l c hc with h | h
  ·exact Nat.le_trans h.1 hs
  ·omega
 have hj := chunks_join size h1 l.length l (Nat.le_refl _)
 have hyl : y.length ≤ 1000000 := by rw [hy, List.length_map]; omega
 have := dec_l0_chunks (encB l size) hb (size : Int) y hyl (chunks size l.length l) k 0 [] hcs (by omega) (Nat.zero_le _) (by rw [List.drop_zero]; exact hy) (by rw [hj, List.length_nil]; omega)
 rw [hj, List.nil_append, hw2] at this
 have e : endS l (size : Int) (encB l size) = (l, 0) := by
  have hn : ¬ ((size : Int) < 1 ∨ (size : Int) > 255) := by omega
  have hE : encS l (size : Int) = (encB l size, 0) := by
   unfold encS
   rw [if_neg hn, if_pos hm, Int.toNat_natCast]
  unfold endS
  rw [hE, if_pos rfl, if_pos rfl]
 rw [e] at this
 exact this
theorem dec_enc (l : List S41) (hm : mayS l = 0) (hl : l.length ≤ 90000) (size : Nat) (h1 : 1 ≤ size) (hs : size ≤ 255) (k : Nat) (hk : (encB l size).length + 400000 < k) : run_Decode.f k (encB l size) = some (l, 0) := by
 have hn255 : ¬ (size : Int) > 255 := by omega
 have hde : decide ((size : Int) > 255) = false := decide_eq_false hn255
 have hf := (mayS_zero hm).1
 have hok := encR_ok l hf (by omega) size hs h1
 have hle := encB_len l hf (by omega) size hs h1
 have hb : Bytes (encB l size) := recs_bytes _ hok
 have hsc := scan_recs _ hok
 have hcn := chunks_count size h1 l.length l (Nat.le_refl _)
 unfold run_Decode.f
 rw [scan_f _ hb (by omega) k (by omega), Option.bind_some, show scanN ((encB l size).length + 1) (encB l size) = (encR l size, (encB l size).length) from hsc]
 simp only
 have hRl : (encR l size).length = (chunks size l.length l).length + 2 := by
  unfold encR
  rw [List.length_append, List.length_cons, List.length_map, List.length_singleton]
 have hcl : (chunks size l.length l).length ≤ 100000 := by
  rw [hcn]
  exact Nat.le_trans (Nat.div_le_self _ _) (by omega)
 have e0 : rd_L5 (encR l size) 0 = putn (size : Int) := rfl
 rw [if_neg (by omega), if_pos (by omega), e0, NumLib.get_f _ (putn_bytes _ (by omega) (by omega))]
 have hgp := get_put (size : Int) (by omega) (by omega) []
 rw [List.append_nil] at hgp
 rw [hgp, Option.bind_some]
 simp only
 obtain ⟨k, rfl⟩ : ∃ m, k = m + 1 := ⟨k - 1, by omega⟩
 have hkk : 350000 < k := by omega
 have hw : wrap64 (((encR l size).length : Int) - 1) = (((encR l size).length - 1 : Nat) : Int) := by unfold wrap64; omega
 have hw2 : wrap64 (size : Int) = size := by unfold wrap64; omega
 rw [if_pos trivial]
 rw [hde]
 rw [run_Decode.j0]
 rw [if_neg (show ¬ (false = true) by simp)]
 rw [hw]
 have q1 : (1 : Int) ≤ (((encR l size).length - 1 : Nat) : Int) := by omega
 have q2 : (((encR l size).length - 1 : Nat) : Int) ≤ ((encR l size).length : Int) := by omega
 rw [if_pos q1, if_pos q2, Option.bind_some, Int.toNat_natCast]
 have hy : ((encR l size).take ((encR l size).length - 1)).drop 1 = (chunks size l.length l).map blockB := by
  have hq : (encR l size).length - 1 = ((chunks size l.length l).map blockB).length + 1 := by rw [hRl, List.length_map]; omega
  rw [hq]
  exact mid_rows _ _ _
 refine dec_fin l hm (by omega) size h1 hs hb hf k hkk ?_ hcl _ hy
 exact hw2
end Go.Proofs.Ytiohnpphhepdfaa.RunLib
end
section
namespace Go.Proofs.Ytiohnpphhepdfaa.NumLib
open Go.RowKit Go.Proofs.Ytiohnpphhepdfaa.PPa Go.Proofs.YtiohnpphhepdfaaW.PrintWords Go.Proofs.YtiohnpphhepdfaaW.PrintLast
theorem ref_put_l0 : ∀ (j k : Nat) (n : Int) (l : List Int), j < k → 0 ≤ n → n < 128 ^ (j + 1) → n < 18446744073709551616 → l.length + j < 140737488355328 → r01_Put.l0 k n l = some (l ++ put j n)
 | j, 0, n, l, hk, _, _, _, _ => by omega
 | 0, k + 1, n, l, hk, h0, h1, _, hl => by
  simp at h1
  rw [r01_Put.l0, if_neg (by omega), if_pos (by omega), put]
  congr 2
  simp
  omega
 | j + 1, k + 1, n, l, hk, h0, h1, h3, hl => by
  rw [r01_Put.l0, put]
  by_cases hn : n ≥ 128
  ·have h2 : n / 128 < 128 ^ (j + 1) := by
    rw [Int.pow_succ] at h1
    generalize (128 : Int) ^ (j + 1) = p at *
    omega
   have e1 : IntKind.u64.wrap (Int.tdiv n 128) = n / 128 := by
    rw [u64_wrap, Int.tdiv_eq_ediv_of_nonneg h0]
    omega
   have e2 : IntKind.u64.wrap (128 + Int.tmod n 128) % 256 = n % 128 + 128 := by
    rw [u64_wrap, Int.tmod_eq_emod_of_nonneg h0]
    omega
   rw [if_pos (by omega), if_pos (by omega), if_pos hn, e1, e2, ref_put_l0 j k _ _ (by omega) (by omega) h2 (by omega) (by simp; omega)]
   simp
  ·rw [if_neg (by omega), if_pos (by omega), if_neg hn]
   congr 3
   omega
theorem ref_put_f (k : Nat) (n : Int) (l : List Int) (hk : 9 < k) (h0 : 0 ≤ n) (h1 : n < 18446744073709551616) (hl : l.length + 10 < 140737488355328) : r01_Put.f k l n = some (l ++ putn n) := by
 unfold r01_Put.f
 rw [Option.bind_some, if_pos (by simp; omega)]
 exact ref_put_l0 9 k n l hk h0 (by omega) h1 (by omega)
structure Pw (s : Nat) (p : Int) : Prop where
 eq : p = 128 ^ s
theorem Pw.pos {s : Nat} {p : Int} (h : Pw s p) : 0 < p := by rw [h.eq]; exact Int.pow_pos (by decide)
theorem Pw.next {s : Nat} {p : Int} (h : Pw s p) : Pw (s + 1) (p * 128) := ⟨by rw [h.eq, Int.pow_succ]⟩
theorem Pw.le {s : Nat} {p : Int} (h : Pw s p) (hs : s ≤ 8) : p ≤ 72057594037927936 := by
 have := Nat.pow_le_pow_right (n := 128) (by decide) hs
 have h2 : (128 : Int) ^ s ≤ 128 ^ 8 := by exact_mod_cast this
 rw [h.eq]
 exact Int.le_trans h2 (by decide)
theorem Pw.nine {p : Int} (h : Pw 9 p) : p = 9223372036854775808 := by rw [h.eq]; decide
def fin (l : List Int) (s : Nat) (n p : Int) (t : List Int) : Option Nat → Int × Int × Int
 | none => (0, 0, 3)
 | some c => if s + c = 10 ∨ (s + c = 9 ∧ rd l (s + c : Nat) > 1) ∨ (0 < s + c ∧ rd l (s + c : Nat) = 0) then (0, 0, 2) else (n + p * valL (c + 1) t, ((s + c : Nat) : Int) + 1, 0)
theorem valL0 (t : List Int) : valL 0 t = 0 := by cases t <;> rfl
theorem ref_get_nine (l t : List Int) (k : Nat) (n p : Int) (hlt : 9 < l.length) (hx : 0 ≤ rd l (9 : Nat) ∧ rd l (9 : Nat) ≤ 255) (hp : Pw 9 p) (h0 : 0 ≤ n) (h1 : n < p) (b : Bool) (hbb : b = decide (rd l (9 : Nat) > 1)) :
  r01_Get.j1 (k + 1) l n (p % 18446744073709551616) (9 : Nat) (rd l (9 : Nat) % 128) b = some (fin l 9 n p (rd l (9 : Nat) :: t) (scanL (0 + 1) (rd l (9 : Nat) :: t))) := by
 have hp9 := hp.nine
 rw [r01_Get.j1, scanL]
 by_cases hg : rd l (9 : Nat) > 1
 ·rw [if_pos (by rw [hbb]; simpa using hg)]
  by_cases h128 : rd l (9 : Nat) < 128
  ·rw [if_pos h128, fin, if_pos (.inr (.inl ⟨rfl, hg⟩))]
  ·rw [if_neg h128, scanL]
   rfl
 ·rw [if_neg (by rw [hbb]; simpa using hg), if_pos (show (0 : Int) ≤ (9 : Nat) by decide), if_pos (show ((9 : Nat) : Int) < (l.length : Int) by omega), if_pos (show rd l (9 : Nat) < 128 by omega), if_pos (show ((9 : Nat) : Int) > 0 by decide), if_pos (show rd l (9 : Nat) < 128 by omega), fin]
  by_cases hz : rd l (9 : Nat) = 0
  ·rw [if_pos hz, if_pos (.inr (.inr ⟨by decide, hz⟩))]
  ·rw [if_neg hz, if_neg (by
    rintro (q | ⟨_, q⟩ | ⟨_, q⟩)
    ·omega
    ·exact hg q
    ·exact hz q)]
   have e1 : rd l (9 : Nat) = 1 := by omega
   rw [valL, valL0, e1, u64_wrap, u64_wrap]
   have : wrap64 ((9 : Nat) + 1) = (9 : Nat) + 1 := by unfold wrap64; omega
   rw [this]
   congr 2
   omega
theorem ref_unit (n x p : Int) (hp0 : 0 < p) (hp8 : p ≤ 72057594037927936) (h0 : 0 ≤ n) (h1 : n < p) : IntKind.u64.wrap (n + IntKind.u64.wrap (x % 128 * (p % 18446744073709551616))) = n + p * (x % 128) ∧ IntKind.u64.wrap (p % 18446744073709551616 * 128) = p * 128 % 18446744073709551616 ∧ 0 ≤ n + p * (x % 128) ∧ n + p * (x % 128) < p * 128 := by
 have em : p % 18446744073709551616 = p := Int.emod_eq_of_lt (by omega) (by omega)
 have hm0 : 0 ≤ x % 128 * p := Int.mul_nonneg (by omega) (by omega)
 have hm1 : x % 128 * p ≤ 127 * p := Int.mul_le_mul_of_nonneg_right (by omega) (by omega)
 rw [em, u64_wrap, u64_wrap, u64_wrap, Int.mul_comm p (x % 128)]
 generalize x % 128 * p = m at *
 refine ⟨?_, rfl, ?_, ?_⟩ <;> omega
theorem ref_get_l0 (l : List Int) (hb : Bytes l) (hlen : l.length < 140737488355328) : ∀ (d k s : Nat) (n p : Int), Pw s p → s + d = 10 → 2 * d < k → s ≤ l.length → 0 ≤ n → n < p → r01_Get.l0 k l n (p % 18446744073709551616) s =
  some (fin l s n p (l.drop s) (scanL d (l.drop s)))
 | 0, k, s, n, p, _, h, hk, hs, h0, h1 => by
  obtain ⟨k, rfl⟩ : ∃ m, k = m + 1 := ⟨k - 1, by omega⟩
  obtain rfl : s = 10 := by omega
  rw [r01_Get.l0, if_neg (by decide)]
  rfl
 | d + 1, k0, s, n, p, hp, h, hk, hs, h0, h1 => by
  obtain ⟨k, rfl⟩ : ∃ m, k0 = m + 2 := ⟨k0 - 2, by omega⟩
  rw [r01_Get.l0, if_pos (show (s : Int) < 10 by omega)]
  by_cases he : s = l.length
  ·rw [if_pos (show (s : Int) = (l.length : Int) by omega), he, List.drop_length]
   rfl
  ·have hlt : s < l.length := by omega
   have hx : 0 ≤ rd l s ∧ rd l s ≤ 255 := by
    unfold rd
    rw [Int.toNat_natCast, List.getD_eq_getElem?_getD, List.getElem?_eq_getElem hlt, Option.getD_some]
    exact hb _ (List.getElem_mem hlt)
   have ed : IntKind.u64.wrap (Int.tmod (rd l s) 128) = rd l s % 128 := by
    rw [u64_wrap, Int.tmod_eq_emod_of_nonneg hx.1]
    omega
   rw [if_neg (show ¬ (s : Int) = (l.length : Int) by omega), if_pos (show (0 : Int) ≤ s by omega), if_pos (show (s : Int) < (l.length : Int) by omega), ed, rd_drop l s hlt]
   by_cases h9 : s = 9
   ·subst h9
    obtain rfl : d = 0 := by omega
    rw [if_pos (show ((9 : Nat) : Int) = 9 from rfl)]
    by_cases hg : rd l (9 : Nat) % 128 > 1
    ·rw [if_pos hg]
     exact ref_get_nine l _ k n p hlt hx hp h0 h1 true (decide_eq_true (show rd l (9 : Nat) > 1 by omega)).symm
    ·rw [if_neg hg]
     exact ref_get_nine l _ k n p hlt hx hp h0 h1 _ (decide_eq_decide.mpr ⟨fun _ => by omega, fun _ => by omega⟩)
   ·have hs8 : s ≤ 8 := by omega
    have ei : wrap64 ((s : Int) + 1) = ((s + 1 : Nat) : Int) := by unfold wrap64; omega
    have g1 : ¬ (s : Int) = 9 := by omega
    have g2 : (0 : Int) ≤ s := by omega
    have g3 : (s : Int) < (l.length : Int) := by omega
    have g4 : ¬ (false = true) := by decide
    obtain ⟨ew, eu, hn0, hn2⟩ := ref_unit n (rd l s) p hp.pos (hp.le hs8) h0 h1
    rw [if_neg g1, r01_Get.j1, if_neg g4, if_pos g2, if_pos g3, scanL, ei, ew]
    clear h0 h1 ew
    by_cases h128 : rd l s < 128
    ·rw [if_pos h128, if_pos h128, fin]
     simp only [Nat.add_zero]
     rw [valL, valL0]
     have er : rd l s % 128 + 128 * 0 = rd l s % 128 := by omega
     have ec : ((s + 1 : Nat) : Int) = (s : Int) + 1 := by omega
     rw [er, ec]
     by_cases hz : 0 < s ∧ rd l s = 0
     ·rw [if_pos (show (s : Int) > 0 by omega), if_pos hz.2, if_pos (.inr (.inr hz))]
     ·rw [if_neg (show ¬ (s = 10 ∨ (s = 9 ∧ rd l s > 1) ∨ (0 < s ∧ rd l s = 0)) from by
       rintro (q | ⟨q, _⟩ | q)
       ·exact absurd q (by omega)
       ·exact absurd q (by omega)
       ·exact hz q)]
      by_cases h0s : (s : Int) > 0
      ·rw [if_pos h0s, if_neg (fun q => hz ⟨by omega, q⟩)]
      ·rw [if_neg h0s]
    ·rw [if_neg h128, if_neg h128, eu, ref_get_l0 l hb hlen d k (s + 1) _ (p * 128) hp.next (by omega) (by omega) (by omega) hn0 hn2]
     cases hsc : scanL d (l.drop (s + 1)) with
     | none => rfl
     | some c =>
      have ec : s + 1 + c = s + (c + 1) := by omega
      rw [Option.map_some, fin, fin, ec]
      by_cases hbad : s + (c + 1) = 10 ∨ (s + (c + 1) = 9 ∧ rd l (s + (c + 1) : Nat) > 1) ∨ (0 < s + (c + 1) ∧ rd l (s + (c + 1) : Nat) = 0)
      ·rw [if_pos hbad, if_pos hbad]
      ·rw [if_neg hbad, if_neg hbad, valL, Int.mul_add, Int.mul_assoc, Int.add_assoc]
theorem ref_get_f (l : List Int) (hb : Bytes l) (hlen : l.length < 140737488355328) (k : Nat) (hk : 20 < k) : r01_Get.f k l = some (get l) := by
 unfold r01_Get.f
 have := ref_get_l0 l hb hlen 10 k 0 0 1 ⟨rfl⟩ rfl (by omega) (by omega) (by omega) (by decide)
 have e : (1 : Int) % 18446744073709551616 = 1 := by decide
 rw [e] at this
 have e0 : ((0 : Nat) : Int) = 0 := rfl
 rw [e0] at this
 rw [this]
 unfold get
 rw [List.drop_zero]
 cases scanL 10 l with
 | none => rfl
 | some c =>
  rw [fin, Nat.zero_add, Int.zero_add, Int.one_mul]
end Go.Proofs.Ytiohnpphhepdfaa.NumLib
end
section
namespace Go.Proofs.Ytiohnpphhepdfaa.CrcLib
open Go.RowKit Go.Proofs.Ytiohnpphhepdfaa.PPa Go.Proofs.YtiohnpphhepdfaaW.PrintWords Go.Proofs.YtiohnpphhepdfaaW.PrintLast
theorem flip_num (c : BitVec 32) : (4294967295 - num c) % 4294967296 = num (ones ^^^ c) := by
 have hc := c.isLt
 have e : ones = BitVec.allOnes 32 := by decide
 unfold num
 rw [e, BitVec.xor_comm, BitVec.xor_allOnes, BitVec.toNat_not]
 omega
theorem ref_s1 (c : BitVec 32) : (if Int.tmod (num c) 2 = 1 then Go.bits .xor .u32 ((Int.tdiv (num c) 2) % 4294967296) 3988292384 else (Int.tdiv (num c) 2) % 4294967296) = num (S1 c) := by
 have hc := num_lt c
 have e1 : Int.tdiv (num c) 2 % 4294967296 = num c / 2 := by rw [Int.tdiv_eq_ediv_of_nonneg hc.1]; omega
 rw [Int.tmod_eq_emod_of_nonneg hc.1, e1, ← s1_num, crc_More.s1, and_one _ hc.1]
theorem it_front (d : Nat) (c : BitVec 32) : it d (S1 c) = it (d + 1) c := by
 induction d with
 | zero => rfl
 | succ d ih => rw [it, ih, it, it, it]
theorem ref_l1 (l : List Int) (i : Nat) (hi : i ≤ 100000000) (d : Nat) : ∀ (k : Nat) (c : BitVec 32), d ≤ 8 → r02_More.l1 (k + d + 1) (num c) l i ((8 - d : Nat) : Int) = r02_More.l0 k (num (it d c)) l ((i + 1 : Nat) : Int) := by
 have hw : wrap64 ((i : Int) + 1) = ((i + 1 : Nat) : Int) := by unfold wrap64; omega
 induction d with
 | zero =>
  intro k c hd
  rw [r02_More.l1, if_neg (by omega), hw]
  rfl
 | succ d ih =>
  intro k c hd
  have hw2 : wrap64 (((8 - (d + 1) : Nat) : Int) + 1) = ((8 - d : Nat) : Int) := by unfold wrap64; omega
  have hs := ref_s1 c
  have ihh := ih k (S1 c) (by omega)
  rw [it_front] at ihh
  rw [← hs] at ihh
  rw [show k + (d + 1) + 1 = (k + d + 1) + 1 by omega, r02_More.l1, if_pos (by omega), hw2]
  by_cases h : Int.tmod (num c) 2 = 1
  ·rw [if_pos h] at ihh ⊢
   exact ihh
  ·rw [if_neg h] at ihh ⊢
   exact ihh
theorem ref_l0 (l : List Int) (hl : Bytes l) (hlen : l.length ≤ 2000000) (d : Nat) : ∀ (k i : Nat) (c : BitVec 32), 10 * d < k → i + d = l.length → r02_More.l0 k (num c) l i = some (num (ones ^^^ F c (l.drop i))) := by
 induction d with
 | zero =>
  intro k i c hk hi
  obtain ⟨k, rfl⟩ : ∃ m, k = m + 1 := ⟨k - 1, by omega⟩
  rw [r02_More.l0, if_neg (by omega), flip_num, List.drop_eq_nil_of_le (by omega), F_nil]
 | succ d ih =>
  intro k i c hk hi
  obtain ⟨k, rfl⟩ : ∃ m, k = m + 8 + 1 + 1 := ⟨k - 10, by omega⟩
  have hx : rd l i = l[i]'(by omega) := by
   unfold rd
   rw [Int.toNat_natCast, List.getD_eq_getElem?_getD, List.getElem?_eq_getElem (by omega), Option.getD_some]
  have hb := hl _ (List.getElem_mem (show i < l.length by omega))
  rw [← hx] at hb
  have e : rd l i % 4294967296 = rd l i := by omega
  have h8 := ref_l1 l i (by omega) 8 k (c ^^^ bv (rd l i)) (Nat.le_refl _)
  rw [r02_More.l0, if_pos (by omega), if_pos (by omega), e, xor_num, bv_num]
  rw [show ((8 - 8 : Nat) : Int) = 0 from rfl] at h8
  rw [h8, ih k (i + 1) _ (by omega) (by omega), List.drop_eq_getElem_cons (show i < l.length by omega), F_cons, hx]
theorem ref_more (c : Int) (l : List Int) (hc : 0 ≤ c ∧ c < 4294967296) (hl : Bytes l) (hlen : l.length ≤ 2000000) (k : Nat) (hk : 10 * l.length < k) : r02_More.f k c l = some (num (ones ^^^ F (ones ^^^ bv c) l)) := by
 unfold r02_More.f
 have e : (4294967295 - c) % 4294967296 = num (ones ^^^ bv c) := by rw [← flip_num, num_bv c hc.1 hc.2]
 have := ref_l0 l hl hlen l.length k 0 (ones ^^^ bv c) hk (by omega)
 rw [e]
 rw [Int.natCast_zero, List.drop_zero] at this
 exact this
theorem ref_of (l : List Int) (hl : Bytes l) (hlen : l.length ≤ 2000000) (k : Nat) (hk : 10 * l.length < k) : r02_Of.f k l = some (num (ones ^^^ F ones l)) := by
 unfold r02_Of.f
 have : bv 0 = 0#32 := rfl
 rw [ref_more 0 l (by omega) hl hlen k hk, Option.bind_some, this, BitVec.xor_zero]
end Go.Proofs.Ytiohnpphhepdfaa.CrcLib
end
section
namespace Go.Proofs.Ytiohnpphhepdfaa.FrameLib
open Go.RowKit Go.Proofs.Ytiohnpphhepdfaa.PPa Go.Proofs.YtiohnpphhepdfaaW.PrintWords Go.Proofs.YtiohnpphhepdfaaW.PrintLast Go.Proofs.Ytiohnpphhepdfaa.NumLib
theorem ref_put_f (k : Nat) (b p : List Int) (hp : Bytes p) (hb : b.length ≤ 100000000) (h : p.length ≤ 1048576) (hk : 10 * p.length + 20 < k) : r03_Put.f k b p = some (b ++ recL p, 0) := by
 have hw : IntKind.u64.wrap ((p.length : Int)) = p.length := by rw [u64_wrap]; omega
 have hl := putn_len p.length (by omega) (by omega)
 have e1 : (b ++ putn p.length).length + p.length < 140737488355328 := by rw [List.length_append]; omega
 have hc : 0 ≤ crcN p ∧ crcN p < 4294967296 := CrcLib.num_lt _
 have e4 : [(Int.tmod (crcN p) 256) % 256, ((Int.tdiv (crcN p) 256) % 4294967296) % 256, ((Int.tdiv (crcN p) 65536) % 4294967296) % 256, ((Int.tdiv (crcN p) 16777216) % 4294967296) % 256] = sumL p := by
  unfold sumL four
  generalize crcN p = c at *
  rw [Int.tmod_eq_emod_of_nonneg hc.1, Int.tdiv_eq_ediv_of_nonneg hc.1, Int.tdiv_eq_ediv_of_nonneg hc.1, Int.tdiv_eq_ediv_of_nonneg hc.1]
  have a1 : c % 256 % 256 = c % 256 := by omega
  have a2 : c / 256 % 4294967296 % 256 = c / 256 % 256 := by omega
  have a3 : c / 65536 % 4294967296 % 256 = c / 65536 % 256 := by omega
  have a4 : c / 16777216 % 4294967296 % 256 = c / 16777216 % 256 := by omega
  rw [a1, a2, a3, a4]
 have e2 : (b ++ putn p.length ++ p).length + (sumL p).length < 140737488355328 := by rw [List.length_append, List.length_append, sum_len]; omega
 unfold r03_Put.f
 rw [if_neg (by omega), hw, NumLib.ref_put_f k p.length b (by omega) (by omega) (by omega) (by omega), Option.bind_some, if_pos e1, Option.bind_some, CrcLib.ref_of p (crc_bytes hp) (by omega) k (by omega), Option.bind_some]
 rw [show CrcLib.num (CrcLib.ones ^^^ CrcLib.F CrcLib.ones p) = crcN p from rfl, e4, Option.bind_some, if_pos e2]
 unfold recL
 simp
theorem ref_get_f (k : Nat) (l : List Int) (hl : Bytes l) (hlen : l.length ≤ 20000000) (hk : 10 * l.length + 40 < k) : r03_Get.f k l = some (getR l) := by
 unfold r03_Get.f getR
 rw [NumLib.ref_get_f l hl (by omega) k (by omega), Option.bind_some]
 rcases hg : NumLib.get l with ⟨n, i, e⟩
 simp only
 by_cases he : e = 0
 ·subst he
  obtain ⟨i1, i2, n0, n1, hput⟩ := NumLib.get_ok l hl n i hg
  rw [if_pos rfl, if_neg (show ¬ ((0 : Int) ≠ 0) by simp)]
  by_cases hn : n > 1048576
  ·rw [if_pos hn, if_pos hn]
  ·have w1 : wrap64 n = n := by unfold wrap64; omega
   have w2 : wrap64 (i + n) = i + n := by unfold wrap64; omega
   have w3 : wrap64 (i + n + 4) = i + n + 4 := by unfold wrap64; omega
   have w4 : wrap64 (i + n + 4 - 4) = i + n := by unfold wrap64; omega
   rw [if_neg hn, if_neg hn, w1, w2, w3, w4]
   by_cases hs : (l.length : Int) < i + n + 4
   ·rw [if_pos (by omega), if_pos hs]
   ·have hpl : ((l.take (i + n).toNat).drop i.toNat).length = n.toNat := by rw [List.length_drop, List.length_take]; omega
    have hp : Bytes ((l.take (i + n).toNat).drop i.toNat) := bytes_drop (bytes_take hl _) _
    have c1 : ([] : List Int).length + ((l.take (i + n).toNat).drop i.toNat).length < 140737488355328 := by rw [hpl, List.length_nil]; omega
    have hr : Bytes (recL ((l.take (i + n).toNat).drop i.toNat)) := rec_bytes _ hp (by omega)
    have hq : Bytes (l.take (i + n + 4).toNat) := bytes_take hl _
    rw [if_neg (by omega), if_neg hs, Option.bind_some, if_pos (by omega), if_pos (by omega), if_pos (by omega), if_pos c1, Option.bind_some, List.nil_append, FrameLib.ref_put_f k [] _ hp (by simp) (by omega) (by omega), Option.bind_some, List.nil_append, if_pos (by omega), if_pos (by omega)]
    have hiff := str_inj hr hq
    have a1 : (l.take (i + n).toNat).take i.toNat = l.take i.toNat := by rw [List.take_take, Nat.min_eq_left (by omega)]
    have a2 : (l.take (i + n + 4).toNat).take (i + n).toNat = l.take (i + n).toNat := by rw [List.take_take, Nat.min_eq_left (by omega)]
    have hpre : putn (((l.take (i + n).toNat).drop i.toNat).length : Nat) ++ (l.take (i + n).toNat).drop i.toNat = l.take (i + n).toNat := by
     rw [hpl, Int.toNat_of_nonneg n0, hput, ← a1, List.take_append_drop]
    have hall : l.take (i + n + 4).toNat = l.take (i + n).toNat ++ (l.take (i + n + 4).toNat).drop (i + n).toNat := by
     rw [← a2, List.take_append_drop]
    have hsame : recL ((l.take (i + n).toNat).drop i.toNat) = l.take (i + n + 4).toNat ↔ (l.take (i + n + 4).toNat).drop (i + n).toNat = sumL ((l.take (i + n).toNat).drop i.toNat) := by
     unfold recL
     rw [hpre, hall]
     constructor
     ·intro q
      have := List.append_cancel_left q
      rw [← hall]
      exact this.symm
     ·intro q
      rw [← hall] at q
      rw [q]
    by_cases heq : (l.take (i + n + 4).toNat).drop (i + n).toNat = sumL ((l.take (i + n).toNat).drop i.toNat)
    ·rw [if_pos (hiff.2 (hsame.2 heq)), if_pos heq]
    ·rw [if_neg (fun q => heq (hsame.1 (hiff.1 q))), if_neg heq]
 ·rw [if_neg he, if_pos he]
theorem ref_scan_l0 (l : List Int) (hl : Bytes l) (hlen : l.length ≤ 20000000) (d : Nat) : ∀ (k i : Nat) (acc : List (List Int)), d + 220000000 < k → i ≤ l.length → l.length - i < d → acc.length + d ≤ 1000000000 →
  r03_Scan.l0 k l (getR (l.drop i)).1 (getR (l.drop i)).2.1 (getR (l.drop i)).2.2 i acc = some (acc ++ (scanN d (l.drop i)).1, ((i + (scanN d (l.drop i)).2 : Nat) : Int)) := by
 induction d with
 | zero => intro k i acc _ _ h _; omega
 | succ d ih =>
  intro k i acc hk hi hd hacc
  obtain ⟨k, rfl⟩ : ∃ m, k = m + 1 := ⟨k - 1, by omega⟩
  have hb : Bytes (l.drop i) := bytes_drop hl i
  rw [r03_Scan.l0, scanN]
  rcases hg : getR (l.drop i) with ⟨p, n, e⟩
  simp only
  by_cases he : e = 0
  ·subst he
   obtain ⟨h1, h2, h3, h4, h5, h6⟩ := getR_ok _ hb p n hg
   rw [List.length_drop] at h4
   obtain ⟨m, rfl⟩ := Int.eq_ofNat_of_zero_le (show 0 ≤ n by omega)
   have hw : wrap64 ((i : Int) + (m : Int)) = ((i + m : Nat) : Int) := by unfold wrap64; omega
   have hacc2 : acc.length < 5864062014805 := by omega
   have ihh := ih k (i + m) (acc ++ [p]) (by omega) (by omega) (by omega) (by rw [List.length_append, List.length_singleton]; omega)
   rw [if_pos rfl, if_pos rfl, if_pos hacc2, hw, if_pos (by omega), if_pos (by omega), Int.toNat_natCast, ref_get_f k _ (bytes_drop hl _) (by rw [List.length_drop]; omega) (by rw [List.length_drop]; omega), Option.bind_some, ihh, Int.toNat_natCast, List.drop_drop]
   simp only [List.append_assoc, List.singleton_append, Nat.add_assoc]
  ·rw [if_neg he, if_neg he]
   simp
theorem ref_scan_f (l : List Int) (hl : Bytes l) (hlen : l.length ≤ 20000000) (k : Nat) (hk : 260000000 < k) : r03_Scan.f k l = some ((scanN (l.length + 1) l).1, ((scanN (l.length + 1) l).2 : Int)) := by
 unfold r03_Scan.f
 have := ref_scan_l0 l hl hlen (l.length + 1) k 0 [] (by omega) (by omega) (by omega) (by simp; omega)
 rw [List.drop_zero, List.nil_append, Nat.zero_add, Int.natCast_zero] at this
 rw [ref_get_f k l hl (by omega) (by omega), Option.bind_some]
 exact this
end Go.Proofs.Ytiohnpphhepdfaa.FrameLib
end
section
namespace Go.Proofs.Ytiohnpphhepdfaa.RunLib
open Go.RowKit Go.Proofs.Ytiohnpphhepdfaa.PPa Go.Proofs.YtiohnpphhepdfaaW.PrintWords Go.Proofs.YtiohnpphhepdfaaW.PrintLast Go.Proofs.YtiohnpphhepdfaaW.PrintMore Go.Proofs.Ytiohnpphhepdfaa.NumLib Go.Proofs.Ytiohnpphhepdfaa.FrameLib
set_option linter.unusedVariables false
set_option linter.unusedSimpArgs false
theorem ref_may_l1 (l : List S41) (hl : l.length < 1000000000) (d : Nat) : ∀ (k i : Nat), d < k → 1 ≤ i → i + d = max 1 l.length → r09_May.l1 k l i = some (if rises (l.drop (i - 1)) = true then 0 else 9) := by
 induction d with
 | zero =>
  intro k i hk h1 hi
  obtain ⟨k, rfl⟩ : ∃ m, k = m + 1 := ⟨k - 1, by omega⟩
  rw [r09_May.l1, if_neg (by omega)]
  have : rises (l.drop (i - 1)) = true := by
   have hlen : (l.drop (i - 1)).length ≤ 1 := by rw [List.length_drop]; omega
   match l.drop (i - 1), hlen with
   | [], _ => rfl
   | [_], _ => rfl
  rw [if_pos this]
 | succ d ih =>
  intro k i hk h1 hi
  obtain ⟨k, rfl⟩ : ∃ m, k = m + 1 := ⟨k - 1, by omega⟩
  have hw : wrap64 ((i : Int) + 1) = ((i + 1 : Nat) : Int) := by unfold wrap64; omega
  have hv : wrap64 ((i : Int) - 1) = ((i - 1 : Nat) : Int) := by unfold wrap64; omega
  have hlt : i < l.length := by omega
  rw [r09_May.l1, if_pos (by omega), hv, if_pos (by omega), if_pos (by omega), if_pos (by omega), rdT_eq l i hlt, rdT_eq l (i - 1) (by omega), hw]
  have e : l.drop (i - 1) = l[i - 1] :: l[i] :: l.drop (i + 1) := by
   rw [List.drop_eq_getElem_cons (by omega)]
   congr 1
   rw [show i - 1 + 1 = i by omega, List.drop_eq_getElem_cons hlt]
  have e2 : l.drop (i + 1 - 1) = l[i] :: l.drop (i + 1) := by
   rw [show i + 1 - 1 = i by omega, List.drop_eq_getElem_cons hlt]
  have := ih k (i + 1) (by omega) (by omega) (by omega)
  rw [e2] at this
  rw [e, rises, this]
  unfold less
  by_cases hb : Op.bytesLess l[i - 1].f0.toList l[i].f0.toList = true
  ·rw [if_pos hb, hb, Bool.true_and]
  ·rw [if_neg hb]
   simp [hb]
theorem ref_may_l0 (l : List S41) (hl : l.length < 1000000000) (d : Nat) : ∀ (k i : Nat), d + l.length + 3 < k → i + d = l.length → r09_May.l0 k l i = some (if ∀ x ∈ l.drop i, fineS x then (if rises l = true then 0 else 9) else 1) := by
 induction d with
 | zero =>
  intro k i hk hi
  obtain ⟨k, rfl⟩ : ∃ m, k = m + 1 := ⟨k - 1, by omega⟩
  rw [r09_May.l0, if_neg (by omega), List.drop_of_length_le (by omega), if_pos (by simp)]
  have := ref_may_l1 l hl (max 1 l.length - 1) k 1 (by omega) (by omega) (by omega)
  exact this
 | succ d ih =>
  intro k i hk hi
  obtain ⟨k, rfl⟩ : ∃ m, k = m + 1 := ⟨k - 1, by omega⟩
  have hw : wrap64 ((i : Int) + 1) = ((i + 1 : Nat) : Int) := by unfold wrap64; omega
  have hlt : i < l.length := by omega
  rw [r09_May.l0, if_pos (by omega), if_pos (by omega), rdT_eq l i hlt, hw, List.drop_eq_getElem_cons hlt]
  have ih' := ih k (i + 1) (by omega) (by omega)
  by_cases hf : fineS l[i]
  ·have hf' := hf
   unfold fineS at hf'
   rw [if_neg (by omega), if_neg (by omega), if_neg (by omega), if_neg (by omega), ih']
   congr 1
   by_cases hr : ∀ x ∈ l.drop (i + 1), fineS x
   ·rw [if_pos hr, if_pos (List.forall_mem_cons.2 ⟨hf, hr⟩)]
   ·rw [if_neg hr, if_neg (fun h => hr (fun x hx => h x (List.mem_cons_of_mem _ hx)))]
  ·rw [if_neg (show ¬ ∀ x ∈ l[i] :: l.drop (i + 1), fineS x from fun h => hf (h _ List.mem_cons_self))]
   unfold fineS at hf
   by_cases a1 : (l[i].f0.size : Int) < 1
   ·rw [if_pos a1]
   ·rw [if_neg a1]
    by_cases a2 : (l[i].f0.size : Int) > 255
    ·rw [if_pos a2]
    ·rw [if_neg a2]
     by_cases a3 : l[i].f1 < 1
     ·rw [if_pos a3]
     ·rw [if_neg a3, if_pos (by omega)]
theorem ref_may_f (k : Nat) (l : List S41) (hl : l.length < 1000000000) (hk : 2 * l.length + 5 < k) : r09_May.f k l = some (mayS l) := by
 unfold r09_May.f mayS
 have := ref_may_l0 l hl l.length k 0 (by omega) (by omega)
 rw [Int.natCast_zero, List.drop_zero] at this
 exact this
theorem alike_l0 (a b : ByteArray) (ha : a.size < 1000000000) (d : Nat) : ∀ (k i : Nat), d < k → i + d = min a.size b.size → r09_Alike.l0 k a b i = some ((i + sh ((bytesOf a).drop i) ((bytesOf b).drop i) : Nat) : Int) := by
 induction d with
 | zero =>
  intro k i hk hi
  obtain ⟨k, rfl⟩ : ∃ m, k = m + 1 := ⟨k - 1, by omega⟩
  have : sh ((bytesOf a).drop i) ((bytesOf b).drop i) = 0 := by
   have h1 := (sh_le ((bytesOf a).drop i) ((bytesOf b).drop i))
   rw [List.length_drop, List.length_drop, bytesOf_len, bytesOf_len] at h1
   omega
  rw [this, Nat.add_zero, r09_Alike.l0]
  by_cases h : (i : Int) < (a.size : Int)
  ·rw [if_pos h, if_neg (by omega)]; rfl
  ·rw [if_neg h]; rfl
 | succ d ih =>
  intro k i hk hi
  obtain ⟨k, rfl⟩ : ∃ m, k = m + 1 := ⟨k - 1, by omega⟩
  have hw : wrap64 ((i : Int) + 1) = ((i + 1 : Nat) : Int) := by unfold wrap64; omega
  rw [r09_Alike.l0, if_pos (by omega), if_pos (by omega), if_pos (by omega), bt_eq a i (by omega), bt_eq b i (by omega), hw, rd_bytes a i (by omega), rd_bytes b i (by omega), sh]
  by_cases h : rd (bytesOf a) i = rd (bytesOf b) i
  ·rw [if_pos h, if_pos h, ih k (i + 1) (by omega) (by omega)]
   congr 2
   omega
  ·rw [if_neg h, if_neg h, Nat.add_zero]
theorem alike_f (a b : ByteArray) (ha : a.size < 1000000000) (k : Nat) (hk : a.size < k) : r09_Alike.f k a b = some ((sh (bytesOf a) (bytesOf b) : Nat) : Int) := by
 unfold r09_Alike.f
 have := alike_l0 a b ha (min a.size b.size) k 0 (by omega) (by omega)
 rw [List.drop_zero, List.drop_zero, Nat.zero_add] at this
 exact this
def prevW (l : List S41) : Nat → List Int
 | 0 => []
 | j + 1 => wd (l.getD j z41)
theorem prevW_succ (l : List S41) (i : Nat) (h : i < l.length) : prevW l (i + 1) = wd l[i] := by
 show wd (l.getD i z41) = wd l[i]
 rw [List.getD_eq_getElem?_getD, List.getElem?_eq_getElem h, Option.getD_some]
theorem len_two {a b c : List Int} (h1 : b.length ≤ 10) (h2 : c.length ≤ 10) : (a ++ b ++ c).length ≤ a.length + 20 := by rw [List.length_append, List.length_append]; omega
theorem len_more {a d : List Int} {n : Nat} (h1 : a.length ≤ n + 20) (h2 : d.length ≤ 255) : (a ++ d).length ≤ n + 275 := by rw [List.length_append]; omega
theorem ref_step0 (k : Nat) (hk : 300 < k) (x : S41) (hx : fineS x) (acc : List Int) (hacc : acc.length ≤ 99999700) (F : List Int → Option (List Int)) :
  ((r01_Put.f k acc 0).bind fun t272 => (if (0 : Int) ≤ ((0 : Nat) : Int) then ((r01_Put.f k t272 (IntKind.u64.wrap (wrap64 ((x.f0.size : Int))))).bind fun t276 => (if 0 ≤ (x.f0.size : Int) then (if t276.length + x.f0.size < 140737488355328 then ((r01_Put.f k (t276 ++ bytesOf x.f0) x.f1).bind F) else none) else none)) else none)) = F (acc ++ entB [] x) := by
 have hwl := wd_len hx
 have hxs : x.f0.size = (wd x).length := (bytesOf_len _).symm
 have hc := hx.2.2
 have hent : entB [] x = putn 0 ++ putn ((wd x).length : Int) ++ wd x ++ putn x.f1 := by
  have e0 : sh ([] : List Int) (wd x) = 0 := rfl
  unfold entB
  rw [e0, Nat.sub_zero, List.drop_zero, Int.natCast_zero]
 rw [hent, hxs, show bytesOf x.f0 = wd x from rfl]
 generalize wd x = w at hwl
 obtain ⟨c1, c2⟩ := hc
 generalize x.f1 = c at c1 c2
 clear hx hxs hent
 have p1 := putn_len 0 (by omega) (by omega)
 have p2 := putn_len (w.length : Int) (by omega) (by omega)
 have hput0 := NumLib.ref_put_f k 0 acc (by omega) (by omega) (by omega) (by omega)
 generalize putn 0 = z0 at p1 hput0
 have l0 : (acc ++ z0).length ≤ acc.length + 10 := by rw [List.length_append]; omega
 have hput1 := NumLib.ref_put_f k (w.length : Int) (acc ++ z0) (by omega) (by omega) (by omega) (by omega)
 generalize putn (w.length : Int) = z1 at p2 hput1
 have l1 : (acc ++ z0 ++ z1).length ≤ acc.length + 20 := len_two p1.2 p2.2
 have l2 : (acc ++ z0 ++ z1 ++ w).length ≤ acc.length + 275 := len_more l1 hwl.2
 have hput2 := NumLib.ref_put_f k c (acc ++ z0 ++ z1 ++ w) (by omega) (by omega) (by omega) (by omega)
 have e2 : IntKind.u64.wrap (wrap64 ((w.length : Int))) = (w.length : Int) := by
  rw [show wrap64 (w.length : Int) = (w.length : Int) by unfold wrap64; omega, u64_small _ (by omega)]
 have q0 : (0 : Int) ≤ ((0 : Nat) : Int) := by decide
 have q1 : (0 : Int) ≤ (w.length : Int) := by omega
 have q2 : (acc ++ z0 ++ z1).length + w.length < 140737488355328 := by omega
 rw [hput0, Option.bind_some, if_pos q0, e2, hput1, Option.bind_some, if_pos q1, if_pos q2, hput2, Option.bind_some]
 simp only [List.append_assoc]
theorem ref_step1 (k : Nat) (hk : 300 < k) (y x : S41) (hy : fineS y) (hx : fineS x) (acc : List Int) (hacc : acc.length ≤ 99999700) (F : List Int → Option (List Int)) :
  ((r09_Alike.f k y.f0 x.f0).bind fun t256 => ((r01_Put.f k acc (IntKind.u64.wrap (t256))).bind fun t257 => ((r01_Put.f k t257 (IntKind.u64.wrap (wrap64 ((x.f0.size : Int) - t256)))).bind fun t261 => (if 0 ≤ t256 then (if t256 ≤ (x.f0.size : Int) then (if t261.length + (x.f0.extract (t256 : Int).toNat x.f0.size).size < 140737488355328 then ((r01_Put.f k (t261 ++ bytesOf (x.f0.extract (t256 : Int).toNat x.f0.size)) x.f1).bind F) else none) else none) else none)))) = F (acc ++ entB (wd y) x) := by
 have hwl := wd_len hx
 have hyl := hy.2.1
 have hxs : x.f0.size = (wd x).length := (bytesOf_len _).symm
 have hc := hx.2.2
 have hs := (sh_le (wd y) (wd x)).2
 have hal := alike_f y.f0 x.f0 (by omega) k (by omega)
 have htl : ∀ n, (x.f0.extract n x.f0.size).size = (wd x).length - n := fun n => by rw [tail_size, hxs]
 have hbt : ∀ n, bytesOf (x.f0.extract n x.f0.size) = (wd x).drop n := fun n => bytesOf_tail _ _
 rw [hal, Option.bind_some]
 unfold entB
 simp only [Int.toNat_natCast, htl, hbt]
 simp only [hxs, show bytesOf y.f0 = wd y from rfl, show bytesOf x.f0 = wd x from rfl]
 generalize sh (wd y) (wd x) = n at hs
 generalize wd x = w at hwl hs
 obtain ⟨c1, c2⟩ := hc
 generalize x.f1 = c at c1 c2
 clear hx hy hxs hal htl hbt hyl
 have p1 := putn_len (n : Int) (by omega) (by omega)
 have p2 := putn_len ((w.length - n : Nat) : Int) (by omega) (by omega)
 have hput0 := NumLib.ref_put_f k (n : Int) acc (by omega) (by omega) (by omega) (by omega)
 generalize putn (n : Int) = z0 at p1 hput0
 have l0 : (acc ++ z0).length ≤ acc.length + 10 := by rw [List.length_append]; omega
 have hput1 := NumLib.ref_put_f k ((w.length - n : Nat) : Int) (acc ++ z0) (by omega) (by omega) (by omega) (by omega)
 generalize putn ((w.length - n : Nat) : Int) = z1 at p2 hput1
 have l1 : (acc ++ z0 ++ z1).length ≤ acc.length + 20 := len_two p1.2 p2.2
 have hd : (w.drop n).length ≤ 255 := by rw [List.length_drop]; omega
 have l2 : (acc ++ z0 ++ z1 ++ w.drop n).length ≤ acc.length + 275 := len_more l1 hd
 have hput2 := NumLib.ref_put_f k c (acc ++ z0 ++ z1 ++ w.drop n) (by omega) (by omega) (by omega) (by omega)
 have e1 : IntKind.u64.wrap ((n : Nat) : Int) = (n : Int) := u64_small _ (by omega)
 have e2 : IntKind.u64.wrap (wrap64 ((w.length : Int) - (n : Int))) = ((w.length - n : Nat) : Int) := by
  rw [show (w.length : Int) - (n : Int) = ((w.length - n : Nat) : Int) by omega, show wrap64 ((w.length - n : Nat) : Int) = ((w.length - n : Nat) : Int) by unfold wrap64; omega, u64_small _ (by omega)]
 have q0 : (0 : Int) ≤ (n : Int) := by omega
 have q1 : (n : Int) ≤ (w.length : Int) := by omega
 have q2 : (acc ++ z0 ++ z1).length + (w.length - n) < 140737488355328 := by omega
 rw [e1, hput0, Option.bind_some, e2, hput1, Option.bind_some, if_pos q0, if_pos q1, if_pos q2, hput2, Option.bind_some]
 simp only [List.append_assoc]
theorem ref_block_l0 (l : List S41) (h : ∀ x ∈ l, fineS x) (hl : l.length ≤ 100000) (d : Nat) : ∀ (k i : Nat) (acc : List Int), d + 300 < k → i + d = l.length → acc.length + 300 * d ≤ 99999900 →
  r09_Block.l0 k l acc i = some (acc ++ entsB (prevW l i) (l.drop i)) := by
 induction d with
 | zero =>
  intro k i acc hk hi _
  obtain ⟨k, rfl⟩ : ∃ m, k = m + 1 := ⟨k - 1, by omega⟩
  rw [r09_Block.l0, if_neg (by omega), List.drop_of_length_le (by omega), entsB, List.append_nil]
 | succ d ih =>
  intro k i acc hk hi hacc
  obtain ⟨k, rfl⟩ : ∃ m, k = m + 1 := ⟨k - 1, by omega⟩
  have hwr : wrap64 ((i : Int) + 1) = ((i + 1 : Nat) : Int) := by unfold wrap64; omega
  have hlt : i < l.length := by omega
  have hx := h l[i] (List.getElem_mem hlt)
  have hpn := prevW_succ l i hlt
  have hel : ∀ was, (entB was l[i]).length ≤ 285 := fun was => entB_len was hx
  have hstep : ∀ was, (acc ++ entB was l[i]).length + 300 * d ≤ 99999900 := fun was => by have := hel was; rw [List.length_append]; omega
  have ihx : ∀ was, r09_Block.l0 k l (acc ++ entB was l[i]) ((i + 1 : Nat) : Int) = some (acc ++ entB was l[i] ++ entsB (wd l[i]) (l.drop (i + 1))) := fun was => by
   have := ih k (i + 1) (acc ++ entB was l[i]) (by omega) (by omega) (hstep was)
   rw [hpn] at this
   exact this
  have hk3 : 300 < k := by omega
  have ha3 : acc.length ≤ 99999700 := by omega
  have q : (i : Int) < (l.length : Int) := by omega
  rw [r09_Block.l0, if_pos q, rdT_eq l i hlt, hwr, List.drop_eq_getElem_cons hlt, entsB]
  by_cases h0 : i = 0
  ·subst h0
   have hng : ¬ ((0 : Nat) : Int) > 0 := by decide
   have hs := ref_step0 k hk3 l[0] hx acc ha3 (fun t => r09_Block.l0 k l t ((0 + 1 : Nat) : Int))
   rw [if_neg hng]
   refine hs.trans ((ihx []).trans ?_)
   rw [List.append_assoc]
   rfl
  ·obtain ⟨j, rfl⟩ : ∃ j, i = j + 1 := ⟨i - 1, by omega⟩
   have hv : wrap64 (((j + 1 : Nat) : Int) - 1) = ((j : Nat) : Int) := by unfold wrap64; omega
   have hj : j < l.length := by omega
   have hy := h l[j] (List.getElem_mem hj)
   have hs := ref_step1 k hk3 l[j] l[j + 1] hy hx acc ha3 (fun t => r09_Block.l0 k l t ((j + 1 + 1 : Nat) : Int))
   have g0 : ((j + 1 : Nat) : Int) > 0 := by omega
   have g1 : (0 : Int) ≤ ((j : Nat) : Int) := by omega
   have g2 : ((j : Nat) : Int) < (l.length : Int) := by omega
   have g3 : (0 : Int) ≤ ((j + 1 : Nat) : Int) := by omega
   rw [if_pos g0, hv, if_pos g1, if_pos g2, if_pos g3, rdT_eq l j hj, prevW_succ l j hj]
   refine hs.trans ((ihx (wd l[j])).trans ?_)
   rw [List.append_assoc]
theorem ref_block_f (k : Nat) (l : List S41) (h : ∀ x ∈ l, fineS x) (hl : l.length ≤ 100000) (hk : l.length + 300 < k) : r09_Block.f k l = some (blockB l) := by
 unfold r09_Block.f
 have p1 := putn_len (l.length : Int) (by omega) (by omega)
 rw [u64_small _ (by omega), NumLib.ref_put_f k _ [] (by omega) (by omega) (by omega) (by simp), Option.bind_some]
 have := ref_block_l0 l h hl l.length k 0 ([] ++ putn (l.length : Int)) hk (by omega) (by rw [List.nil_append]; omega)
 rw [List.drop_zero] at this
 exact this
def endR (l : List S41) : List Int := putn 0 ++ putn (l.length : Int)
theorem endR_len (l : List S41) (hl : l.length ≤ 100000) : (endR l).length ≤ 20 ∧ Bytes (endR l) := by
 have p1 := putn_len 0 (by omega) (by omega)
 have p2 := putn_len (l.length : Int) (by omega) (by omega)
 exact ⟨by unfold endR; rw [List.length_append]; omega, bytes_append (putn_bytes _ (by omega) (by omega)) (putn_bytes _ (by omega) (by omega))⟩
theorem cut_eq (l : List S41) (i hi2 size : Nat) (h : hi2 = min (i + size) l.length) (hi : i < l.length) : (l.take hi2).drop i = (l.drop i).take size := by
 subst h
 rw [List.drop_take]
 by_cases hs : i + size ≤ l.length
 ·rw [Nat.min_eq_left hs, Nat.add_sub_cancel_left]
 ·rw [Nat.min_eq_right (by omega), List.take_of_length_le (by rw [List.length_drop]; exact Nat.le_refl _), List.take_of_length_le (by rw [List.length_drop]; omega)]
theorem ref_fin (k : Nat) (l : List S41) (hl : l.length ≤ 100000) (size : Int) (i : Nat) (acc : List Int) (hk : 800000 < k) (hi : ¬ i < l.length) (ha : acc.length ≤ 99999900) : r09_Encode.l0 (k + 1) l size acc i = some (acc ++ recs [endR l], 0) := by
 have he := endR_len l (by omega)
 have hng : ¬ (i : Int) < (l.length : Int) := by omega
 have hend : endR l = putn 0 ++ putn (l.length : Int) := rfl
 have hl64 : (l.length : Int) < 18446744073709551616 := by omega
 have hu : IntKind.u64.wrap (l.length : Int) = (l.length : Int) := u64_small _ (by omega)
 generalize endR l = E at he hend
 have hp := FrameLib.ref_put_f k acc E he.2 (by omega) (by omega) (by omega)
 have p1 := putn_len 0 (by omega) (by omega)
 have hput0 := NumLib.ref_put_f k 0 [] (by omega) (by omega) (by omega) (by simp)
 generalize putn 0 = z0 at p1 hput0 hend
 rw [List.nil_append] at hput0
 have hput1 := NumLib.ref_put_f k (l.length : Int) z0 (by omega) (by omega) hl64 (by omega)
 rw [r09_Encode.l0, if_neg hng, hput0, Option.bind_some, hu, hput1, Option.bind_some, ← hend, hp, Option.bind_some, recs, recs, List.append_nil]
theorem ref_blk (k : Nat) (c : List S41) (h : ∀ x ∈ c, fineS x) (hl : c.length ≤ 255) (acc : List Int) (hk : 900000 < k) (ha : acc.length ≤ 99000000) (F : List Int × Int → Option (List Int × Int)) :
  ((r09_Block.f k c).bind fun t => (r03_Put.f k acc t).bind F) = F (acc ++ recL (blockB c), 0) ∧ (acc ++ recL (blockB c)).length ≤ acc.length + 24 + 285 * c.length := by
 have hb := ref_block_f k c h (by omega) (by omega)
 have h1 := blockB_len h (by omega)
 have h2 := blockB_bytes h (by omega)
 generalize blockB c = B at hb h1 h2
 have h3 := (recL_le (p := B) (by omega)).1
 have hput := FrameLib.ref_put_f k acc B h2 (by omega) (by omega) (by omega)
 rw [hb, Option.bind_some, hput, Option.bind_some]
 exact ⟨rfl, by rw [List.length_append]; omega⟩
theorem ref_enc_l0 (l : List S41) (h : ∀ x ∈ l, fineS x) (hl : l.length ≤ 100000) (size : Nat) (h1 : 1 ≤ size) (hs : size ≤ 255) (d : Nat) : ∀ (k i : Nat) (acc : List Int), 2 * d + 1000000 < k → l.length - i ≤ d → i ≤ 110000 → acc.length + 309 * (l.length - i) ≤ 98000000 →
  r09_Encode.l0 k l size acc i = some (acc ++ recs ((chunks size d (l.drop i)).map blockB ++ [endR l]), 0) := by
 induction d with
 | zero =>
  intro k i acc hk hd hi ha
  obtain ⟨k, rfl⟩ : ∃ m, k = m + 1 := ⟨k - 1, by omega⟩
  rw [chunks, List.map_nil, List.nil_append]
  exact ref_fin k l hl size i acc (by omega) (by omega) (by omega)
 | succ d ih =>
  intro k i acc hk hd hi ha
  obtain ⟨k, rfl⟩ : ∃ m, k = m + 2 := ⟨k - 2, by omega⟩
  by_cases hlt : i < l.length
  ·have hne : l.drop i ≠ [] := fun e => by
    have := congrArg List.length e
    rw [List.length_drop, List.length_nil] at this
    omega
   have hpl : ((l.drop i).take size).length = min size (l.length - i) := by rw [List.length_take, List.length_drop]
   have hpf : ∀ x ∈ (l.drop i).take size, fineS x := fun x hx => h x (List.mem_of_mem_drop (List.mem_of_mem_take hx))
   have hw : wrap64 ((i : Int) + (size : Int)) = ((i + size : Nat) : Int) := by unfold wrap64; omega
   have hk9 : 900000 < k := by omega
   have ha9 : acc.length ≤ 99000000 := by omega
   have hc255 : ((l.drop i).take size).length ≤ 255 := by omega
   have hblk := ref_blk k _ hpf hc255 acc hk9 ha9 (fun r => if r.2 = 0 then r09_Encode.l0 k l size r.1 (wrap64 ((i : Int) + (size : Int))) else some ([], r.2))
   have hchunk : chunks size (d + 1) (l.drop i) = (l.drop i).take size :: chunks size d (l.drop (i + size)) := by rw [chunks, if_neg hne, List.drop_drop]
   have hcut := fun hi2 hto => cut_eq l i hi2 size hto hlt
   have hnext := ih k (i + size) (acc ++ recL (blockB ((l.drop i).take size))) (by omega) (by omega) (by omega) (by have := hblk.2; omega)
   rw [hchunk, List.map_cons, List.cons_append, recs]
   rw [hw] at hblk
   generalize (l.drop i).take size = c at hpl hpf hc255 hblk hcut hnext
   have hres := hblk.1.trans ((if_pos rfl).trans hnext)
   have hj : ∀ hi2 : Nat, hi2 = min (i + size) l.length → r09_Encode.j2 (k + 1) l size acc i hi2 = some (acc ++ (recL (blockB c) ++ recs ((chunks size d (l.drop (i + size))).map blockB ++ [endR l])), 0) := by
    intro hi2 hto
    have q1 : (0 : Int) ≤ (i : Int) := by omega
    have q2 : (i : Int) ≤ (hi2 : Int) := by omega
    have q3 : (hi2 : Int) ≤ (l.length : Int) := by omega
    rw [r09_Encode.j2, if_pos q1, if_pos q2, if_pos q3, Int.toNat_natCast, Int.toNat_natCast, hcut hi2 hto, hw, ← List.append_assoc]
    exact hres
   have q : (i : Int) < (l.length : Int) := by omega
   rw [r09_Encode.l0, if_pos q, hw]
   by_cases hc : ((i + size : Nat) : Int) > (l.length : Int)
   ·rw [if_pos hc]
    exact hj _ (by omega)
   ·rw [if_neg hc]
    exact hj _ (by omega)
  ·have e : l.drop i = [] := List.drop_of_length_le (by omega)
   rw [e, chunks_nil, List.map_nil, List.nil_append]
   exact ref_fin (k + 1) l hl size i acc (by omega) hlt (by omega)
theorem ref_enc_ok (k : Nat) (l : List S41) (size : Nat) (hm : mayS l = 0) (hl : l.length ≤ 100000) (h1 : 1 ≤ size) (hs : size ≤ 255) (hk : 1340000 < k) :
  ((r01_Put.f k ([] : List Int) (IntKind.u64.wrap ((size : Nat) : Int))).bind fun t288 => ((r03_Put.f k ([] : List Int) t288).bind fun bt291 => (r09_Encode.l0 k l size bt291.1 0))) = some (encB l size, 0) := by
 have hf := (mayS_zero hm).1
 have p1 := putn_len (size : Int) (by omega) (by omega)
 have hby := putn_bytes (size : Int) (by omega) (by omega)
 have hput0 := NumLib.ref_put_f k (size : Int) [] (by omega) (by omega) (by omega) (by simp)
 have hE : encB l size = recL (putn (size : Int)) ++ recs ((chunks size l.length l).map blockB ++ [endR l]) := by
  unfold encB encR
  rw [List.cons_append, recs]
  rfl
 rw [List.nil_append] at hput0
 generalize putn (size : Int) = z at p1 hby hput0 hE
 have r1 := (recL_le (p := z) (by omega)).1
 have hput := FrameLib.ref_put_f k [] z hby (by simp) (by omega) (by omega)
 rw [List.nil_append] at hput
 have hl0 := ref_enc_l0 l hf hl size h1 hs l.length k 0 (recL z) (by omega) (by omega) (by omega) (by omega)
 rw [Int.natCast_zero, List.drop_zero] at hl0
 rw [u64_small size (by omega), hput0, Option.bind_some, hput, Option.bind_some, hE]
 exact hl0
theorem ref_enc_f (k : Nat) (l : List S41) (a : Int) (hl : l.length ≤ 100000) (hk : 1350000 < k) : r09_Encode.f k l a = some (encS l a) := by
 obtain ⟨k, rfl⟩ : ∃ m, k = m + 1 := ⟨k - 1, by omega⟩
 unfold r09_Encode.f encS
 by_cases h1 : a < 1
 ·rw [if_pos h1, if_pos (.inl h1), r09_Encode.j0, if_pos rfl]
 ·rw [if_neg h1]
  by_cases h2 : a > 255
  ·have hd : decide (a > 255) = true := by simpa using h2
   rw [hd, if_pos (.inr h2), r09_Encode.j0, if_pos rfl]
  ·have hd : decide (a > 255) = false := by simpa using h2
   have hn : ¬ (a < 1 ∨ a > 255) := by omega
   rw [hd, if_neg hn, r09_Encode.j0, if_neg (show ¬ (false = true) by simp), ref_may_f k l (by omega) (by omega), Option.bind_some]
   by_cases h3 : mayS l = 0
   ·obtain ⟨size, rfl⟩ := Int.eq_ofNat_of_zero_le (show 0 ≤ a by omega)
    have hres := ref_enc_ok k l size h3 hl (by omega) (by omega) (by omega)
    rw [if_pos h3, if_pos h3, Int.toNat_natCast]
    exact hres
   ·rw [if_neg h3, if_neg h3]
def takeS (l : List Int) (r : ByteArray × Int × List Int × Bool) : ByteArray × Int × Int := if r.2.2.2 = true then (r.1, r.2.1, ((l.length - r.2.2.1.length : Nat) : Int)) else (⟨#[]⟩, 0, 0)
theorem take_j1_true (k : Nat) (was : ByteArray) (l : List Int) (a b c : Int) : r09_take.j1 (k + 1) was l a b c true = some (⟨#[]⟩, 0, 0) := by rw [r09_take.j1, if_pos rfl]
theorem take_j0_true (k : Nat) (was : ByteArray) (l : List Int) (a b : Int) : r09_take.j0 (k + 1) was l a b true = some (⟨#[]⟩, 0, 0) := by rw [r09_take.j0, if_pos rfl]
theorem tk_w1 (a b n : Nat) (h : a + b ≤ n) (hn : n ≤ 100000000) : wrap64 ((a : Int) + (b : Int)) = ((a + b : Nat) : Int) := by unfold wrap64; omega
theorem tk_w2 (n a : Nat) (h : a ≤ n) (hn : n ≤ 100000000) : IntKind.u64.wrap (wrap64 ((n : Int) - (a : Int))) = ((n - a : Nat) : Int) := by
 rw [show (n : Int) - (a : Int) = ((n - a : Nat) : Int) by omega, show wrap64 ((n - a : Nat) : Int) = ((n - a : Nat) : Int) by unfold wrap64; omega]
 exact u64_small _ (by omega)
theorem tk_w3 (a n : Nat) (h : a ≤ n) (hn : n ≤ 100000000) : wrap64 ((a : Nat) : Int) = (a : Int) := by unfold wrap64; omega
theorem tk_head (s : ByteArray) (n : Nat) (h : n ≤ s.size) : (s.extract 0 n).size = n := by
 rw [← bytesOf_len, bytesOf_head, List.length_take, bytesOf_len]
 omega
theorem tk_str (l : List Int) (hb : Bytes l) (n : Nat) (h : n ≤ l.length) : (strOfNums (l.take n)).size = n := by
 rw [← bytesOf_len, bytesOf_str _ (bytes_take hb _), List.length_take]
 omega
theorem tk_sub (n a m : Nat) (h1 : a ≤ n) (h2 : m ≤ n - a) : a + m ≤ n := by omega
theorem tk_sum (a m s n : Nat) (h : s + n ≤ 100000000) (h1 : a ≤ s) (h2 : m ≤ n) : a + m ≤ 9223372036854775807 := by omega
theorem tk_i3 (n a p : Nat) (h : ((p : Nat) : Int) ≤ ((n - a : Nat) : Int)) (h1 : a ≤ n) : a + p ≤ n ∧ n - (n - (a + p)) = a + p := by omega
theorem take_eq (was : ByteArray) (l : List Int) (hb : Bytes l) (h : was.size + l.length ≤ 100000000) (k : Nat) (hk : 30 < k) : ∃ r, run_entry.f was l = some r ∧ r09_take.f (k + 1 + 1) was l = some (takeS l r) := by
 have hg1 := NumLib.ref_get_f l hb (by omega) (k + 1 + 1) (by omega)
 unfold run_entry.f r09_take.f
 rw [NumLib.get_f _ hb, hg1, Option.bind_some, Option.bind_some]
 rcases h1 : get l with ⟨n1, n2, n3⟩
 simp only
 have g1 := get_bounds l hb n1 n2 n3 h1
 clear hg1 h1
 obtain ⟨i1, rfl⟩ := Int.eq_ofNat_of_zero_le g1.2.2.1
 simp only [Int.toNat_natCast]
 have hb1 := bytes_drop hb i1
 have hg2 := NumLib.ref_get_f _ hb1 (by rw [List.length_drop]; omega) (k + 1) (by omega)
 rw [NumLib.get_f _ hb1, Option.bind_some]
 rcases h2 : get (l.drop i1) with ⟨m1, m2, m3⟩
 rw [h2] at hg2
 simp only
 have g2 := get_bounds _ hb1 m1 m2 m3 h2
 clear h2
 obtain ⟨i2, rfl⟩ := Int.eq_ofNat_of_zero_le g2.2.2.1
 simp only [Int.toNat_natCast]
 have hl1 : (l.drop i1).length = l.length - i1 := List.length_drop
 have hdd : (l.drop i1).drop i2 = l.drop (i1 + i2) := List.drop_drop
 rw [hdd]
 rw [hl1] at g2
 have hb2 := bytes_drop hb (i1 + i2)
 have hl2 : (l.drop (i1 + i2)).length = l.length - (i1 + i2) := List.length_drop
 obtain ⟨a1, rfl⟩ := Int.eq_ofNat_of_zero_le g1.1
 obtain ⟨a2, rfl⟩ := Int.eq_ofNat_of_zero_le g2.1
 simp only [Int.toNat_natCast]
 have hi12 : i1 + i2 ≤ l.length := by omega
 have hlen8 : l.length ≤ 100000000 := by omega
 have hi1 : i1 ≤ l.length := by omega
 have hws : IntKind.u64.wrap (was.size : Int) = (was.size : Int) := u64_small _ (by omega)
 have hwl : IntKind.u64.wrap ((l.drop (i1 + i2)).length : Int) = ((l.length - (i1 + i2) : Nat) : Int) := by rw [hl2]; exact u64_small _ (by omega)
 rw [hws, hwl]
 clear hws hwl
 by_cases c1 : n3 = 0
 ·subst c1
  rw [if_pos rfl]
  by_cases c2 : (a1 : Int) > (was.size : Int)
  ·have hd : decide ((a1 : Int) > (was.size : Int)) = true := by simpa using c2
   rw [hd, take_j0_true]
   by_cases c3 : ((0 : Int) == 0 && m3 == 0) = false
   ·rw [if_pos c3]; exact ⟨_, rfl, rfl⟩
   ·rw [if_neg c3, if_pos c2]; exact ⟨_, rfl, rfl⟩
  ·have hd : decide ((a1 : Int) > (was.size : Int)) = false := by simpa using c2
   have q1 : (0 : Int) ≤ (i1 : Int) := Int.natCast_nonneg _
   have q2 : (i1 : Int) ≤ (l.length : Int) := Int.ofNat_le.2 hi1
   have hw := tk_w1 i1 i2 _ hi12 hlen8
   have hw2 := tk_w2 l.length (i1 + i2) hi12 hlen8
   rw [hd, r09_take.j0, if_neg (show ¬ (false = true) by simp), if_pos q1, if_pos q2, show ((i1 : Nat) : Int).toNat = i1 from rfl, hg2, Option.bind_some]
   simp only
   rw [hw, hw2]
   by_cases c3 : m3 = 0
   ·subst c3
    rw [if_pos rfl, if_neg (show ¬ (((0 : Int) == 0 && (0 : Int) == 0) = false) by simp), if_neg c2]
    by_cases c4 : (a2 : Int) > ((l.length - (i1 + i2) : Nat) : Int)
    ·have hd4 : decide ((a2 : Int) > ((l.length - (i1 + i2) : Nat) : Int)) = true := by simpa using c4
     rw [hd4, take_j1_true, if_pos c4]
     exact ⟨_, rfl, rfl⟩
    ·have hd4 : decide ((a2 : Int) > ((l.length - (i1 + i2) : Nat) : Int)) = false := by simpa using c4
     have z1 : (0 : Int) ≤ (a1 : Int) := Int.natCast_nonneg _
     have z2 : (a1 : Int) ≤ (was.size : Int) := Int.not_lt.1 c2
     have z3 : (0 : Int) ≤ (a2 : Int) := Int.natCast_nonneg _
     have z4 : (a2 : Int) ≤ ((l.length - (i1 + i2) : Nat) : Int) := Int.not_lt.1 c4
     have hm := Int.ofNat_le.1 z4
     have hn := tk_sub _ _ _ hi12 hm
     have hh := tk_head was a1 (Int.ofNat_le.1 z2)
     have ht := tk_str (l.drop (i1 + i2)) hb2 a2 (by rw [hl2]; exact hm)
     have hb3 := bytes_drop hb2 a2
     have hd3 : (l.drop (i1 + i2)).drop a2 = l.drop (i1 + i2 + a2) := List.drop_drop
     have hcut : (l.take (i1 + i2 + a2)).drop (i1 + i2) = (l.drop (i1 + i2)).take a2 := by rw [List.drop_take, Nat.add_sub_cancel_left]
     have hl3 : (l.drop (i1 + i2 + a2)).length = l.length - (i1 + i2 + a2) := List.length_drop
     rw [hd3] at hb3
     have hg3 := NumLib.ref_get_f _ hb3 (by rw [hl3]; exact Nat.lt_of_le_of_lt (Nat.le_trans (Nat.sub_le _ _) hlen8) (by decide)) k (Nat.lt_of_lt_of_le (by decide) (Nat.le_of_lt hk))
     have hw3 := tk_w3 a2 _ (Nat.le_trans (Nat.le_add_left a2 (i1 + i2)) hn) hlen8
     have hw4 := tk_w1 (i1 + i2) a2 _ hn hlen8
     have z5 : (was.extract 0 a1).size + (strOfNums ((l.drop (i1 + i2)).take a2)).size ≤ 9223372036854775807 := by
      rw [hh, ht]
      exact tk_sum _ _ _ _ h (Int.ofNat_le.1 z2) (Nat.le_trans hm (Nat.sub_le _ _))
     have y1 : (0 : Int) ≤ ((i1 + i2 : Nat) : Int) := Int.natCast_nonneg _
     have y2 : ((i1 + i2 : Nat) : Int) ≤ ((i1 + i2 + a2 : Nat) : Int) := Int.ofNat_le.2 (Nat.le_add_right _ _)
     have y3 : ((i1 + i2 + a2 : Nat) : Int) ≤ (l.length : Int) := Int.ofNat_le.2 hn
     have y4 : (0 : Int) ≤ ((i1 + i2 + a2 : Nat) : Int) := Int.natCast_nonneg _
     rw [hd4, if_neg c4, if_pos ⟨z1, z2, z3, by rw [hl2]; exact z4, z5⟩, r09_take.j1, if_neg (show ¬ (false = true) by simp), if_pos z1, if_pos z2, if_pos y1, hw3, hw4, if_pos y2, if_pos y3, show ((i1 + i2 + a2 : Nat) : Int).toNat = i1 + i2 + a2 from rfl, show ((i1 + i2 : Nat) : Int).toNat = i1 + i2 from rfl, show ((a1 : Nat) : Int).toNat = a1 from rfl, hcut, if_pos z5, if_pos y4, hd3, hg3, NumLib.get_f _ hb3, Option.bind_some, Option.bind_some]
     rcases h3 : get (l.drop (i1 + i2 + a2)) with ⟨p1, p2, p3⟩
     simp only
     have g3 := get_bounds _ hb3 p1 p2 p3 h3
     clear h3 hg3 hg2
     rw [hl3] at g3
     obtain ⟨i3, rfl⟩ := Int.eq_ofNat_of_zero_le g3.2.2.1
     refine ⟨_, rfl, ?_⟩
     unfold takeS
     by_cases c5 : p3 = 0
     ·subst c5
      have h3 := tk_i3 l.length (i1 + i2 + a2) i3 g3.2.2.2.1 hn
      have hw5 := tk_w1 (i1 + i2 + a2) i3 _ h3.1 hlen8
      have hl4 : ((l.drop (i1 + i2 + a2)).drop i3).length = l.length - (i1 + i2 + a2 + i3) := by rw [List.drop_drop, List.length_drop]
      have hn := h3.2
      simp only [Int.toNat_natCast]
      rw [if_pos trivial, hw5, hl4, hn]
      rfl
     ·have hf : (p3 == 0) = false := by simpa using c5
      simp only [hf]
      rw [if_neg c5]
      rfl
   ·have hm3 : (m3 == 0) = false := by simpa using c3
    rw [if_neg c3, take_j1_true, if_pos (by rw [hm3]; rfl)]
    exact ⟨_, rfl, rfl⟩
 ·have hn3 : (n3 == 0) = false := by simpa using c1
  rw [if_neg c1, take_j0_true, if_pos (by rw [hn3]; rfl)]
  exact ⟨_, rfl, rfl⟩
theorem wr1 (i : Nat) (h : i ≤ 100000000) : wrap64 ((i : Int) + 1) = ((i + 1 : Nat) : Int) := by unfold wrap64; omega
theorem l1_stop (b : List Int) (R : List (List Int)) (m : Int) (acc : List S41) (i n o c : Nat) (was : ByteArray) (k : Nat) (hi : i ≤ 100000000) (hn : n ≤ 100000000) (h : ¬ c < n) :
  r09_Decode.l1 (k + 1) b R m acc (i : Int) (n : Int) (o : Int) was (c : Int) = r09_Decode.l0 k b R m acc ((i + 1 : Nat) : Int) := by
 rw [r09_Decode.l1, tk_w3 n n (Nat.le_refl _) hn, if_neg (show ¬ (c : Int) < (n : Int) by omega), wr1 i hi]
theorem l1_step (b : List Int) (R : List (List Int)) (m : Int) (acc : List S41) (i n o c : Nat) (was : ByteArray) (k : Nat) (hi : i < R.length) (hn : n ≤ 100000000) (h : c < n) (ho : o ≤ R[i].length) (hacc : acc.length ≤ 1000000) (hp : Bytes R[i]) (hs : was.size + R[i].length ≤ 1000000) (hk : 40 < k) :
  ∃ r, run_entry.f was (R[i].drop o) = some r ∧ r09_Decode.l1 (k + 1 + 1 + 1) b R m acc (i : Int) (n : Int) (o : Int) was (c : Int) =
   (if (takeS (R[i].drop o) r).2.2 = 0 then some ([], 2) else r09_Decode.l1 (k + 1 + 1) b R m (acc ++ [⟨(takeS (R[i].drop o) r).1, (takeS (R[i].drop o) r).2.1⟩]) (i : Int) (n : Int) (wrap64 ((o : Int) + (takeS (R[i].drop o) r).2.2)) (takeS (R[i].drop o) r).1 ((c + 1 : Nat) : Int)) := by
 have hl : (R[i].drop o).length ≤ R[i].length := by rw [List.length_drop]; exact Nat.sub_le _ _
 obtain ⟨r, hr, ht⟩ := take_eq was (R[i].drop o) (bytes_drop hp _) (by omega) k (by omega)
 refine ⟨r, hr, ?_⟩
 have q1 : (c : Int) < (n : Int) := by omega
 have q2 : (0 : Int) ≤ (i : Int) := by omega
 have q3 : (i : Int) < (R.length : Int) := by omega
 have q4 : (0 : Int) ≤ (o : Int) := by omega
 have q5 : (o : Int) ≤ (R[i].length : Int) := by omega
 have q6 : acc.length < 5864062014805 := by omega
 rw [r09_Decode.l1, tk_w3 n n (Nat.le_refl _) hn, if_pos q1, if_pos q2, if_pos q3, if_pos q4, rdL_eq R i hi, if_pos q5, Int.toNat_natCast, ht, Option.bind_some, if_pos q6, wr1 c (by omega)]
theorem takeS_ok (l : List Int) (r : ByteArray × Int × List Int × Bool) (h : r.2.2.2 = true) : takeS l r = (r.1, r.2.1, ((l.length - r.2.2.1.length : Nat) : Int)) := by unfold takeS; rw [if_pos h]
theorem takeS_bad (l : List Int) (r : ByteArray × Int × List Int × Bool) (h : r.2.2.2 = false) : takeS l r = (⟨#[]⟩, 0, 0) := by unfold takeS; rw [h, if_neg (by simp)]
theorem l1_arith (P o e t w s : Nat) (ho : o ≤ P) (h1 : e + t ≤ w + (P - o)) (h2 : t + 3 ≤ P - o) (h : w + (P - o) ≤ s) : o + (P - o - t) ≤ P ∧ e + (P - (o + (P - o - t))) ≤ s ∧ P - o - t ≠ 0 ∧ (P - (o + (P - o - t))) + 3 ≤ P - o := by omega
theorem l1_total (b : List Int) (R : List (List Int)) (m : Int) (i : Nat) (hi : i < R.length) (hR : R.length ≤ 1000000) (n : Nat) (hn : n ≤ 255) (hp : Bytes R[i]) (hpl : R[i].length ≤ 100000) : ∀ (d k c o : Nat) (was : ByteArray) (acc : List S41), c + d = n → d + 50 < k → o ≤ R[i].length → was.size + (R[i].length - o) ≤ 100000 → acc.length + d ≤ 1000000 →
  r09_Decode.l1 k b R m acc (i : Int) (n : Int) (o : Int) was (c : Int) = some ([], 2) ∨ ∃ (k' : Nat) (es : List S41), k ≤ k' + d + 1 ∧ 3 * es.length ≤ R[i].length - o ∧ r09_Decode.l1 k b R m acc (i : Int) (n : Int) (o : Int) was (c : Int) = r09_Decode.l0 k' b R m (acc ++ es) ((i + 1 : Nat) : Int)
 | 0, k, c, o, was, acc, hc, hk, ho, hs, ha => by
  obtain ⟨k, rfl⟩ : ∃ m, k = m + 1 := ⟨k - 1, by omega⟩
  refine .inr ⟨k, [], by omega, by simp, ?_⟩
  rw [List.append_nil]
  exact l1_stop b R m acc i n o c was k (by omega) (by omega) (by omega)
 | d + 1, k, c, o, was, acc, hc, hk, ho, hs, ha => by
  obtain ⟨k, rfl⟩ : ∃ m, k = m + 1 + 1 + 1 := ⟨k - 3, by omega⟩
  obtain ⟨r, hr, hst⟩ := l1_step b R m acc i n o c was k hi (by omega) (by omega) ho (by omega) hp (by omega) (by omega)
  have hld : (R[i].drop o).length = R[i].length - o := List.length_drop
  obtain ⟨r', hr', h3⟩ := entry_total was (R[i].drop o) (bytes_drop hp _) (by omega)
  obtain rfl : r = r' := Option.some.inj (hr.symm.trans hr')
  rw [hst]
  cases hq : r.2.2.2 with
  | false =>
   rw [takeS_bad _ r hq, if_pos rfl]
   exact .inl rfl
  | true =>
   obtain ⟨g1, g2, g3⟩ := h3 hq
   rw [takeS_ok _ r hq, hld]
   rw [hld] at g1 g2
   simp only
   generalize r.2.2.1.length = t at g1 g2 ⊢
   obtain ⟨a1, a2, a3, a4⟩ := l1_arith R[i].length o r.1.size t was.size 100000 ho g1 g2 hs
   have hz : ¬ ((R[i].length - o - t : Nat) : Int) = 0 := by omega
   rw [if_neg hz, tk_w1 o _ _ a1 (by omega)]
   rcases l1_total b R m i hi hR n hn hp hpl d (k + 1 + 1) (c + 1) (o + (R[i].length - o - t)) r.1 (acc ++ [⟨r.1, r.2.1⟩]) (by omega) (by omega) a1 a2 (by rw [List.length_append, List.length_singleton]; omega) with h | ⟨k', es, h1, h2, h⟩
   ·exact .inl h
   ·refine .inr ⟨k', ⟨r.1, r.2.1⟩ :: es, by omega, by rw [List.length_cons]; omega, ?_⟩
    rw [h, List.append_assoc]
    rfl
theorem l1_exact (b : List Int) (R : List (List Int)) (m : Int) (i : Nat) (hi : i < R.length) (hR : R.length ≤ 1000000) (n : Nat) (hn : n ≤ 255) (hp : Bytes R[i]) (hpl : R[i].length ≤ 100000) : ∀ (es : List S41) (k c o : Nat) (was : ByteArray) (acc : List S41), c + es.length = n → es.length + 50 < k → o ≤ R[i].length → was.size ≤ 255 → acc.length + es.length ≤ 1000000 → (∀ x ∈ es, fineS x) → R[i].drop o = entsB (bytesOf was) es →
  ∃ (k' : Nat), k ≤ k' + es.length + 1 ∧ r09_Decode.l1 k b R m acc (i : Int) (n : Int) (o : Int) was (c : Int) = r09_Decode.l0 k' b R m (acc ++ es) ((i + 1 : Nat) : Int)
 | [], k, c, o, was, acc, hc, hk, ho, hs, ha, hf, he => by
  obtain ⟨k, rfl⟩ : ∃ m, k = m + 1 := ⟨k - 1, by omega⟩
  rw [List.length_nil] at hc
  refine ⟨k, by omega, ?_⟩
  rw [List.append_nil]
  exact l1_stop b R m acc i n o c was k (by omega) (by omega) (by omega)
 | x :: es, k, c, o, was, acc, hc, hk, ho, hs, ha, hf, he => by
  rw [List.length_cons] at hc hk ha
  obtain ⟨k, rfl⟩ : ∃ m, k = m + 1 + 1 + 1 := ⟨k - 3, by omega⟩
  obtain ⟨r, hr, hst⟩ := l1_step b R m acc i n o c was k hi (by omega) (by omega) ho (by omega) hp (by omega) (by omega)
  have hx := hf x List.mem_cons_self
  have hf' : ∀ y ∈ es, fineS y := fun y hy => hf y (List.mem_cons_of_mem _ hy)
  have hld : (R[i].drop o).length = R[i].length - o := List.length_drop
  rw [entsB] at he
  have hbr := entsB_bytes es (wd x) hf'
  have hlen := congrArg List.length he
  rw [List.length_append, hld] at hlen
  rw [he, entry_f was x hx _ hbr (by omega) hs] at hr
  obtain rfl := Option.some.inj hr
  have hent : 1 ≤ (entB (bytesOf was) x).length := by
   unfold entB
   have := putn_len x.f1 (by have := hx.2.2; omega) (by have := hx.2.2; omega)
   rw [List.length_append]
   omega
  rw [hst, takeS_ok _ _ rfl, hld]
  simp only
  have hlt : R[i].length - o - (entsB (wd x) es).length = (entB (bytesOf was) x).length := by omega
  rw [hlt]
  generalize he1 : (entB (bytesOf was) x).length = t at hlen hlt hent ⊢
  have a1 : o + t ≤ R[i].length := by omega
  have hz : ¬ ((t : Nat) : Int) = 0 := by omega
  rw [if_neg hz, tk_w1 o _ _ a1 (by omega)]
  have hd : R[i].drop (o + t) = entsB (wd x) es := by rw [← List.drop_drop, he, ← he1, List.drop_left]
  obtain ⟨k', h1, h⟩ := l1_exact b R m i hi hR n hn hp hpl es (k + 1 + 1) (c + 1) (o + t) x.f0 (acc ++ [⟨x.f0, x.f1⟩]) (by omega) (by omega) a1 hx.2.1 (by rw [List.length_append, List.length_singleton]; omega) hf' hd
  refine ⟨k', by rw [List.length_cons]; omega, ?_⟩
  rw [h, List.append_assoc]
  rfl
theorem wl1 (r : Nat) (h2 : 2 ≤ r) (h : r ≤ 1000000) : wrap64 ((r : Int) - 1) = ((r - 1 : Nat) : Int) := by unfold wrap64; omega
theorem ref_dec_end (k : Nat) (b : List Int) (hb : Bytes b) (n : Int) (acc : List S41) (R : List (List Int)) (h2 : 2 ≤ R.length) (hR : R.length ≤ 1000000) (hk : 1350000 < k) (hacc : acc.length ≤ 100000) (i : Nat) (hi : ¬ i < R.length - 1) :
  r09_Decode.l0 (k + 1) b R n acc (i : Int) = some (endS acc (wrap64 n) b) := by
 have q1 : ¬ (i : Int) < ((R.length - 1 : Nat) : Int) := by omega
 rw [r09_Decode.l0, wl1 _ h2 hR, if_neg q1, ref_enc_f k acc _ hacc hk, Option.bind_some]
 have hB := encS_bytes acc (wrap64 n) (Nat.le_trans hacc (by decide))
 unfold endS
 by_cases h : (encS acc (wrap64 n)).2 = 0
 ·rw [if_pos h, if_pos h]
  by_cases h3 : (encS acc (wrap64 n)).1 = b
  ·rw [if_pos h3, if_pos ((str_inj hB hb).2 h3)]
  ·rw [if_neg h3, if_neg (fun e => h3 ((str_inj hB hb).1 e))]
 ·rw [if_neg h, if_neg h]
theorem ref_l0_step (k : Nat) (b : List Int) (n : Int) (acc : List S41) (R : List (List Int)) (h2 : 2 ≤ R.length) (hR : R.length ≤ 1000000) (hk : 20 < k) (i : Nat) (hi : i < R.length - 1) (hlt : i < R.length) (hp : Bytes R[i]) (hpl : R[i].length ≤ 1000000) :
  r09_Decode.l0 (k + 1 + 1) b R n acc (i : Int) = (if (get R[i]).2.2 = 0 ∧ ¬ (get R[i]).1 > 255 then r09_Decode.l1 k b R n acc (i : Int) (get R[i]).1 (get R[i]).2.1 ⟨#[]⟩ 0 else some ([], 2)) := by
 have q1 : (i : Int) < ((R.length - 1 : Nat) : Int) := by omega
 have q2 : (0 : Int) ≤ (i : Int) := by omega
 have q3 : (i : Int) < (R.length : Int) := by omega
 rw [r09_Decode.l0, wl1 _ h2 hR, if_pos q1, if_pos q2, if_pos q3, rdL_eq R i hlt, NumLib.ref_get_f _ hp (by omega) (k + 1) (by omega), Option.bind_some]
 rcases get R[i] with ⟨n1, n2, n3⟩
 simp only
 by_cases c1 : n3 = 0
 ·rw [if_pos c1]
  by_cases c2 : n1 > 255
  ·rw [if_neg (fun h => h.2 c2), decide_eq_true c2, r09_Decode.j2, if_pos rfl]
  ·rw [if_pos ⟨c1, c2⟩, decide_eq_false c2, r09_Decode.j2, if_neg (by simp)]
 ·rw [if_neg c1, if_neg (fun h => c1 h.1), r09_Decode.j2, if_pos rfl]
theorem ref_l0_total (b : List Int) (hb : Bytes b) (n : Int) (R : List (List Int)) (hRb : ∀ p ∈ R, Bytes p) (h2 : 2 ≤ R.length) (hR : R.length ≤ 1000000) (hbl : b.length ≤ 100000) (d : Nat) : ∀ (k i : Nat) (acc : List S41), 300 * d + 1500000 < k → i + d = R.length - 1 → 3 * acc.length + sumLen (R.drop i) ≤ b.length →
  ∃ r, r09_Decode.l0 k b R n acc (i : Int) = some r ∧ (r = ([], 2) ∨ ∃ x, x.length ≤ b.length ∧ r = endS x (wrap64 n) b) := by
 induction d with
 | zero =>
  intro k i acc hk hi hs
  obtain ⟨k, rfl⟩ : ∃ m, k = m + 1 := ⟨k - 1, by omega⟩
  exact ⟨_, ref_dec_end k b hb n acc R h2 hR (by omega) (by omega) i (by omega), .inr ⟨acc, by omega, rfl⟩⟩
 | succ d ih =>
  intro k i acc hk hi hs
  obtain ⟨k, rfl⟩ : ∃ m, k = m + 1 + 1 := ⟨k - 2, by omega⟩
  have hlt : i < R.length := by omega
  rw [sumLen_drop R i hlt] at hs
  have hp := hRb _ (List.getElem_mem hlt)
  rw [ref_l0_step k b n acc R h2 hR (by omega) i (by omega) hlt hp (by omega)]
  rcases hg : get R[i] with ⟨n1, n2, n3⟩
  have g1 := get_bounds _ hp n1 n2 n3 hg
  clear hg
  simp only
  by_cases c : n3 = 0 ∧ ¬ n1 > 255
  ·rw [if_pos c]
   obtain ⟨a, rfl⟩ := Int.eq_ofNat_of_zero_le g1.1
   obtain ⟨o, rfl⟩ := Int.eq_ofNat_of_zero_le g1.2.2.1
   have ha : a ≤ 255 := by have := c.2; omega
   have ho : o ≤ R[i].length := by omega
   have hz : (⟨#[]⟩ : ByteArray).size = 0 := rfl
   rcases l1_total b R n i hlt hR a ha hp (by omega) a k 0 o ⟨#[]⟩ acc (Nat.zero_add a) (by omega) ho (by rw [hz]; omega) (by omega) with h | ⟨k', es, e1, e2, h⟩
   ·exact ⟨_, h, .inl rfl⟩
   ·rw [show ((0 : Nat) : Int) = (0 : Int) from rfl] at h
    rw [h]
    exact ih k' (i + 1) (acc ++ es) (by omega) (by omega) (by rw [List.length_append]; omega)
  ·rw [if_neg c]
   exact ⟨_, rfl, .inl rfl⟩
theorem ref_l0_chunks (b : List Int) (hb : Bytes b) (n : Int) (R : List (List Int)) (h2 : 2 ≤ R.length) (hR : R.length ≤ 1000000) (z : List Int) : ∀ (cs : List (List S41)) (k i : Nat) (acc : List S41), (∀ c ∈ cs, (∀ x ∈ c, fineS x) ∧ c.length ≤ 255) → 300 * cs.length + 1500000 < k → i < R.length → R.drop i = cs.map blockB ++ [z] → acc.length + cs.flatten.length ≤ 100000 →
  r09_Decode.l0 k b R n acc (i : Int) = some (endS (acc ++ cs.flatten) (wrap64 n) b)
 | [], k, i, acc, _, hk, hi, hy, ha => by
  obtain ⟨k, rfl⟩ : ∃ m, k = m + 1 := ⟨k - 1, by omega⟩
  have hlen := congrArg List.length hy
  rw [List.length_drop, List.map_nil, List.nil_append, List.length_singleton] at hlen
  rw [List.flatten_nil] at ha ⊢
  rw [List.append_nil]
  rw [List.length_nil] at ha
  exact ref_dec_end k b hb n acc R h2 hR (by omega) (by omega) i (by omega)
 | c :: cs, k, i, acc, hc, hk, hi, hy, ha => by
  obtain ⟨k, rfl⟩ : ∃ m, k = m + 1 + 1 := ⟨k - 2, by omega⟩
  have hlen := congrArg List.length hy
  rw [List.length_drop, List.map_cons, List.length_append, List.length_cons, List.length_map, List.length_singleton] at hlen
  rw [List.drop_eq_getElem_cons hi, List.map_cons, List.cons_append] at hy
  injection hy with hy1 hy2
  rw [List.length_cons] at hk
  rw [List.flatten_cons, List.length_append] at ha
  have hc0 := hc c List.mem_cons_self
  have hbb := blockB_bytes hc0.1 (Nat.le_trans hc0.2 (by decide))
  have hbl := blockB_len hc0.1 (Nat.le_trans hc0.2 (by decide))
  have hp : Bytes R[i] := by rw [hy1]; exact hbb
  have hpl : R[i].length ≤ 100000 := by
   rw [hy1]
   refine Nat.le_trans hbl ?_
   have := hc0.2
   generalize c.length = q at this ⊢
   omega
  have hgp : get R[i] = ((c.length : Int), ((putn (c.length : Int)).length : Int), 0) := by
   rw [hy1]
   unfold blockB
   rw [get_put _ (by have := hc0.2; omega) (by have := hc0.2; omega)]
  have hdr : R[i].drop (putn (c.length : Int)).length = entsB (bytesOf ⟨#[]⟩) c := by
   rw [hy1]
   unfold blockB
   rw [List.drop_left]
   rfl
  have hpo : (putn (c.length : Int)).length ≤ R[i].length := by
   rw [hy1]
   unfold blockB
   rw [List.length_append]
   exact Nat.le_add_right _ _
  have hpos : i < R.length - 1 := by omega
  rw [ref_l0_step k b n acc R h2 hR (by omega) i hpos hi hp (Nat.le_trans hpl (by decide)), hgp]
  simp only
  have hn : ¬ ((c.length : Nat) : Int) > 255 := by have := hc0.2; omega
  rw [if_pos ⟨trivial, hn⟩]
  generalize (putn (c.length : Int)).length = o at hdr hpo ⊢
  obtain ⟨k', e1, h⟩ := l1_exact b R n i hi hR c.length hc0.2 hp hpl c k 0 o ⟨#[]⟩ acc (Nat.zero_add _) (by have := hc0.2; omega) hpo (by decide) (by omega) hc0.1 hdr
  rw [show ((0 : Nat) : Int) = (0 : Int) from rfl] at h
  rw [h, ref_l0_chunks b hb n R h2 hR z cs k' (i + 1) (acc ++ c) (fun c' h' => hc c' (List.mem_cons_of_mem _ h')) (by have := hc0.2; omega) (by omega) hy2 (by rw [List.length_append]; omega), List.flatten_cons, List.append_assoc]
theorem ref_dec_total (b : List Int) (hb : Bytes b) (hlen : b.length ≤ 100000) (k : Nat) (hk : 300 * b.length + 280000000 < k) : ∃ r, r09_Decode.f k b = some r ∧ Read b r := by
 have hsl := scanN_len (b.length + 1) b hb
 have hsr := scanN_rows (b.length + 1) b hb
 unfold r09_Decode.f
 rw [ref_scan_f b hb (by omega) k (by omega), Option.bind_some]
 simp only
 generalize (scanN (b.length + 1) b).1 = R at hsl hsr ⊢
 generalize (scanN (b.length + 1) b).2 = q at hsl
 by_cases h2 : (R.length : Int) < 2
 ·rw [if_pos h2]; exact ⟨_, rfl, .inl rfl⟩
 have h0 : 0 < R.length := by omega
 have h0' : (0 : Int) < (R.length : Int) := by omega
 rw [if_neg h2, if_pos h0']
 have hR0 : Bytes R[0] := hsr.1 _ (List.getElem_mem h0)
 have e0 : rd_L5 R 0 = R[0] := rdL_eq R 0 h0
 have hd0 := sumLen_drop R 0 h0
 rw [List.drop_zero] at hd0
 have hd1 : sumLen (R.drop 1) ≤ sumLen R := sumLen_sub (List.drop_sublist _ _)
 rw [e0, NumLib.ref_get_f _ hR0 (by omega) k (by omega), Option.bind_some]
 rcases hg : get R[0] with ⟨n1, n2, n3⟩
 simp only
 have j0 : ∀ q, ∃ r, r09_Decode.j0 k b R n1 q = some r ∧ Read b r := by
  intro q
  obtain ⟨k, rfl⟩ : ∃ m, k = m + 1 := ⟨k - 1, by omega⟩
  rw [r09_Decode.j0]
  cases q with
  | true => rw [if_pos rfl]; exact ⟨_, rfl, .inl rfl⟩
  | false =>
   rw [if_neg (by simp)]
   obtain ⟨r, hr, h3⟩ := ref_l0_total b hb n1 R hsr.1 (by omega) (by omega) hlen (R.length - 2) k 1 [] (by omega) (by omega) (by rw [List.length_nil]; omega)
   refine ⟨r, hr, ?_⟩
   rcases h3 with h3 | ⟨x, hx, h3⟩
   ·exact .inl h3
   ·rw [h3]; exact read_end hx
 by_cases h3 : n3 = 0
 ·rw [if_pos h3]; exact j0 _
 ·rw [if_neg h3]; exact j0 _
theorem endS_enc (l : List S41) (hm : mayS l = 0) (size : Nat) (h1 : 1 ≤ size) (hs : size ≤ 255) : endS l (wrap64 (size : Int)) (encB l size) = (l, 0) := by
 have hw2 : wrap64 (size : Int) = size := by unfold wrap64; omega
 have hn : ¬ ((size : Int) < 1 ∨ (size : Int) > 255) := by omega
 have hE : encS l (size : Int) = (encB l size, 0) := by
  unfold encS
  rw [if_neg hn, if_pos hm, Int.toNat_natCast]
 unfold endS
 rw [hw2, hE, if_pos rfl, if_pos rfl]
theorem ref_dec_fin (l : List S41) (size : Nat) (h1 : 1 ≤ size) (hs : size ≤ 255) (B : List Int) (R : List (List Int)) (P : List Int) (hR2 : 2 ≤ R.length) (hR3 : R.length ≤ 1000000) (e0 : rd_L5 R 0 = P) (hp : Bytes P) (hgp : get P = ((size : Int), (P.length : Int), 0)) (hpl : 1 ≤ P.length ∧ P.length ≤ 10) (k : Nat) (hk : 300 * l.length + 280000000 < k)
  (hch : ∀ k', 300 * l.length + 279999990 < k' → r09_Decode.l0 k' B R (size : Int) [] 1 = some (l, 0)) :
  (if (R.length : Int) < 2 then (some (([] : List (S41)), 2)) else (if 0 < (R.length : Int) then ((r01_Get.f k (rd_L5 R 0)).bind fun bt367 => (if bt367.2.2 = 0 then (r09_Decode.j0 k B R bt367.1 (decide (bt367.1 > 255))) else (r09_Decode.j0 k B R bt367.1 true))) else (none))) = some (l, 0) := by
 have h3 : ¬ ((R.length : Nat) : Int) < 2 := by omega
 have h0' : (0 : Int) < (R.length : Int) := by omega
 have hde : decide ((size : Int) > 255) = false := decide_eq_false (by omega)
 rw [if_neg h3, if_pos h0', e0, NumLib.ref_get_f _ hp (by omega) k (by omega), hgp, Option.bind_some]
 simp only
 obtain ⟨k, rfl⟩ : ∃ m, k = m + 1 := ⟨k - 1, by omega⟩
 rw [if_pos trivial, hde, r09_Decode.j0, if_neg (show ¬ (false = true) by simp)]
 exact hch k (by omega)
theorem ref_dec_enc (l : List S41) (hm : mayS l = 0) (hl : l.length ≤ 100000) (size : Nat) (h1 : 1 ≤ size) (hs : size ≤ 255) (hbl : (encB l size).length ≤ 20000000) (k : Nat) (hk : 300 * l.length + 280000000 < k) : r09_Decode.f k (encB l size) = some (l, 0) := by
 have hf := (mayS_zero hm).1
 have hok := encR_ok l hf (by omega) size hs h1
 have hb : Bytes (encB l size) := recs_bytes _ hok
 have hsc := scan_recs _ hok
 have hcn := chunks_count size h1 l.length l (Nat.le_refl _)
 have hcl : (chunks size l.length l).length ≤ l.length + 255 := by
  rw [hcn]
  exact Nat.le_trans (Nat.div_le_self _ _) (by omega)
 have hj := chunks_join size h1 l.length l (Nat.le_refl _)
 have hcs : ∀ c ∈ chunks size l.length l, (∀ x ∈ c, fineS x) ∧ c.length ≤ 255 := by
  intro c hc
  refine ⟨chunks_fine size _ l hf c hc, ?_⟩
  rcases chunks_mem size _ l c hc with h | h
  ·exact Nat.le_trans h.1 hs
  ·omega
 have hRl : (encR l size).length = (chunks size l.length l).length + 2 := by
  unfold encR
  rw [List.length_append, List.length_cons, List.length_map, List.length_singleton]
 have hR2 : 2 ≤ (encR l size).length := by rw [hRl]; exact Nat.le_add_left 2 _
 have hR3 : (encR l size).length ≤ 1000000 := by rw [hRl]; generalize (chunks size l.length l).length = q at hcl; omega
 have hdrop : (encR l size).drop 1 = (chunks size l.length l).map blockB ++ [putn 0 ++ putn (l.length : Int)] := rfl
 have he := endS_enc l hm size h1 hs
 have e0 : rd_L5 (encR l size) 0 = putn (size : Int) := rfl
 have hp := putn_bytes (size : Int) (by omega) (by omega)
 have hgp := get_put (size : Int) (by omega) (by omega) []
 rw [List.append_nil] at hgp
 have hpl := putn_len (size : Int) (by omega) (by omega)
 unfold r09_Decode.f
 rw [ref_scan_f _ hb hbl k (by omega), Option.bind_some, show scanN ((encB l size).length + 1) (encB l size) = (encR l size, (encB l size).length) from hsc]
 simp only
 exact ref_dec_fin l size h1 hs _ _ _ hR2 hR3 e0 hp hgp hpl k hk (fun k' hk' => by
  have h300 : 300 * (chunks size l.length l).length ≤ 300 * l.length + 76500 := by generalize (chunks size l.length l).length = q at hcl; omega
  have := ref_l0_chunks (encB l size) hb (size : Int) (encR l size) hR2 hR3 (putn 0 ++ putn (l.length : Int)) (chunks size l.length l) k' 1 [] hcs (by generalize (chunks size l.length l).length = q at h300; omega) (by generalize (encR l size).length = q at hR2; omega) hdrop (by rw [hj, List.length_nil]; omega)
  rw [hj, List.nil_append, he] at this
  exact this)
end Go.Proofs.Ytiohnpphhepdfaa.RunLib
end
section
namespace Go.Proofs.Ytiohnpphhepdfaa.LoserLib
open Go.RowKit Go.Proofs.Ytiohnpphhepdfaa.PPa Go.Proofs.YtiohnpphhepdfaaW.PrintWords Go.Proofs.YtiohnpphhepdfaaW.PrintLast Go.Proofs.YtiohnpphhepdfaaW.PrintMore
set_option linter.unusedVariables false
set_option linter.unusedSimpArgs false
open Go.Proofs.Ytiohnpphhepdfaa.RunLib (ref_may_f)
open Go.Proofs.Ytiohnpphhepdfaa.RunLib (toList_data toList_inj toList_nil fineS less rises mayS rdT_eq fine_f may_f mayS_cases mayS_zero same_f)
theorem at_l0 (l : List E1) (hl : l.length ≤ 1000000) (a : ByteArray) : ∀ (d i k : Nat), i + d = l.length → d < k → (∀ x ∈ l.take i, Op.bytesLess (key x) a.toList = true) →
  ∃ n : Nat, r08_At.l0 k l a i = some (n : Int) ∧ n ≤ l.length ∧ (∀ x ∈ l.take n, Op.bytesLess (key x) a.toList = true) ∧ ∀ h : n < l.length, Op.bytesLess (key l[n]) a.toList = false := by
 intro d
 induction d with
 | zero =>
  intro i k hi hk h
  obtain ⟨k, rfl⟩ : ∃ m, k = m + 1 := ⟨k - 1, by omega⟩
  rw [r08_At.l0, if_neg (by omega)]
  exact ⟨i, rfl, by omega, h, fun h => by omega⟩
 | succ d ih =>
  intro i k hi hk h
  obtain ⟨k, rfl⟩ : ∃ m, k = m + 1 := ⟨k - 1, by omega⟩
  have hil : i < l.length := by omega
  rw [r08_At.l0, if_pos (by omega), if_pos (by omega), rdT_eq l i hil, wr1 i (by omega)]
  by_cases hb : Op.bytesLess (key l[i]) a.toList = true
  ·rw [if_pos (show Op.bytesLess l[i].f0.toList a.toList = true from hb)]
   refine ih (i + 1) k (by omega) (by omega) (fun x hx => ?_)
   rw [List.take_add_one, List.getElem?_eq_getElem hil] at hx
   rcases List.mem_append.1 hx with hx | hx
   ·exact h x hx
   ·have : x = l[i] := by simpa using hx
    rw [this]; exact hb
  ·rw [if_neg (show ¬ Op.bytesLess l[i].f0.toList a.toList = true from hb)]
   exact ⟨i, rfl, by omega, h, fun _ => by simpa using hb⟩
theorem at_f (l : List E1) (hl : l.length ≤ 1000000) (a : ByteArray) (k : Nat) (hk : l.length < k) :
  ∃ n : Nat, r08_At.f k l a = some (n : Int) ∧ n ≤ l.length ∧ (∀ x ∈ l.take n, Op.bytesLess (key x) a.toList = true) ∧ ∀ h : n < l.length, Op.bytesLess (key l[n]) a.toList = false :=
 at_l0 l hl a l.length 0 k (by omega) hk (fun x hx => by simp at hx)
theorem at_parts {l : List E1} (hr : Ris l) {w : List UInt8} {n : Nat} (h1 : ∀ x ∈ l.take n, Op.bytesLess (key x) w = true) (hn : n < l.length) (h2 : Op.bytesLess (key l[n]) w = false) :
  l = l.take n ++ l[n] :: l.drop (n + 1) ∧ cnt (l.take n) w = 0 ∧ cnt (l.drop (n + 1)) w = 0 ∧ (∀ y ∈ l.drop (n + 1), Op.bytesLess (key l[n]) (key y) = true) := by
 have e : l = l.take n ++ l[n] :: l.drop (n + 1) := by rw [← List.drop_eq_getElem_cons hn, List.take_append_drop]
 have hr2 := hr
 rw [e] at hr2
 have hr3 := List.pairwise_append.1 hr2
 have hr4 := List.pairwise_cons.1 hr3.2.1
 refine ⟨e, cnt_none (fun x hx q => ?_), cnt_none (fun x hx q => ?_), hr4.1⟩
 ·have := h1 x hx
  rw [q, bl_irrefl] at this; simp at this
 ·have := hr4.1 x hx
  rw [q] at this
  rw [this] at h2; simp at h2
theorem get_val {l : List E1} (hr : Ris l) {w : List UInt8} {n : Nat} (h1 : ∀ x ∈ l.take n, Op.bytesLess (key x) w = true) (h2 : ∀ h : n < l.length, Op.bytesLess (key l[n]) w = false) :
  cnt l w = if h : n < l.length then (if key l[n] = w then l[n].f1 else 0) else 0 := by
 by_cases hn : n < l.length
 ·obtain ⟨e, c1, c2, _⟩ := at_parts hr h1 hn (h2 hn)
  rw [dif_pos hn]
  have : cnt l w = cnt (l.take n ++ l[n] :: l.drop (n + 1)) w := congrArg (fun m => cnt m w) e
  rw [this, cnt_append, cnt, c1, c2]
  omega
 ·rw [dif_neg hn]
  rw [List.take_of_length_le (by omega)] at h1
  exact cnt_none (fun x hx q => by
   have := h1 x hx
   rw [q, bl_irrefl] at this; simp at this)
theorem get_f (l : List E1) (hr : Ris l) (hl : l.length ≤ 1000000) (a : ByteArray) (k : Nat) (hk : l.length < k) : r08_Get.f k l a = some (cnt l a.toList) := by
 obtain ⟨n, h1, h2, h3, h4⟩ := at_f l hl a k hk
 have hv := get_val hr h3 h4
 unfold r08_Get.f
 rw [h1, Option.bind_some, hv]
 by_cases hn : n < l.length
 ·rw [if_pos (by omega), if_pos (by omega), rdT_eq l n hn, dif_pos hn]
  by_cases hk : key l[n] = a.toList
  ·rw [if_pos hk, if_pos (show l[n].f0.toList = a.toList from hk)]
  ·rw [if_neg hk, if_neg (show ¬ l[n].f0.toList = a.toList from hk)]
 ·rw [if_neg (by omega), dif_neg hn]
theorem ref_add_f (a b : Int) (ha : 0 ≤ a ∧ a ≤ MAXC) (hb : 0 ≤ b ∧ b ≤ MAXC) : r01_Add.f a b = some (if a + b ≤ MAXC then (a + b, true) else (0, false)) := by
 have hM : MAXC = 4611686018427387904 := rfl
 rw [hM] at ha hb ⊢
 unfold r01_Add.f
 have w2 : IntKind.u64.wrap (a + b) = a + b := by simp only [IntKind.wrap, IntKind.bits, IntKind.signed]; simp; omega
 rw [if_neg (by omega), if_neg (by omega), w2]
 by_cases h : a + b ≤ 4611686018427387904
 ·rw [if_neg (by omega), if_pos h]
 ·rw [if_pos (by omega), if_neg h]
theorem tab_f (l : List E1) (hr : Ris l) (hp : Pos l) (hl : l.length ≤ 1000000) (x : E1) (hx : 1 ≤ x.f1 ∧ x.f1 ≤ MAXC) (hs : x.f0.size ≠ 0) (k : Nat) (hk : l.length + 5 < k) :
  ∃ r, r08_Add.f k l (wrap64 ((l.length : Int) + 1)) x.f0 x.f1 = some r ∧ ((cnt l (key x) + x.f1 ≤ MAXC ∧ r.2 = 0 ∧ Ris r.1 ∧ Pos r.1 ∧ (∀ v, cnt r.1 v = cnt l v + cnt [x] v) ∧ r.1.length ≤ l.length + 1) ∨ (MAXC < cnt l (key x) + x.f1 ∧ r.2 = 5)) := by
 obtain ⟨k, rfl⟩ : ∃ m, k = m + 1 := ⟨k - 1, by omega⟩
 have hge := cnt_ge hp (key x)
 have hsm := cnt_small hr hp (key x)
 obtain ⟨n, h1, h2, h3, h4⟩ := at_f l hl x.f0 k (by omega)
 have hv := get_val hr h3 h4
 have hc1 : ∀ v, cnt [x] v = if key x = v then x.f1 else 0 := fun v => by simp only [cnt]; split <;> omega
 unfold r08_Add.f
 rw [if_neg (by omega), wr1 _ (by omega), show (x.f1 == 0) = false from beq_eq_false_iff_ne.mpr (by omega), r08_Add.j0, if_neg (by simp), get_f l hr hl x.f0 k (by omega), Option.bind_some, show x.f0.toList = key x from rfl, ref_add_f _ _ ⟨hge, hsm⟩ ⟨by omega, hx.2⟩, Option.bind_some]
 by_cases hfit : cnt l (key x) + x.f1 ≤ MAXC
 ·rw [if_pos hfit, if_pos rfl, h1, Option.bind_some]
  by_cases hw : cnt l (key x) > 0
  ·have hn : n < l.length := by
    rcases Nat.lt_or_ge n l.length with h | h
    ·exact h
    ·rw [show x.f0.toList = key x from rfl] at hv; rw [dif_neg (by omega)] at hv; omega
   rw [show x.f0.toList = key x from rfl] at hv h3 h4
   rw [dif_pos hn] at hv
   have hk : key l[n] = key x := by
    by_cases h : key l[n] = key x
    ·exact h
    ·rw [if_neg h] at hv; omega
   rw [if_pos hk] at hv
   obtain ⟨e, c1, c2, c3⟩ := at_parts hr h3 hn (h4 hn)
   rw [if_pos hw, Option.bind_some, if_pos (by simp; omega), Option.bind_some, List.nil_append, if_pos (by omega), if_pos (by omega), Int.toNat_natCast, rdT_eq l n hn]
   have hset : l.set n (⟨l[n].f0, cnt l (key x) + x.f1⟩ : E1) = l.take n ++ (⟨l[n].f0, cnt l (key x) + x.f1⟩ : E1) :: l.drop (n + 1) := List.set_eq_take_append_cons_drop.trans (if_pos hn)
   have hkz : key (⟨l[n].f0, cnt l (key x) + x.f1⟩ : E1) = key l[n] := rfl
   rw [hset]
   have hr2 := hr
   rw [e] at hr2
   have hr3 := List.pairwise_append.1 hr2
   have hr4 := List.pairwise_cons.1 hr3.2.1
   refine ⟨_, rfl, .inl ⟨hfit, rfl, ?_, ?_, fun v => ?_, ?_⟩⟩
   ·refine List.pairwise_append.2 ⟨hr3.1, List.pairwise_cons.2 ⟨fun y hy => ?_, hr4.2⟩, fun y hy z hz => ?_⟩
    ·rw [hkz]; exact hr4.1 y hy
    ·rcases List.mem_cons.1 hz with rfl | hz
     ·rw [hkz]; exact hr3.2.2 y hy _ List.mem_cons_self
     ·exact hr3.2.2 y hy z (List.mem_cons_of_mem _ hz)
   ·intro y hy
    rcases List.mem_append.1 hy with hy | hy
    ·exact hp y (List.mem_of_mem_take hy)
    ·rcases List.mem_cons.1 hy with rfl | hy
     ·exact ⟨by show 1 ≤ cnt l (key x) + x.f1; omega, hfit⟩
     ·exact hp y (List.mem_of_mem_drop hy)
   ·show cnt (l.take n ++ (⟨l[n].f0, cnt l (key x) + x.f1⟩ : E1) :: l.drop (n + 1)) v = cnt l v + cnt [x] v
    have e2 : cnt l v = cnt (l.take n ++ l[n] :: l.drop (n + 1)) v := congrArg (fun m => cnt m v) e
    rw [e2, hc1, cnt_append, cnt_append, cnt, cnt, hkz, hk]
    show cnt (l.take n) v + ((if key x = v then cnt l (key x) + x.f1 else 0) + cnt (l.drop (n + 1)) v) = _
    split <;> omega
   ·rw [← hset, List.length_set]; omega
  ·have hz : cnt l (key x) = 0 := by omega
   rw [if_neg hw, if_neg (by omega), Option.bind_some, if_pos (by omega), if_pos (by omega), Option.bind_some, Int.toNat_natCast]
   have hlt : (l.take n).length ≤ l.length := by rw [List.length_take]; omega
   have hld : (l.drop n).length ≤ l.length := by rw [List.length_drop]; omega
   rw [if_pos (by simp only [List.length_nil]; omega), Option.bind_some, List.nil_append, if_pos (by omega), Option.bind_some, Option.bind_some, if_pos (by rw [List.length_append, List.length_singleton]; omega), hz, Int.zero_add]
   rw [show x.f0.toList = key x from rfl] at hv h3 h4
   have hxe : (⟨x.f0, x.f1⟩ : E1) = x := rfl
   rw [hxe]
   have hr2 := hr
   rw [← List.take_append_drop n l] at hr2
   have hr3 := List.pairwise_append.1 hr2
   have hgt : ∀ y ∈ l.drop n, Op.bytesLess (key x) (key y) = true := by
    intro y hy
    have hn : n < l.length := by
     rcases Nat.lt_or_ge n l.length with h | h
     ·exact h
     ·rw [List.drop_of_length_le h] at hy; simp at hy
    obtain ⟨e, c1, c2, c3⟩ := at_parts hr h3 hn (h4 hn)
    have hne : key l[n] ≠ key x := fun q => by
     rw [dif_pos hn, if_pos q] at hv
     have := (hp l[n] (List.getElem_mem hn)).1
     omega
    have hb : Op.bytesLess (key x) (key l[n]) = true := by
     cases hq : Op.bytesLess (key x) (key l[n]) with
     | true => rfl
     | false => exact absurd (bl_tri _ _ (h4 hn) hq) hne
    rw [List.drop_eq_getElem_cons hn] at hy
    rcases List.mem_cons.1 hy with rfl | hy
    ·exact hb
    ·exact bl_trans _ _ _ hb (c3 y hy)
   refine ⟨_, rfl, .inl ⟨by omega, rfl, ?_, ?_, fun v => ?_, ?_⟩⟩
   ·refine List.pairwise_append.2 ⟨List.pairwise_append.2 ⟨hr3.1, List.pairwise_singleton _ _, fun y hy z hz => ?_⟩, hr3.2.1, fun y hy z hz => ?_⟩
    ·rw [List.mem_singleton.1 hz]; exact h3 y hy
    ·rcases List.mem_append.1 hy with hy | hy
     ·exact hr3.2.2 y hy z hz
     ·rw [List.mem_singleton.1 hy]; exact hgt z hz
   ·intro y hy
    rcases List.mem_append.1 hy with hy | hy
    ·rcases List.mem_append.1 hy with hy | hy
     ·exact hp y (List.mem_of_mem_take hy)
     ·rw [List.mem_singleton.1 hy]; exact hx
    ·exact hp y (List.mem_of_mem_drop hy)
   ·have e2 : cnt l v = cnt (l.take n ++ l.drop n) v := by rw [List.take_append_drop]
    show cnt (l.take n ++ [x] ++ l.drop n) v = cnt l v + cnt [x] v
    rw [e2, cnt_append, cnt_append, cnt_append]
    omega
   ·show (l.take n ++ [x] ++ l.drop n).length ≤ l.length + 1
    rw [List.length_append, List.length_append, List.length_singleton, List.length_take, List.length_drop]
    omega
 ·rw [if_neg hfit, if_neg (by simp)]
  exact ⟨_, rfl, .inr ⟨by omega, rfl⟩⟩
end Go.Proofs.Ytiohnpphhepdfaa.LoserLib
end
section
namespace Go.Proofs.Ytiohnpphhepdfaa.LoserLib
open Go.RowKit Go.Proofs.Ytiohnpphhepdfaa.PPa Go.Proofs.YtiohnpphhepdfaaW.PrintWords Go.Proofs.YtiohnpphhepdfaaW.PrintLast Go.Proofs.YtiohnpphhepdfaaW.PrintMore
set_option linter.unusedVariables false
set_option linter.unusedSimpArgs false
open Go.Proofs.Ytiohnpphhepdfaa.RunLib (ref_may_f)
open Go.Proofs.Ytiohnpphhepdfaa.RunLib (toList_data toList_inj toList_nil fineS less rises mayS rdT_eq fine_f may_f mayS_cases mayS_zero same_f)
theorem ref_l2 (E : List E1) (ls : List (List E1)) (i : Nat) (hi : i < ls.length) (hil : i ≤ 1000) (l : List E1) (hll : l.length ≤ 60000) (hl : ls[i] = l) (hlp : ∀ x ∈ l, fineS x) (hrest : ∀ l ∈ ls, ∀ x ∈ l, fineS x) (K : Nat) (N : Nat) (hN : N + 10 < K) (hN2 : N ≤ 100000)
  (h : ∀ k out, K < k → Ris out → Pos out → out.length + (ls.drop (i + 1)).flatten.length ≤ N → (∀ w, cnt out w + cnt (ls.drop (i + 1)).flatten w = cnt E w) → ∃ r, r11_Merge.l1 k ls out ((i + 1 : Nat) : Int) = some r ∧ Res E r) :
  ∀ (d j k : Nat) (out : List E1), j + d = l.length → K + d + 1 < k → Ris out → Pos out → out.length + (l.drop j).length + (ls.drop (i + 1)).flatten.length ≤ N → (∀ w, cnt out w + cnt (l.drop j) w + cnt (ls.drop (i + 1)).flatten w = cnt E w) → ∃ r, r11_Merge.l2 k ls out i j = some r ∧ Res E r := by
 have hrd : rd_L3 ls i = l := by rw [rdL_eq ls i hi, hl]
 intro d
 induction d with
 | zero =>
  intro j k out hj hk hr hp hlen hc
  obtain ⟨k, rfl⟩ : ∃ m, k = m + 1 := ⟨k - 1, by omega⟩
  rw [r11_Merge.l2, if_pos (by omega), if_pos (by omega), hrd, if_neg (by omega), wr1 i (by omega)]
  rw [List.drop_of_length_le (by omega)] at hc hlen
  exact h k out (by omega) hr hp (by simp only [List.length_nil] at hlen; omega) (fun w => by have := hc w; rw [show cnt ([] : List E1) w = 0 from rfl] at this; omega)
 | succ d ih =>
  intro j k out hj hk hr hp hlen hc
  obtain ⟨k, rfl⟩ : ∃ m, k = m + 1 := ⟨k - 1, by omega⟩
  have hjl : j < l.length := by omega
  have hx := hlp l[j] (List.getElem_mem hjl)
  rw [List.drop_eq_getElem_cons hjl] at hc hlen
  rw [List.length_cons] at hlen
  obtain ⟨r, h1, h2⟩ := tab_f out hr hp (by omega) l[j] hx.2.2 (by have := hx.1; omega) k (by omega)
  rw [r11_Merge.l2, if_pos (by omega), if_pos (by omega), hrd, if_pos (by omega), if_pos (by omega), rdT_eq l j hjl, h1, Option.bind_some]
  rcases h2 with ⟨g1, g2, g3, g4, g5, g6⟩ | ⟨g1, g2⟩
  ·rw [if_pos g2, wr1 j (by omega)]
   refine ih (j + 1) k r.1 (by omega) (by omega) g3 g4 (by omega) (fun w => ?_)
   have a1 := hc w
   have a2 := g5 w
   have a3 : cnt [l[j]] w = (if key l[j] = w then l[j].f1 else 0) := by simp only [cnt]; split <;> omega
   rw [cnt] at a1
   omega
  ·rw [if_neg (by omega)]
   refine ⟨_, rfl, .inr ⟨rfl, key l[j], ?_⟩⟩
   have a1 := hc (key l[j])
   rw [cnt, if_pos rfl] at a1
   have a2 : 0 ≤ cnt (l.drop (j + 1)) (key l[j]) := cnt_ge (fun x hx => (hlp x (List.mem_of_mem_drop hx)).2.2) _
   have a3 : 0 ≤ cnt (ls.drop (i + 1)).flatten (key l[j]) := cnt_ge (fun x hx => by
    obtain ⟨m, m1, m2⟩ := List.mem_flatten.1 hx
    exact (hrest m (List.mem_of_mem_drop m1) x m2).2.2) _
   omega
theorem ref_l1 (E : List E1) (ls : List (List E1)) (hl : ls.length ≤ 1000) (hlen : ∀ l ∈ ls, l.length ≤ 60000) (hf : ∀ l ∈ ls, ∀ x ∈ l, fineS x) (N : Nat) (hN2 : N ≤ 100000) :
  ∀ (d i k : Nat) (out : List E1), i + d = ls.length → N + 60100 * d + 20 < k → Ris out → Pos out → out.length + (ls.drop i).flatten.length ≤ N → (∀ w, cnt out w + cnt (ls.drop i).flatten w = cnt E w) → ∃ r, r11_Merge.l1 k ls out i = some r ∧ Res E r := by
 intro d
 induction d with
 | zero =>
  intro i k out hi hk hr hp _ hc
  obtain ⟨k, rfl⟩ : ∃ m, k = m + 1 := ⟨k - 1, by omega⟩
  rw [r11_Merge.l1, if_neg (by omega)]
  refine ⟨_, rfl, .inl ⟨rfl, hr, hp, fun w => ?_⟩⟩
  have := hc w
  rw [List.drop_of_length_le (by omega), List.flatten_nil] at this
  rw [show cnt ([] : List E1) w = 0 from rfl] at this
  show cnt out w = cnt E w
  omega
 | succ d ih =>
  intro i k out hi hk hr hp hn hc
  obtain ⟨k, rfl⟩ : ∃ m, k = m + 1 := ⟨k - 1, by omega⟩
  have hil : i < ls.length := by omega
  have hll := hlen ls[i] (List.getElem_mem hil)
  rw [List.drop_eq_getElem_cons hil, List.flatten_cons] at hc hn
  rw [List.length_append] at hn
  rw [r11_Merge.l1, if_pos (by omega)]
  refine ref_l2 E ls i hil (by omega) ls[i] (by omega) rfl (hf _ (List.getElem_mem hil)) hf (N + 60100 * d + 20) N (by omega) hN2 (fun k' out' hk' hr' hp' hn' hc' => ih (i + 1) k' out' (by omega) hk' hr' hp' hn' hc') ls[i].length 0 k out (by omega) (by omega) hr hp (by rw [List.drop_zero]; omega) (fun w => ?_)
  rw [List.drop_zero]
  have := hc w
  rw [cnt_append] at this
  omega
theorem ref_l0 (ls : List (List E1)) (hl : ls.length ≤ 1000) (hlen : ∀ l ∈ ls, l.length ≤ 60000) (hN : ls.flatten.length ≤ 100000) : ∀ (d i k : Nat), i + d = ls.length → 62000000 + d < k → (∀ l ∈ ls.take i, mayS l = 0) →
  ∃ r, r11_Merge.l0 k ls i = some r ∧ (badS (ls.drop i) = 0 → Res ls.flatten r) ∧ (badS (ls.drop i) ≠ 0 → r = ([], badS (ls.drop i))) := by
 intro d
 induction d with
 | zero =>
  intro i k hi hk h
  obtain ⟨k, rfl⟩ : ∃ m, k = m + 1 := ⟨k - 1, by omega⟩
  rw [List.take_of_length_le (by omega)] at h
  have hd : ls.drop i = [] := List.drop_of_length_le (by omega)
  rw [r11_Merge.l0, if_neg (by omega), hd]
  obtain ⟨r, h1, h2⟩ := ref_l1 ls.flatten ls hl hlen (fun l hlm => (mayS_zero (h l hlm)).1) ls.flatten.length hN ls.length 0 k [] (by omega) (by omega) List.Pairwise.nil (fun x hx => by simp at hx) (by simp) (fun w => by rw [List.drop_zero, show cnt ([] : List E1) w = 0 from rfl]; omega)
  exact ⟨r, h1, fun _ => h2, fun h => absurd rfl h⟩
 | succ d ih =>
  intro i k hi hk h
  obtain ⟨k, rfl⟩ : ∃ m, k = m + 1 := ⟨k - 1, by omega⟩
  have hil : i < ls.length := by omega
  have hll := hlen ls[i] (List.getElem_mem hil)
  rw [r11_Merge.l0, if_pos (by omega), if_pos (by omega), rdL_eq ls i hil, ref_may_f k ls[i] (by omega) (by omega), Option.bind_some, List.drop_eq_getElem_cons hil]
  by_cases hb : mayS ls[i] = 0
  ·have e : badS (ls[i] :: ls.drop (i + 1)) = badS (ls.drop (i + 1)) := by
    unfold badS
    rw [List.map_cons, List.find?_cons_of_neg (by simpa using hb)]
   rw [if_pos hb, wr1 i (by omega), e]
   refine ih (i + 1) k (by omega) (by omega) (fun l hlm => ?_)
   rw [List.take_add_one, List.getElem?_eq_getElem hil] at hlm
   rcases List.mem_append.1 hlm with hlm | hlm
   ·exact h l hlm
   ·have : l = ls[i] := by simpa using hlm
    rw [this]; exact hb
  ·have e : badS (ls[i] :: ls.drop (i + 1)) = mayS ls[i] := by
    unfold badS
    rw [List.map_cons, List.find?_cons_of_pos (by simpa using hb)]
    rfl
   rw [if_neg hb, e]
   exact ⟨_, rfl, fun h => absurd h hb, fun _ => rfl⟩
theorem refmerge_f (k : Nat) (ls : List (List E1)) (hl : ls.length ≤ 256) (hlen : ∀ l ∈ ls, l.length ≤ 60000) (hN : ls.flatten.length ≤ 100000) (hk : 63000000 < k) :
  ∃ r, r11_Merge.f k ls = some r ∧ (badS ls = 0 → Res ls.flatten r) ∧ (badS ls ≠ 0 → r = ([], badS ls)) := by
 unfold r11_Merge.f
 rw [if_neg (by omega)]
 exact ref_l0 ls (by omega) hlen hN ls.length 0 k (by omega) (by omega) (fun l hl => by simp at hl)
end Go.Proofs.Ytiohnpphhepdfaa.LoserLib
end
section
namespace Go.Proofs.Ytiohnpphhepdfaa.RunsLib
open Go.RowKit Go.Proofs.Ytiohnpphhepdfaa.PPa Go.Proofs.YtiohnpphhepdfaaW.PrintWords Go.Proofs.YtiohnpphhepdfaaW.PrintLast Go.Proofs.YtiohnpphhepdfaaW.PrintMore Go.Proofs.Ytiohnpphhepdfaa.NumLib Go.Proofs.Ytiohnpphhepdfaa.FrameLib Go.Proofs.Ytiohnpphhepdfaa.RunLib
open Go.Proofs.Ytiohnpphhepdfaa.LoserLib hiding wr1 rdL_eq
set_option linter.unusedVariables false
set_option linter.unusedSimpArgs false
structure DecP (b : List Int) (r : List S41 × Int) : Prop where
 prog : Ev (fun k => run_Decode.f k b) r
 ref : Ev (fun k => r09_Decode.f k b) r
 res : (r.1 = [] ∧ r.2 ≠ 0) ∨ (r.2 = 0 ∧ mayS r.1 = 0)
theorem dec_small (b : List Int) (hb : Bytes b) (hl : b.length ≤ 90000) : ∃ r, DecP b r ∧ r.1.length ≤ b.length := by
 obtain ⟨k, hk⟩ : ∃ k : Nat, 300 * b.length + 300000000 < k := ⟨_, Nat.lt_succ_self _⟩
 obtain ⟨r1, e1, h1⟩ := dec_total b hb (by omega) k (by omega)
 obtain ⟨r2, e2, h2⟩ := ref_dec_total b hb (by omega) k (by omega)
 rcases h1 with rfl | ⟨x, n, rfl, n1, n2, hm, hx, he⟩
 ·rcases h2 with rfl | ⟨x, n, rfl, n1, n2, hm, hx, he⟩
  ·exact ⟨_, ⟨Ev.of (run_Decode.mono b) e1, Ev.of (r09_Decode.mono b) e2, .inl ⟨rfl, by decide⟩⟩, Nat.zero_le _⟩
  ·have := dec_enc x hm (by omega) n n1 n2 k (by rw [he]; omega)
   rw [he] at this
   exact ⟨_, ⟨Ev.of (run_Decode.mono b) this, Ev.of (r09_Decode.mono b) e2, .inr ⟨rfl, hm⟩⟩, hx⟩
 ·have := ref_dec_enc x hm (by omega) n n1 n2 (by rw [he]; omega) k (by omega)
  rw [he] at this
  exact ⟨_, ⟨Ev.of (run_Decode.mono b) e1, Ev.of (r09_Decode.mono b) this, .inr ⟨rfl, hm⟩⟩, hx⟩
theorem dec_big (l : List S41) (hm : mayS l = 0) (hl : l.length ≤ 60000) (n : Nat) (n1 : 1 ≤ n) (n2 : n ≤ 255) : DecP (encB l n) (l, 0) := by
 have hbl := encB_len l (mayS_zero hm).1 (by omega) n n2 n1
 obtain ⟨k, hk⟩ : ∃ k : Nat, (encB l n).length + 300 * l.length + 300000000 < k := ⟨_, Nat.lt_succ_self _⟩
 generalize hL : (encB l n).length = L at hbl hk
 refine ⟨Ev.of (run_Decode.mono _) (dec_enc l hm (by omega) n n1 n2 k (by rw [hL]; omega)), Ev.of (r09_Decode.mono _) (ref_dec_enc l hm (by omega) n n1 n2 (by rw [hL]; omega) k (by omega)), .inr ⟨rfl, hm⟩⟩
theorem merge_both (ls : List (List S41)) (hm : ∀ l ∈ ls, mayS l = 0) (h256 : ls.length ≤ 256) (hN : ls.flatten.length ≤ 100000) (hlen : ∀ l ∈ ls, l.length ≤ 60000) :
  ∃ m, Ev (fun k => loser_Merge.f k ls) m ∧ Ev (fun k => r11_Merge.f k ls) m ∧ Res ls.flatten m ∧ m.1.length ≤ ls.flatten.length ∧ (m.2 = 0 → mayS m.1 = 0) := by
 have hb := badS_of hm
 obtain ⟨r, r1, r2, _⟩ := merge_f 800000 ls h256 (fun l hl => by have := hlen l hl; omega) (by omega) (by omega) (by omega)
 obtain ⟨s, s1, s2, _⟩ := refmerge_f 70000000 ls h256 hlen hN (by omega)
 have r2 := r2 hb
 have s2 := s2 hb
 have e : s = r := res_same s2 r2 (fun _ => rfl)
 subst e
 refine ⟨s, Ev.of (loser_Merge.mono ls) r1, Ev.of (r11_Merge.mono ls) s1, s2, ?_, fun h0 => (res_may s2 h0 (flat_fine hm)).1⟩
 rcases s2 with ⟨_, q1, q2, q3⟩ | ⟨q, _⟩
 ·exact Nat.le_of_lt_succ (ris_len q1 q2 q3 (Nat.lt_succ_self _))
 ·rw [q]; exact Nat.zero_le _
def runsS (ds : List (List S41 × Int)) (m : List S41 × Int) (size : Int) : List Int × Int :=
 match ds.find? (fun d => decide (d.2 ≠ 0)) with
 | some d => ([], d.2)
 | none => if m.2 = 0 then encS m.1 size else ([], m.2)
theorem runsS_ok (d : List S41 × Int) (ds : List (List S41 × Int)) (m : List S41 × Int) (size : Int) (h : d.2 = 0) : runsS (d :: ds) m size = runsS ds m size := by
 unfold runsS
 rw [List.find?_cons_of_neg (by simp [h])]
theorem runsS_bad (d : List S41 × Int) (ds : List (List S41 × Int)) (m : List S41 × Int) (size : Int) (h : d.2 ≠ 0) : runsS (d :: ds) m size = ([], d.2) := by
 unfold runsS
 rw [List.find?_cons_of_pos (by simp [h])]
theorem runsS_nil (m : List S41 × Int) (size : Int) : runsS [] m size = if m.2 = 0 then encS m.1 size else ([], m.2) := rfl
theorem take_more (ds : List (List S41 × Int)) (i : Nat) (h : i < ds.length) : (ds.take i).map (·.1) ++ [ds[i].1] = (ds.take (i + 1)).map (·.1) := by
 rw [List.take_add_one, List.getElem?_eq_getElem h, List.map_append]
 rfl
theorem take_ok (ds : List (List S41 × Int)) (i : Nat) (h : i < ds.length) (h1 : ∀ x ∈ ds.take i, x.2 = 0) (h2 : ds[i].2 = 0) : ∀ x ∈ ds.take (i + 1), x.2 = 0 := by
 intro x hx
 rw [List.take_add_one, List.getElem?_eq_getElem h] at hx
 rcases List.mem_append.1 hx with hx | hx
 ·exact h1 x hx
 ·have : x = ds[i] := by simpa using hx
  rw [this]; exact h2
structure RowsP (runs : List (List Int)) (ds : List (List S41 × Int)) : Prop where
 len : ds.length = runs.length
 few : runs.length ≤ 256
 dec : ∀ (i : Nat) (h : i < runs.length) (h' : i < ds.length), DecP runs[i] ds[i]
 sz : ∀ d ∈ ds, d.1.length ≤ 60000
theorem runs_prog {runs : List (List Int)} {ds : List (List S41 × Int)} (hd : RowsP runs ds) (size : Int) (m : List S41 × Int) (hm : (∀ d ∈ ds, d.2 = 0) → Ev (fun k => loser_Merge.f k (ds.map (·.1))) m) (hml : m.1.length ≤ 100000) :
  ∀ (d i : Nat), i + d = runs.length → (∀ x ∈ ds.take i, x.2 = 0) → Ev (fun k => loser_Runs.l0 k size ((ds.take i).map (·.1)) runs (runs.length : Int) (i : Int)) (runsS (ds.drop i) m size) := by
 have hl := hd.len
 have hfew := hd.few
 intro d
 induction d with
 | zero =>
  intro i hi hx
  rw [List.take_of_length_le (by omega)] at hx ⊢
  rw [List.drop_of_length_le (by omega), runsS_nil]
  obtain ⟨K, hK⟩ := hm hx
  refine ⟨K + 300000, fun k hk => ?_⟩
  obtain ⟨k, rfl⟩ : ∃ q, k = q + 1 := ⟨k - 1, by omega⟩
  have hK : loser_Merge.f k (ds.map (·.1)) = some m := hK k (by omega)
  have he := enc_f k m.1 size hml (by omega)
  show loser_Runs.l0 (k + 1) size _ runs _ _ = _
  rw [loser_Runs.l0, if_neg (by omega), hK, Option.bind_some]
  by_cases h0 : m.2 = 0
  ·rw [if_pos h0, if_pos h0, he, Option.bind_some]
  ·rw [if_neg h0, if_neg h0]
 | succ d ih =>
  intro i hi hx
  have hil : i < runs.length := by omega
  have hid : i < ds.length := by omega
  obtain ⟨K1, h1⟩ := (hd.dec i hil hid).prog
  have hsz := hd.sz ds[i] (List.getElem_mem hid)
  rw [List.drop_eq_getElem_cons hid]
  by_cases hb : ds[i].2 = 0
  ·obtain ⟨K2, h2⟩ := ih (i + 1) (by omega) (take_ok ds i hid hx hb)
   rw [runsS_ok _ _ _ _ hb]
   refine ⟨K1 + K2 + 1, fun k hk => ?_⟩
   obtain ⟨k, rfl⟩ : ∃ q, k = q + 1 := ⟨k - 1, by omega⟩
   have h1 : run_Decode.f k runs[i] = some ds[i] := h1 k (by omega)
   have hrd : loser_read.f k runs[i] = some (ds[i].1, 0) := by
    unfold loser_read.f
    rw [h1, Option.bind_some, if_pos hb, if_pos (by omega)]
   have h2 := h2 k (by omega)
   have hal : ((ds.take i).map (·.1)).length < 5864062014805 := by rw [List.length_map, List.length_take]; omega
   show loser_Runs.l0 (k + 1) size _ runs _ _ = _
   rw [loser_Runs.l0, if_pos (by omega), if_pos (by omega), if_pos (by omega), RunLib.rdL_eq runs i hil, hrd, Option.bind_some, if_pos rfl, if_pos hal, wr1 i (by omega), take_more ds i hid]
   exact h2
  ·rw [runsS_bad _ _ _ _ hb]
   refine ⟨K1 + 1, fun k hk => ?_⟩
   obtain ⟨k, rfl⟩ : ∃ q, k = q + 1 := ⟨k - 1, by omega⟩
   have h1 : run_Decode.f k runs[i] = some ds[i] := h1 k (by omega)
   have hrd : loser_read.f k runs[i] = some ([], ds[i].2) := by
    unfold loser_read.f
    rw [h1, Option.bind_some, if_neg hb]
   show loser_Runs.l0 (k + 1) size _ runs _ _ = _
   rw [loser_Runs.l0, if_pos (by omega), if_pos (by omega), if_pos (by omega), RunLib.rdL_eq runs i hil, hrd, Option.bind_some, if_neg hb]
theorem runs_ref {runs : List (List Int)} {ds : List (List S41 × Int)} (hd : RowsP runs ds) (size : Int) (m : List S41 × Int) (hm : (∀ d ∈ ds, d.2 = 0) → Ev (fun k => r11_Merge.f k (ds.map (·.1))) m) (hml : m.1.length ≤ 100000) :
  ∀ (d i : Nat), i + d = runs.length → (∀ x ∈ ds.take i, x.2 = 0) → Ev (fun k => r11_Runs.l0 k runs size ((ds.take i).map (·.1)) (i : Int)) (runsS (ds.drop i) m size) := by
 have hl := hd.len
 have hfew := hd.few
 intro d
 induction d with
 | zero =>
  intro i hi hx
  rw [List.take_of_length_le (by omega)] at hx ⊢
  rw [List.drop_of_length_le (by omega), runsS_nil]
  obtain ⟨K, hK⟩ := hm hx
  refine ⟨K + 2000000, fun k hk => ?_⟩
  obtain ⟨k, rfl⟩ : ∃ q, k = q + 1 := ⟨k - 1, by omega⟩
  have hK : r11_Merge.f k (ds.map (·.1)) = some m := hK k (by omega)
  have he := ref_enc_f k m.1 size hml (by omega)
  show r11_Runs.l0 (k + 1) runs size _ _ = _
  rw [r11_Runs.l0, if_neg (by omega), hK, Option.bind_some]
  by_cases h0 : m.2 = 0
  ·rw [if_pos h0, if_pos h0, he, Option.bind_some]
  ·rw [if_neg h0, if_neg h0]
 | succ d ih =>
  intro i hi hx
  have hil : i < runs.length := by omega
  have hid : i < ds.length := by omega
  obtain ⟨K1, h1⟩ := (hd.dec i hil hid).ref
  rw [List.drop_eq_getElem_cons hid]
  by_cases hb : ds[i].2 = 0
  ·obtain ⟨K2, h2⟩ := ih (i + 1) (by omega) (take_ok ds i hid hx hb)
   rw [runsS_ok _ _ _ _ hb]
   refine ⟨K1 + K2 + 1, fun k hk => ?_⟩
   obtain ⟨k, rfl⟩ : ∃ q, k = q + 1 := ⟨k - 1, by omega⟩
   have h1 : r09_Decode.f k runs[i] = some ds[i] := h1 k (by omega)
   have h2 := h2 k (by omega)
   have hal : ((ds.take i).map (·.1)).length < 5864062014805 := by rw [List.length_map, List.length_take]; omega
   show r11_Runs.l0 (k + 1) runs size _ _ = _
   rw [r11_Runs.l0, if_pos (by omega), if_pos (by omega), RunLib.rdL_eq runs i hil, h1, Option.bind_some, if_pos hb, if_pos hal, wr1 i (by omega), take_more ds i hid]
   exact h2
  ·rw [runsS_bad _ _ _ _ hb]
   refine ⟨K1 + 1, fun k hk => ?_⟩
   obtain ⟨k, rfl⟩ : ∃ q, k = q + 1 := ⟨k - 1, by omega⟩
   have h1 : r09_Decode.f k runs[i] = some ds[i] := h1 k (by omega)
   show r11_Runs.l0 (k + 1) runs size _ _ = _
   rw [r11_Runs.l0, if_pos (by omega), if_pos (by omega), RunLib.rdL_eq runs i hil, h1, Option.bind_some, if_neg hb]
inductive Out (ds : List (List S41 × Int)) (size : Int) (r : List Int × Int) : Prop
 | bad (d : List S41 × Int) (h : ds.find? (fun d => decide (d.2 ≠ 0)) = some d) (hr : r = ([], d.2))
 | over (m : List S41 × Int) (h : ∀ d ∈ ds, d.2 = 0) (hR : Res (ds.map (·.1)).flatten m) (h0 : m.2 ≠ 0) (hr : r = ([], m.2))
 | ok (m : List S41 × Int) (h : ∀ d ∈ ds, d.2 = 0) (hR : Res (ds.map (·.1)).flatten m) (h0 : m.2 = 0) (hm : mayS m.1 = 0) (hl : m.1.length ≤ (ds.map (·.1)).flatten.length) (hr : r = encS m.1 size)
theorem runs_both {runs : List (List Int)} {ds : List (List S41 × Int)} (hd : RowsP runs ds) (size : Int) (hN : (ds.map (·.1)).flatten.length ≤ 100000) :
  ∃ r, Ev (fun k => loser_Runs.f k runs size) r ∧ Ev (fun k => r11_Runs.f k runs size) r ∧ Out ds size r := by
 have hz : ∀ x ∈ ds.take 0, x.2 = 0 := fun x hx => by simp at hx
 by_cases hall : ∀ d ∈ ds, d.2 = 0
 ·have hmay : ∀ l ∈ ds.map (·.1), mayS l = 0 := by
   intro l hl
   obtain ⟨d, h1, rfl⟩ := List.mem_map.1 hl
   obtain ⟨i, hi, rfl⟩ := List.mem_iff_getElem.1 h1
   rcases (hd.dec i (by have := hd.len; omega) hi).res with ⟨_, q⟩ | ⟨_, q⟩
   ·exact absurd (hall _ h1) q
   ·exact q
  obtain ⟨m, m1, m2, m3, m4, m5⟩ := merge_both (ds.map (·.1)) hmay (by rw [List.length_map, hd.len]; exact hd.few) hN (fun l hl => by
   obtain ⟨d, h1, rfl⟩ := List.mem_map.1 hl
   exact hd.sz d h1)
  have a := runs_prog hd size m (fun _ => m1) (by omega) runs.length 0 (by omega) hz
  have b := runs_ref hd size m (fun _ => m2) (by omega) runs.length 0 (by omega) hz
  have hf : ds.find? (fun d => decide (d.2 ≠ 0)) = none := List.find?_eq_none.2 (fun d h => by simp [hall d h])
  refine ⟨_, a, b, ?_⟩
  rw [List.drop_zero]
  unfold runsS
  rw [hf]
  by_cases h0 : m.2 = 0
  ·exact .ok m hall m3 h0 (m5 h0) m4 (by simp only [if_pos h0])
  ·exact .over m hall m3 h0 (by simp only [if_neg h0])
 ·have a := runs_prog hd size ([], 0) (fun h => absurd h hall) (by simp) runs.length 0 (by omega) hz
  have b := runs_ref hd size ([], 0) (fun h => absurd h hall) (by simp) runs.length 0 (by omega) hz
  refine ⟨_, a, b, ?_⟩
  rw [List.drop_zero]
  unfold runsS
  cases hf : ds.find? (fun d => decide (d.2 ≠ 0)) with
  | none =>
   exact absurd (fun d h => by have := List.find?_eq_none.1 hf d h; simpa using this) hall
  | some d => exact .bad d hf rfl
end Go.Proofs.Ytiohnpphhepdfaa.RunsLib
end
section
namespace Go.Proofs.Ytiohnpphhepdfaa.Pure
open Go.RowKit Go.Proofs.Ytiohnpphhepdfaa.PPa Go.Proofs.YtiohnpphhepdfaaW.PrintWords Go.Proofs.YtiohnpphhepdfaaW.PrintLast Go.Proofs.YtiohnpphhepdfaaW.PrintMore Go.Proofs.Ytiohnpphhepdfaa.NumLib Go.Proofs.Ytiohnpphhepdfaa.FrameLib Go.Proofs.Ytiohnpphhepdfaa.RunLib Go.Proofs.Ytiohnpphhepdfaa.RunsLib
set_option linter.unusedVariables false
set_option linter.unusedSimpArgs false
theorem rows_small : ∀ runs : List (List Int), (∀ b ∈ runs, Bytes b ∧ b.length ≤ 60000) → ∃ ds : List (List S41 × Int), ds.length = runs.length ∧ (∀ (i : Nat) (h : i < runs.length) (h' : i < ds.length), DecP runs[i] ds[i]) ∧ (∀ d ∈ ds, d.1.length ≤ 60000) ∧ (ds.map (·.1)).flatten.length ≤ runs.flatten.length
 | [], _ => ⟨[], rfl, fun i h => absurd h (Nat.not_lt_zero i), fun d h => by simp at h, Nat.le_refl _⟩
 | b :: r, h => by
  obtain ⟨ds, h1, h2, h3, h4⟩ := rows_small r (fun c hc => h c (List.mem_cons_of_mem _ hc))
  obtain ⟨hb, hl⟩ := h b List.mem_cons_self
  obtain ⟨d, hd, hdl⟩ := dec_small b hb (by omega)
  refine ⟨d :: ds, by rw [List.length_cons, List.length_cons, h1], fun i hi hi' => ?_, fun c hc => ?_, ?_⟩
  ·cases i with
   | zero => exact hd
   | succ i => exact h2 i (by simpa using hi) (by simpa using hi')
  ·rcases List.mem_cons.1 hc with rfl | hc
   ·omega
   ·exact h3 c hc
  ·rw [List.map_cons, List.flatten_cons, List.flatten_cons, List.length_append, List.length_append]
   exact Nat.add_le_add hdl h4
theorem flat_le (n : Nat) : ∀ l : List (List Int), (∀ b ∈ l, b.length ≤ n) → l.flatten.length ≤ n * l.length
 | [], _ => Nat.zero_le _
 | b :: r, h => by
  have h1 := flat_le n r (fun c hc => h c (List.mem_cons_of_mem _ hc))
  have h2 := h b List.mem_cons_self
  rw [List.flatten_cons, List.length_append, List.length_cons, Nat.mul_succ]
  omega
end Go.Proofs.Ytiohnpphhepdfaa.Pure
end
section
namespace Go.Proofs.Ytiohnpphhepdfaa.PassLib
open Go.RowKit Go.Proofs.Ytiohnpphhepdfaa.PPa Go.Proofs.YtiohnpphhepdfaaW.PrintWords Go.Proofs.YtiohnpphhepdfaaW.PrintLast
abbrev grps (n fan : Int) : List S52 := (List.range (passes_Passes.g n fan).toNat).map (passes_Passes.grp n fan)
theorem step_mul (j : Nat) (fan : Int) : ((j + 1 : Nat) : Int) * fan = (j : Int) * fan + fan := by rw [Int.natCast_add, Int.add_mul]; simp
theorem ref_l0 (n fan : Int) (h1 : 1 ≤ n) (h2 : n ≤ 65536) (h3 : 2 ≤ fan) (h4 : fan ≤ 8) (d : Nat) : ∀ (k j : Nat) (i : Int), d + 1 < k → i + d = n + 1 → (j : Int) * fan < i → i ≤ (j : Int) * fan + fan → 1 ≤ d →
  r12_Groups.l0 k n fan ((List.range j).map (passes_Passes.grp n fan)) ((j : Int) * fan) i = some (grps n fan) := by
 obtain ⟨g1, g2, g3, g4⟩ := passes_Passes.g_lt n fan h1 h2 h3 h4
 induction d with
 | zero => intro k j i _ _ _ _ h; omega
 | succ d ih =>
  intro k j i hk hi hj1 hj2 _
  obtain ⟨k, rfl⟩ : ∃ m, k = m + 2 := ⟨k - 2, by omega⟩
  have hp0 : 0 ≤ (j : Int) * fan := Int.mul_nonneg (by omega) (by omega)
  have hg := (g4 j).2 (by omega)
  have hjl : (j : Int) ≤ 65536 := by omega
  have hs := step_mul j fan
  have hl : ((List.range j).map (passes_Passes.grp n fan)).length < 8796093022208 := by rw [List.length_map, List.length_range]; omega
  have hwi : wrap64 (i + 1) = i + 1 := by unfold wrap64; omega
  have hwd : wrap64 (i - (j : Int) * fan) = i - (j : Int) * fan := by
   generalize (j : Int) * fan = p at *
   unfold wrap64
   omega
  by_cases hin : i = n
  ·have he : (⟨(j : Int) * fan, i⟩ : S52) = passes_Passes.grp n fan j := by
    unfold passes_Passes.grp
    rw [show min ((j : Int) * fan + fan) n = i by omega]
   have hc : (passes_Passes.g n fan).toNat = j + 1 := by
    have := g4 (j + 1)
    rw [hs] at this
    omega
   rw [r12_Groups.l0, if_pos (by omega), if_pos hin, if_pos hl, he, hwi, r12_Groups.l0, if_neg (by omega)]
   unfold grps
   rw [hc, List.range_succ, List.map_append]
   rfl
  ·by_cases hf : i - (j : Int) * fan = fan
   ·have he : (⟨(j : Int) * fan, i⟩ : S52) = passes_Passes.grp n fan j := by
     unfold passes_Passes.grp
     rw [show min ((j : Int) * fan + fan) n = i by omega]
    rw [r12_Groups.l0, if_pos (by omega), if_neg hin, hwd, if_pos hf, if_pos hl, he, hwi]
    have := ih (k + 1) (j + 1) (i + 1) (by omega) (by omega) (by rw [hs]; omega) (by rw [hs]; omega) (by omega)
    rw [List.range_succ, List.map_append, hs, show (j : Int) * fan + fan = i by omega] at this
    exact this
   ·rw [r12_Groups.l0, if_pos (by omega), if_neg hin, hwd, if_neg hf, hwi]
    exact ih (k + 1) j (i + 1) (by omega) (by omega) (by omega) (by omega) (by omega)
theorem ref_groups (k : Nat) (hk : 65600 ≤ k) (n fan : Int) : r12_Groups.f k n fan = some (grps n fan) := by
 obtain ⟨m, rfl⟩ : ∃ m, k = m + 1 := ⟨k - 1, by omega⟩
 unfold r12_Groups.f
 by_cases h : n < 1 ∨ n > 65536 ∨ fan < 2 ∨ fan > 8
 ·have e : passes_Passes.g n fan = 0 := by unfold passes_Passes.g; rw [if_pos h]
  have hz : r12_Groups.j0 (m + 1) n fan ([] : List S52) true = some (grps n fan) := by
   rw [r12_Groups.j0, if_pos rfl]
   unfold grps
   rw [e]
   rfl
  by_cases h1 : n < 1
  ·rw [if_pos h1]; exact hz
  ·rw [if_neg h1]
   by_cases h2 : n > 65536
   ·rw [if_pos h2]; exact hz
   ·rw [if_neg h2]
    by_cases h3 : fan < 2
    ·rw [if_pos h3]; exact hz
    ·rw [if_neg h3, decide_eq_true (show fan > 8 by omega)]; exact hz
 ·rw [if_neg (by omega), if_neg (by omega), if_neg (by omega), decide_eq_false (show ¬ fan > 8 by omega), r12_Groups.j0, if_neg (by decide)]
  have := ref_l0 n fan (by omega) (by omega) (by omega) (by omega) n.toNat m 0 1 (by omega) (by omega) (by simp) (by simp; omega) (by omega)
  rw [Int.natCast_zero, Int.zero_mul] at this
  exact this
theorem go_spec : ∀ (k : Nat) (n fan many : Int), 1 ≤ n → n ≤ 65536 → 2 ≤ fan → fan ≤ 8 → n.toNat < k → ∃ p : Nat, passes_Passes.go k n fan many = many + p ∧ n ≤ fan ^ p ∧ (p = 0 ∨ fan ^ (p - 1) < n) ∧ (p = 0 ↔ n = 1)
 | 0, n, fan, many, _, _, _, _, h => by omega
 | k + 1, n, fan, many, h1, h2, h3, h4, hk => by
  obtain ⟨g1, g2, g3, g4⟩ := passes_Passes.g_lt n fan h1 h2 h3 h4
  by_cases hn : n = 1
  ·refine ⟨0, ?_, by simp; omega, .inl rfl, by simp [hn]⟩
   rw [passes_Passes.go, if_pos (.inr hn)]
   simp
  ·have g3 := g3 (by omega)
   obtain ⟨p, e, hp1, hp2, hp3⟩ := go_spec k (passes_Passes.g n fan) fan (many + 1) g1 (by omega) h3 h4 (by omega)
   have hc1 : n ≤ passes_Passes.g n fan * fan := by
    have := g4 (passes_Passes.g n fan).toNat
    rw [Int.toNat_of_nonneg (by omega)] at this
    omega
   have hc2 : (passes_Passes.g n fan - 1) * fan < n := by
    have := g4 (passes_Passes.g n fan - 1).toNat
    rw [Int.toNat_of_nonneg (by omega)] at this
    omega
   refine ⟨p + 1, ?_, ?_, .inr ?_, by omega⟩
   ·rw [passes_Passes.go, if_neg (by omega), e]
    omega
   ·rw [Int.pow_succ]
    exact Int.le_trans hc1 (Int.mul_le_mul_of_nonneg_right hp1 (by omega))
   ·rw [Nat.add_sub_cancel]
    rcases hp2 with rfl | hp2
    ·simp; omega
    ·cases p with
     | zero => simp; omega
     | succ p =>
      rw [Nat.add_sub_cancel] at hp2
      rw [Int.pow_succ]
      exact Int.lt_of_le_of_lt (Int.mul_le_mul_of_nonneg_right (show fan ^ p ≤ passes_Passes.g n fan - 1 by omega) (by omega)) hc2
theorem passes_f (n fan : Int) : passes_Passes.f n fan = some (passes_Passes.go 65537 n fan 0) := rfl
theorem shown_f (k : Nat) (hk : 65600 ≤ k) : l12_shown.f k = some true := by
 unfold l12_shown.f
 rw [passes_Passes.groups k (by omega), Option.bind_some]
 have e : (List.range (passes_Passes.g 5 2).toNat).map (passes_Passes.grp 5 2) = [⟨0, 2⟩, ⟨2, 4⟩, ⟨4, 5⟩] := by rfl
 obtain ⟨p, hp, h1, h2, _⟩ := go_spec 65537 5 2 0 (by decide) (by decide) (by decide) (by decide) (by decide)
 have hp3 : p = 3 := by
  have : p < 3 ∨ p = 3 ∨ 3 < p := by omega
  rcases this with h | h | h
  ·have : p = 0 ∨ p = 1 ∨ p = 2 := by omega
   rcases this with rfl | rfl | rfl <;> simp at h1
  ·exact h
  ·rcases h2 with h2 | h2
   ·omega
   ·have h3 := Nat.pow_le_pow_right (n := 2) (by decide) (show 3 ≤ p - 1 by omega)
    have h4 : ((2 ^ 3 : Nat) : Int) ≤ ((2 ^ (p - 1) : Nat) : Int) := by exact_mod_cast h3
    rw [Int.natCast_pow, Int.natCast_pow] at h4
    have h5 : (2 : Int) ^ 3 = 8 := by decide
    simp only [Int.cast_ofNat_Int] at h4
    omega
 rw [e, passes_f, hp, hp3]
 rfl
end Go.Proofs.Ytiohnpphhepdfaa.PassLib
end
section
namespace Go.Proofs.Ytiohnpphhepdfaa.PassesLib
open Go.RowKit Go.Proofs.Ytiohnpphhepdfaa.PPa Go.Proofs.YtiohnpphhepdfaaW.PrintWords Go.Proofs.YtiohnpphhepdfaaW.PrintLast Go.Proofs.YtiohnpphhepdfaaW.PrintMore Go.Proofs.Ytiohnpphhepdfaa.NumLib Go.Proofs.Ytiohnpphhepdfaa.FrameLib Go.Proofs.Ytiohnpphhepdfaa.RunLib Go.Proofs.Ytiohnpphhepdfaa.RunsLib
open Go.Proofs.Ytiohnpphhepdfaa.LoserLib hiding wr1 rdL_eq
open Go.Proofs.Ytiohnpphhepdfaa.PassLib (grps)
set_option linter.unusedVariables false
set_option linter.unusedSimpArgs false
abbrev fl (ds : List (List S41 × Int)) : List S41 := (ds.map (·.1)).flatten
theorem fl_app (a b : List (List S41 × Int)) : fl (a ++ b) = fl a ++ fl b := by
 unfold fl
 rw [List.map_append, List.flatten_append]
theorem part_rest {α : Type} (l : List α) (a b c : Nat) (h : a ≤ b) (hc : l.drop b = l.drop c) : l.drop a = (l.take b).drop a ++ l.drop c := by
 rw [List.drop_take, ← hc, show l.drop b = (l.drop a).drop (b - a) by rw [List.drop_drop, show a + (b - a) = b by omega], List.take_append_drop]
theorem sub {runs : List (List Int)} {ds : List (List S41 × Int)} (h : RowsP runs ds) (a b : Nat) : RowsP ((runs.take b).drop a) ((ds.take b).drop a) where
 len := by rw [List.length_drop, List.length_drop, List.length_take, List.length_take, h.len]
 few := by have := h.few; rw [List.length_drop, List.length_take]; omega
 dec := fun i h1 h2 => by
  rw [List.length_drop, List.length_take] at h1 h2
  have e1 : ((runs.take b).drop a)[i]'(by rw [List.length_drop, List.length_take]; exact h1) = runs[a + i]'(by omega) := by rw [List.getElem_drop, List.getElem_take]
  have e2 : ((ds.take b).drop a)[i]'(by rw [List.length_drop, List.length_take]; exact h2) = ds[a + i]'(by omega) := by rw [List.getElem_drop, List.getElem_take]
  rw [e1, e2]
  exact h.dec _ _ _
 sz := fun d hd => h.sz d (List.mem_of_mem_take (List.mem_of_mem_drop hd))
def Good (ds : List (List S41 × Int)) : Prop := ∀ d ∈ ds, d.1 = [] ∨ mayS d.1 = 0
theorem good_of {runs : List (List Int)} {ds : List (List S41 × Int)} (h : RowsP runs ds) : Good ds := fun d hd => by
 obtain ⟨i, hi, rfl⟩ := List.mem_iff_getElem.1 hd
 rcases (h.dec i (by have := h.len; omega) hi).res with ⟨q, _⟩ | ⟨_, q⟩
 ·exact .inl q
 ·exact .inr q
theorem good_pos {ds : List (List S41 × Int)} (h : Good ds) : Pos (fl ds) := fun x hx => by
 obtain ⟨l, hl, hxl⟩ := List.mem_flatten.1 hx
 obtain ⟨d, hd, rfl⟩ := List.mem_map.1 hl
 rcases h d hd with q | q
 ·rw [q] at hxl; simp at hxl
 ·exact (may_ris q).2 x hxl
theorem good_part {ds : List (List S41 × Int)} (h : Good ds) (a b : Nat) : Good ((ds.take b).drop a) := fun d hd => h d (List.mem_of_mem_take (List.mem_of_mem_drop hd))
theorem good_drop {ds : List (List S41 × Int)} (h : Good ds) (a : Nat) : Good (ds.drop a) := fun d hd => h d (List.mem_of_mem_drop hd)
def Bad (ds : List (List S41 × Int)) : Prop := (∃ d ∈ ds, d.2 ≠ 0) ∨ ∃ w, MAXC < cnt (fl ds) w
theorem bad_left {a b : List (List S41 × Int)} (h : Bad a) (hb : Good b) : Bad (a ++ b) := by
 rcases h with ⟨d, h1, h2⟩ | ⟨w, h⟩
 ·exact .inl ⟨d, List.mem_append_left _ h1, h2⟩
 ·refine .inr ⟨w, ?_⟩
  rw [fl_app, cnt_append]
  have := cnt_ge (good_pos hb) w
  omega
theorem bad_right {a b : List (List S41 × Int)} (h : Bad b) (ha : Good a) : Bad (a ++ b) := by
 rcases h with ⟨d, h1, h2⟩ | ⟨w, h⟩
 ·exact .inl ⟨d, List.mem_append_right _ h1, h2⟩
 ·refine .inr ⟨w, ?_⟩
  rw [fl_app, cnt_append]
  have := cnt_ge (good_pos ha) w
  omega
structure Pass (ds dx : List (List S41 × Int)) : Prop where
 zero : ∀ d ∈ ds, d.2 = 0
 ok : ∀ d ∈ dx, d.2 = 0 ∧ mayS d.1 = 0
 cnts : ∀ w, cnt (fl dx) w = cnt (fl ds) w
 sz : (fl dx).length ≤ (fl ds).length
theorem rd_grp (n fan : Int) (j : Nat) (h : j < (grps n fan).length) : rd_T52 (grps n fan) (j : Int) = passes_Passes.grp n fan j := by
 unfold rd_T52
 rw [Int.toNat_natCast, List.getD_eq_getElem?_getD, List.getElem?_eq_getElem h, Option.getD_some]
 unfold grps
 rw [List.getElem_map, List.getElem_range]
theorem grps_len (n fan : Int) (h1 : 1 ≤ n) (h2 : n ≤ 65536) (h3 : 2 ≤ fan) (h4 : fan ≤ 8) : ((grps n fan).length : Int) = passes_Passes.g n fan := passes_Passes.g_len n fan
theorem grp_bounds (n f j : Nat) (h1 : 1 ≤ n) (h2 : n ≤ 256) (h3 : 2 ≤ f) (h4 : f ≤ 8) (hj : j * f < n) : (passes_Passes.grp (n : Int) (f : Int) j).f0 = ((j * f : Nat) : Int) ∧ (passes_Passes.grp (n : Int) (f : Int) j).f1 = ((min (j * f + f) n : Nat) : Int) := by
 unfold passes_Passes.grp
 have e : (j : Int) * (f : Int) = ((j * f : Nat) : Int) := by rw [Int.natCast_mul]
 simp only
 rw [e]
 refine ⟨rfl, ?_⟩
 generalize j * f = q at *
 omega
theorem l1_step (runs : List (List Int)) (f : Nat) (h3 : 2 ≤ f) (h4 : f ≤ 8) (size : Int) (acc : List (List Int)) (k j : Nat) (h1 : 1 ≤ runs.length) (h2 : runs.length ≤ 256) (hj : j * f < runs.length) (hg : j < (grps runs.length f).length) (hacc : acc.length ≤ 256) (r : List Int × Int)
  (hr : loser_Runs.f k ((runs.take (min (j * f + f) runs.length)).drop (j * f)) size = some r) :
  passes_Merge.l1 (k + 1) runs f size acc (grps runs.length f) ((grps runs.length f).length : Int) (j : Int) = if r.2 = 0 then passes_Merge.l1 k runs f size (acc ++ [r.1]) (grps runs.length f) ((grps runs.length f).length : Int) ((j + 1 : Nat) : Int) else some ([], r.2) := by
 obtain ⟨b1, b2⟩ := grp_bounds runs.length f j h1 h2 h3 h4 hj
 have hjj : j ≤ 256 := Nat.le_trans (Nat.le_trans (by omega : j ≤ j * 1) (Nat.mul_le_mul_left j (by omega : 1 ≤ f))) (by omega)
 have ha : acc.length < 5864062014805 := by omega
 rw [passes_Merge.l1, if_pos (by omega), if_pos (by omega), if_pos (by omega), rd_grp _ _ j hg, b1, b2, Int.toNat_natCast, Int.toNat_natCast, hr]
 generalize j * f = q at *
 rw [if_pos (by omega), if_pos (by omega), if_pos (by omega), Option.bind_some]
 by_cases h0 : r.2 = 0
 ·rw [if_pos h0, if_pos h0, if_pos ha, wr1 j (by omega)]
 ·rw [if_neg h0, if_neg h0]
def fin (k : Nat) (l : List (List Int)) (fan size : Int) : Option (List Int × Int) := if (l.length : Int) = 1 then (if 0 < (l.length : Int) then (some (rd_L5 l 0, 0)) else (none)) else ((r12_Merge.f k l fan size).bind fun bt => (some (bt.1, bt.2)))
theorem ref_step (runs : List (List Int)) (f : Nat) (h3 : 2 ≤ f) (h4 : f ≤ 8) (size : Int) (acc : List (List Int)) (k j : Nat) (h1 : 1 ≤ runs.length) (h2 : runs.length ≤ 256) (hj : j * f < runs.length) (hg : j < (grps runs.length f).length) (hacc : acc.length ≤ 256) (r : List Int × Int)
  (hr : r11_Runs.f k ((runs.take (min (j * f + f) runs.length)).drop (j * f)) size = some r) :
  r12_Merge.l0 (k + 1) runs f size (grps runs.length f) acc (j : Int) = if r.2 = 0 then r12_Merge.l0 k runs f size (grps runs.length f) (acc ++ [r.1]) ((j + 1 : Nat) : Int) else some ([], r.2) := by
 obtain ⟨b1, b2⟩ := grp_bounds runs.length f j h1 h2 h3 h4 hj
 have hjj : j ≤ 256 := Nat.le_trans (Nat.le_trans (by omega : j ≤ j * 1) (Nat.mul_le_mul_left j (by omega : 1 ≤ f))) (by omega)
 have ha : acc.length < 5864062014805 := by omega
 rw [r12_Merge.l0, if_pos (by omega), if_pos (by omega), rd_grp _ _ j hg, b1, b2, Int.toNat_natCast, Int.toNat_natCast, hr]
 generalize j * f = q at *
 rw [if_pos (by omega), if_pos (by omega), if_pos (by omega), Option.bind_some]
 by_cases h0 : r.2 = 0
 ·rw [if_pos h0, if_pos h0, if_pos ha, wr1 j (by omega)]
 ·rw [if_neg h0, if_neg h0]
theorem ev_round {α β : Type} {g : Nat → Option α} {p q : Nat → Option β} {r : α} {s : β} (hg : Ev g r) (h : ∀ k, g k = some r → p (k + 1) = q k) (hq : Ev q s) : Ev p s := by
 obtain ⟨K1, h1⟩ := hg
 obtain ⟨K2, h2⟩ := hq
 refine ⟨K1 + K2 + 1, fun k hk => ?_⟩
 obtain ⟨k, rfl⟩ : ∃ m, k = m + 1 := ⟨k - 1, by omega⟩
 rw [h k (h1 k (by omega))]
 exact h2 k (by omega)
theorem encS_ok {m : List S41} {size : Int} (hs : 1 ≤ size ∧ size ≤ 255) (hm : mayS m = 0) : encS m size = (encB m size.toNat, 0) := by
 unfold encS
 rw [if_neg (by omega), if_pos hm]
theorem pass_both {runs : List (List Int)} {ds : List (List S41 × Int)} (hd : RowsP runs ds) (hN : (fl ds).length ≤ 60000) (f : Nat) (h3 : 2 ≤ f) (h4 : f ≤ 8) (size : Int) (hs : 1 ≤ size ∧ size ≤ 255) (h1 : 2 ≤ runs.length) :
  ∀ (d j : Nat), j + d = (grps runs.length f).length →
  (∃ e, e ≠ 0 ∧ Bad (ds.drop (j * f)) ∧ ∀ acc : List (List Int), acc.length + d ≤ 256 → Ev (fun k => passes_Merge.l1 k runs f size acc (grps runs.length f) ((grps runs.length f).length : Int) (j : Int)) ([], e) ∧ Ev (fun k => r12_Merge.l0 k runs f size (grps runs.length f) acc (j : Int)) ([], e)) ∨
  (∃ dx : List (List S41 × Int), dx.length = d ∧ Pass (ds.drop (j * f)) dx ∧ ∀ acc : List (List Int), acc.length + d ≤ 256 →
   (∀ r, Ev (fun k => passes_Merge.l0 k (acc ++ dx.map (fun x => encB x.1 size.toNat)) f size) r → Ev (fun k => passes_Merge.l1 k runs f size acc (grps runs.length f) ((grps runs.length f).length : Int) (j : Int)) r) ∧
   (∀ r, Ev (fun k => fin k (acc ++ dx.map (fun x => encB x.1 size.toNat)) f size) r → Ev (fun k => r12_Merge.l0 k runs f size (grps runs.length f) acc (j : Int)) r)) := by
 have hlen := hd.len
 have hfew := hd.few
 obtain ⟨g1, g2, g3, g4⟩ := passes_Passes.g_lt runs.length f (by omega) (by omega) (by omega) (by omega)
 have hgl := grps_len runs.length f (by omega) (by omega) (by omega) (by omega)
 have hGood := good_of hd
 have hmul : ∀ j : Nat, ((j : Int) < passes_Passes.g runs.length f ↔ j * f < runs.length) := fun j => by
  rw [g4 j, show (j : Int) * (f : Int) = ((j * f : Nat) : Int) by rw [Int.natCast_mul]]
  omega
 intro d
 induction d with
 | zero =>
  intro j hj
  have hnot : ¬ j * f < runs.length := by rw [← hmul]; omega
  have e : ds.drop (j * f) = [] := List.drop_of_length_le (by omega)
  refine .inr ⟨[], rfl, ?_, fun acc _ => ⟨fun r hr => ?_, fun r hr => ?_⟩⟩
  ·rw [e]
   exact ⟨fun d h => by simp at h, fun d h => by simp at h, fun w => rfl, Nat.le_refl _⟩
  ·rw [List.map_nil, List.append_nil] at hr
   exact Ev.step (fun k => by rw [passes_Merge.l1, if_neg (by omega)]) hr
  ·rw [List.map_nil, List.append_nil] at hr
   exact Ev.step (fun k => by rw [r12_Merge.l0, if_neg (by omega)]; rfl) hr
 | succ d ih =>
  intro j hj
  have hjf : j * f < runs.length := by rw [← hmul]; omega
  have hjg : j < (grps runs.length f).length := by omega
  have hsucc : (j + 1) * f = j * f + f := Nat.succ_mul j f
  have ih := ih (j + 1) (by omega)
  rw [hsucc] at ih
  have hpr : ds.drop (j * f) = (ds.take (min (j * f + f) runs.length)).drop (j * f) ++ ds.drop (j * f + f) := by
   refine part_rest ds _ _ _ (by omega) ?_
   by_cases hh : j * f + f ≤ runs.length
   ·rw [Nat.min_eq_left hh]
   ·rw [List.drop_of_length_le (by omega), List.drop_of_length_le (by omega)]
  have hps := good_part hGood (j * f) (min (j * f + f) runs.length)
  have hdr := good_drop hGood (j * f + f)
  have hlp : (fl ((ds.take (min (j * f + f) runs.length)).drop (j * f))).length ≤ (fl ds).length := by
   have e1 : fl ds = fl (ds.take (j * f)) ++ fl (ds.drop (j * f)) := by rw [← fl_app, List.take_append_drop]
   rw [e1, hpr, fl_app, List.length_append, List.length_append]
   omega
  obtain ⟨r, r1, r2, out⟩ := runs_both (sub hd (j * f) (min (j * f + f) runs.length)) size (Nat.le_trans hlp (by omega))
  have s1 := fun (acc : List (List Int)) (ha : acc.length ≤ 256) (k : Nat) hr => l1_step runs f h3 h4 size acc k j (by omega) hfew hjf hjg ha r hr
  have s2 := fun (acc : List (List Int)) (ha : acc.length ≤ 256) (k : Nat) hr => ref_step runs f h3 h4 size acc k j (by omega) hfew hjf hjg ha r hr
  have stop : ∀ e, r = ([], e) → e ≠ 0 → ∀ acc : List (List Int), acc.length + (d + 1) ≤ 256 → Ev (fun k => passes_Merge.l1 k runs f size acc (grps runs.length f) ((grps runs.length f).length : Int) (j : Int)) ([], e) ∧ Ev (fun k => r12_Merge.l0 k runs f size (grps runs.length f) acc (j : Int)) ([], e) := by
   intro e he h0 acc ha
   have hn : ¬ r.2 = 0 := by rw [he]; exact h0
   refine ⟨ev_round r1 (fun k hk => (s1 acc (by omega) k hk).trans (if_neg hn)) ?_, ev_round r2 (fun k hk => (s2 acc (by omega) k hk).trans (if_neg hn)) ?_⟩
   ·rw [he]; exact Ev.now _
   ·rw [he]; exact Ev.now _
  cases out with
  | bad x hx hr =>
   have hz : x.2 ≠ 0 := by simpa using List.find?_some hx
   refine .inl ⟨x.2, hz, ?_, stop x.2 hr hz⟩
   rw [hpr]
   exact bad_left (.inl ⟨x, List.mem_of_find?_eq_some hx, hz⟩) hdr
  | over m hall hR h0 hr =>
   refine .inl ⟨m.2, h0, ?_, stop m.2 hr h0⟩
   rw [hpr]
   refine bad_left (.inr ?_) hdr
   rcases hR with ⟨q, _⟩ | ⟨_, q⟩
   ·exact absurd q h0
   ·exact q
  | ok m hall hR h0 hm hl hr =>
   rw [encS_ok hs hm] at hr
   have hz : r.2 = 0 := by rw [hr]
   have hr1 : r.1 = encB m.1 size.toNat := by rw [hr]
   have hc : ∀ w, cnt m.1 w = cnt (fl ((ds.take (min (j * f + f) runs.length)).drop (j * f))) w := by
    rcases hR with ⟨_, _, _, q⟩ | ⟨q, _⟩
    ·exact q
    ·rw [q] at h0; exact absurd h0 (by simp)
   rcases ih with ⟨e, he, hbad, hacc⟩ | ⟨dx, hdl, hp, hacc⟩
   ·refine .inl ⟨e, he, ?_, fun acc ha => ?_⟩
    ·rw [hpr]; exact bad_right hbad hps
    ·obtain ⟨q1, q2⟩ := hacc (acc ++ [r.1]) (by rw [List.length_append, List.length_singleton]; omega)
     exact ⟨ev_round r1 (fun k hk => (s1 acc (by omega) k hk).trans (if_pos hz)) q1, ev_round r2 (fun k hk => (s2 acc (by omega) k hk).trans (if_pos hz)) q2⟩
   ·refine .inr ⟨(m.1, 0) :: dx, by rw [List.length_cons, hdl], ?_, fun acc ha => ?_⟩
    ·rw [hpr]
     refine ⟨fun x hx => ?_, fun x hx => ?_, fun w => ?_, ?_⟩
     ·rcases List.mem_append.1 hx with hx | hx
      ·exact hall x hx
      ·exact hp.zero x hx
     ·rcases List.mem_cons.1 hx with rfl | hx
      ·exact ⟨rfl, hm⟩
      ·exact hp.ok x hx
     ·rw [show fl ((m.1, 0) :: dx) = m.1 ++ fl dx from rfl, fl_app, cnt_append, cnt_append, hc w, hp.cnts w]
     ·rw [show fl ((m.1, 0) :: dx) = m.1 ++ fl dx from rfl, fl_app, List.length_append, List.length_append]
      exact Nat.add_le_add hl hp.sz
    ·obtain ⟨q1, q2⟩ := hacc (acc ++ [r.1]) (by rw [List.length_append, List.length_singleton]; omega)
     have e : acc ++ List.map (fun x => encB x.1 size.toNat) ((m.1, 0) :: dx) = acc ++ [r.1] ++ List.map (fun x => encB x.1 size.toNat) dx := by
      rw [List.map_cons, List.append_assoc, hr1]
      rfl
     rw [e]
     exact ⟨fun r' h => ev_round r1 (fun k hk => (s1 acc (by omega) k hk).trans (if_pos hz)) (q1 r' h), fun r' h => ev_round r2 (fun k hk => (s2 acc (by omega) k hk).trans (if_pos hz)) (q2 r' h)⟩
def Fin (ds : List (List S41 × Int)) (size : Int) (r : List Int × Int) : Prop :=
 (r.1 = [] ∧ r.2 ≠ 0 ∧ Bad ds) ∨ ∃ m, r = (encB m size.toNat, 0) ∧ mayS m = 0 ∧ (∀ d ∈ ds, d.2 = 0) ∧ ∀ w, cnt m w = cnt (fl ds) w
theorem bad_pass {ds dx : List (List S41 × Int)} (h : Pass ds dx) (hb : Bad dx) : Bad ds := by
 rcases hb with ⟨d, h1, h2⟩ | ⟨w, h1⟩
 ·exact absurd (h.ok d h1).1 h2
 ·exact .inr ⟨w, by rw [← h.cnts]; exact h1⟩
theorem rows_next {ds dx : List (List S41 × Int)} (h : Pass ds dx) (hl : dx.length ≤ 256) (hN : (fl ds).length ≤ 60000) (size : Int) (hs : 1 ≤ size ∧ size ≤ 255) : RowsP (dx.map (fun x => encB x.1 size.toNat)) dx := by
 have hsz : ∀ d ∈ dx, d.1.length ≤ 60000 := fun d hd => by
  have h1 : d.1.length ≤ (fl dx).length := by
   obtain ⟨a, b, rfl⟩ := List.append_of_mem hd
   rw [fl_app, List.length_append, show fl (d :: b) = d.1 ++ fl b from rfl, List.length_append]
   omega
  have := h.sz
  omega
 refine ⟨by rw [List.length_map], by rw [List.length_map]; exact hl, fun i h1 h2 => ?_, hsz⟩
 have hm := h.ok dx[i] (List.getElem_mem h2)
 have := dec_big dx[i].1 hm.2 (hsz _ (List.getElem_mem h2)) size.toNat (by omega) (by omega)
 rw [List.getElem_map]
 rwa [show (dx[i].1, (0 : Int)) = dx[i] from Prod.ext rfl hm.1.symm] at this
theorem loop (f : Nat) (h3 : 2 ≤ f) (h4 : f ≤ 8) (size : Int) (hs : 1 ≤ size ∧ size ≤ 255) : ∀ (n : Nat) (runs : List (List Int)) (ds : List (List S41 × Int)), runs.length ≤ n → 2 ≤ runs.length → RowsP runs ds → (fl ds).length ≤ 60000 →
  ∃ r, Ev (fun k => passes_Merge.l0 k runs f size) r ∧ Ev (fun k => r12_Merge.f k runs f size) r ∧ Fin ds size r := by
 intro n
 induction n with
 | zero => intro runs ds h1 h2; omega
 | succ n ih =>
  intro runs ds hn h2 hd hN
  have hfew := hd.few
  obtain ⟨g1, g2, g3, g4⟩ := passes_Passes.g_lt runs.length f (by omega) (by omega) (by omega) (by omega)
  have hgl := grps_len runs.length f (by omega) (by omega) (by omega) (by omega)
  have g3 := g3 (by omega)
  have p0 : ∀ r, Ev (fun k => passes_Merge.l1 k runs f size [] (grps runs.length f) ((grps runs.length f).length : Int) ((0 : Nat) : Int)) r → Ev (fun k => passes_Merge.l0 k runs f size) r := by
   rintro r ⟨K, h⟩
   refine ⟨K + 70001, fun k hk => ?_⟩
   obtain ⟨k, rfl⟩ : ∃ m, k = m + 1 := ⟨k - 1, by omega⟩
   show passes_Merge.l0 (k + 1) runs f size = _
   rw [passes_Merge.l0, if_pos (by omega), passes_Passes.groups k (by omega), Option.bind_some]
   exact h k (by omega)
  have q0 : ∀ r, Ev (fun k => r12_Merge.l0 k runs f size (grps runs.length f) [] ((0 : Nat) : Int)) r → Ev (fun k => r12_Merge.f k runs f size) r := by
   rintro r ⟨K, h⟩
   refine ⟨K + 70002, fun k hk => ?_⟩
   obtain ⟨k, rfl⟩ : ∃ m, k = m + 1 + 1 := ⟨k - 2, by omega⟩
   show r12_Merge.f (k + 1 + 1) runs f size = _
   rw [r12_Merge.f, if_neg (by omega), if_neg (by omega), if_neg (by omega), decide_eq_false (by omega : ¬ size > 255), r12_Merge.j0, if_neg (by decide), if_neg (by omega), if_neg (by omega), PassLib.ref_groups k (by omega), Option.bind_some]
   exact h k (by omega)
  have hz : ds.drop (0 * f) = ds := by rw [Nat.zero_mul, List.drop_zero]
  rcases pass_both hd hN f h3 h4 size hs h2 (grps runs.length f).length 0 (by omega) with ⟨e, he, hbad, h⟩ | ⟨dx, hdl, hp, h⟩
  ·obtain ⟨a, b⟩ := h [] (by rw [List.length_nil]; omega)
   rw [hz] at hbad
   exact ⟨_, p0 _ a, q0 _ b, .inl ⟨rfl, he, hbad⟩⟩
  ·obtain ⟨a, b⟩ := h [] (by rw [List.length_nil]; omega)
   rw [hz] at hp
   rw [List.nil_append] at a b
   have hnx := rows_next hp (by omega) hN size hs
   by_cases h1 : dx.length = 1
   ·obtain ⟨x, rfl⟩ : ∃ x, dx = [x] := List.length_eq_one_iff.1 h1
    have e1 : ∀ l : List Int, rd_L5 [l] 0 = l := fun l => rfl
    refine ⟨(encB x.1 size.toNat, 0), p0 _ (a _ ⟨1, fun k hk => ?_⟩), q0 _ (b _ ⟨0, fun k hk => ?_⟩), .inr ⟨x.1, rfl, (hp.ok x List.mem_cons_self).2, hp.zero, fun w => ?_⟩⟩
    ·obtain ⟨k, rfl⟩ : ∃ m, k = m + 1 := ⟨k - 1, by omega⟩
     show passes_Merge.l0 (k + 1) [encB x.1 size.toNat] f size = _
     rw [passes_Merge.l0, if_neg (by simp), if_pos (by simp), e1]
    ·show fin k [encB x.1 size.toNat] f size = _
     unfold fin
     rw [if_pos (by simp), if_pos (by simp), e1]
    ·rw [← hp.cnts w]
     unfold fl
     rw [List.map_singleton, List.flatten_singleton]
   ·obtain ⟨r, r1, r2, r3⟩ := ih (dx.map (fun x => encB x.1 size.toNat)) dx (by rw [List.length_map]; omega) (by rw [List.length_map]; omega) hnx (by have := hp.sz; omega)
    refine ⟨r, p0 _ (a _ r1), q0 _ (b _ ?_), ?_⟩
    ·obtain ⟨K, hK⟩ := r2
     refine ⟨K, fun k hk => ?_⟩
     have hK : r12_Merge.f k (dx.map (fun x => encB x.1 size.toNat)) f size = some r := hK k hk
     show fin k _ f size = _
     unfold fin
     rw [if_neg (by rw [List.length_map]; omega), hK, Option.bind_some]
    ·rcases r3 with ⟨q1, q2, q3⟩ | ⟨m, q1, q2, q3, q4⟩
     ·exact .inl ⟨q1, q2, bad_pass hp q3⟩
     ·exact .inr ⟨m, q1, q2, hp.zero, fun w => by rw [q4, hp.cnts]⟩
theorem merge_any {runs : List (List Int)} {ds : List (List S41 × Int)} (hd : RowsP runs ds) (hN : (fl ds).length ≤ 60000) (fan size : Int) :
  ∃ r, Ev (fun k => passes_Merge.f k runs fan size) r ∧ Ev (fun k => r12_Merge.f k runs fan size) r := by
 have hfew := hd.few
 by_cases hbad : fan < 2 ∨ fan > 8 ∨ size < 1 ∨ size > 255
 ·refine ⟨([], 1), ⟨2, fun k hk => ?_⟩, ⟨3, fun k hk => ?_⟩⟩
  ·obtain ⟨k, rfl⟩ : ∃ m, k = m + 1 := ⟨k - 1, by omega⟩
   have hj : passes_Merge.j0 (k + 1) runs fan size true = some ([], 1) := by rw [passes_Merge.j0, if_pos rfl]
   show passes_Merge.f (k + 1) runs fan size = _
   unfold passes_Merge.f passes_fans.f
   by_cases h1 : fan ≥ 2
   ·rw [if_pos h1, Option.bind_some]
    by_cases h2 : fan ≤ 8
    ·rw [decide_eq_true h2, if_pos rfl]
     by_cases h3 : size < 1
     ·rw [if_pos h3]; exact hj
     ·rw [if_neg h3, decide_eq_true (by omega : size > 255)]; exact hj
    ·rw [decide_eq_false h2, if_neg (by decide)]; exact hj
   ·rw [if_neg h1, Option.bind_some, if_neg (by decide)]; exact hj
  ·obtain ⟨k, rfl⟩ : ∃ m, k = m + 1 + 1 := ⟨k - 2, by omega⟩
   have hj : r12_Merge.j0 (k + 1) runs fan size true = some ([], 1) := by rw [r12_Merge.j0, if_pos rfl]
   show r12_Merge.f (k + 1 + 1) runs fan size = _
   rw [r12_Merge.f]
   by_cases h1 : fan < 2
   ·rw [if_pos h1]; exact hj
   ·rw [if_neg h1]
    by_cases h2 : fan > 8
    ·rw [if_pos h2]; exact hj
    ·rw [if_neg h2]
     by_cases h3 : size < 1
     ·rw [if_pos h3]; exact hj
     ·rw [if_neg h3, decide_eq_true (by omega : size > 255)]; exact hj
 ·have pj : ∀ k, passes_Merge.f (k + 1) runs fan size = (if (runs.length : Int) ≤ 1 then ((loser_Runs.f k runs size).bind fun bt => (some (bt.1, bt.2))) else (passes_Merge.l0 k runs fan size)) := fun k => by
   unfold passes_Merge.f passes_fans.f
   rw [if_pos (by omega), Option.bind_some, decide_eq_true (by omega : fan ≤ 8), if_pos rfl, if_neg (by omega), decide_eq_false (by omega : ¬ size > 255), passes_Merge.j0, if_neg (by decide), if_neg (by omega)]
  by_cases h1 : runs.length ≤ 1
  ·obtain ⟨r, r1, r2, _⟩ := runs_both hd size (by unfold fl at hN; omega)
   refine ⟨r, ev_round r1 (fun k hk => (pj k).trans ?_) (Ev.now r), ?_⟩
   ·rw [if_pos (by omega), hk, Option.bind_some]
   ·obtain ⟨K, hK⟩ := r2
    refine ⟨K + 2, fun k hk => ?_⟩
    obtain ⟨k, rfl⟩ : ∃ m, k = m + 1 + 1 := ⟨k - 2, by omega⟩
    have hK : r11_Runs.f k runs size = some r := hK k (by omega)
    show r12_Merge.f (k + 1 + 1) runs fan size = _
    rw [r12_Merge.f, if_neg (by omega), if_neg (by omega), if_neg (by omega), decide_eq_false (by omega : ¬ size > 255), r12_Merge.j0, if_neg (by decide), if_neg (by omega), if_pos (by omega), hK, Option.bind_some]
  ·obtain ⟨f, rfl⟩ := Int.eq_ofNat_of_zero_le (show 0 ≤ fan by omega)
   obtain ⟨r, r1, r2, _⟩ := loop f (by omega) (by omega) size (by omega) runs.length runs ds (Nat.le_refl _) (by omega) hd hN
   refine ⟨r, Ev.step (fun k => (pj k).trans (if_neg (by omega))) r1, r2⟩
def Few3 (l : List (List Int)) : Prop := l.length ≤ 20 ∧ ∀ x ∈ l, x.length ≤ 3000
theorem few_loop (l : List (List Int)) : ∀ (d i : Nat), i + d = min 21 l.length → (∀ j (hj : j < l.length), j < i → l[j].length ≤ 3000) → ∃ b, Ev (fun k => l12_few.l0 k l (i : Int)) b ∧ (b = true → Few3 l) := by
 intro d
 induction d with
 | zero =>
  intro i hi hs
  refine ⟨decide ((l.length : Int) ≤ 20), ⟨2, fun k hk => ?_⟩, fun h => ?_⟩
  ·obtain ⟨k, rfl⟩ : ∃ q, k = q + 1 + 1 := ⟨k - 2, by omega⟩
   have hj : l12_few.j1 (k + 1) l (i : Int) false = some (decide ((l.length : Int) ≤ 20)) := by
    rw [l12_few.j1, if_neg (by decide)]
   show l12_few.l0 (k + 1 + 1) l (i : Int) = _
   rw [l12_few.l0]
   by_cases h : (i : Int) < (l.length : Int)
   ·rw [if_pos h, decide_eq_false (by omega : ¬ (i : Int) < 21)]
    exact hj
   ·rw [if_neg h]
    exact hj
  ·have h := of_decide_eq_true h
   refine ⟨by omega, fun x hx => ?_⟩
   obtain ⟨j, hj, rfl⟩ := List.mem_iff_getElem.1 hx
   exact hs j hj (by omega)
 | succ d ih =>
  intro i hi hs
  have hil : i < l.length := by omega
  by_cases h5 : l[i].length ≤ 3000
  ·obtain ⟨b, ⟨K, hK⟩, hb⟩ := ih (i + 1) (by omega) (fun j hj hji => by
    by_cases e : j = i
    ·subst e; exact h5
    ·exact hs j hj (by omega))
   refine ⟨b, ⟨K + 2, fun k hk => ?_⟩, hb⟩
   obtain ⟨k, rfl⟩ : ∃ q, k = q + 1 + 1 := ⟨k - 2, by omega⟩
   show l12_few.l0 (k + 1 + 1) l (i : Int) = _
   rw [l12_few.l0, if_pos (by omega), decide_eq_true (by omega : (i : Int) < 21), l12_few.j1, if_pos rfl, if_pos (by omega), if_pos (by omega), rdL_eq l i hil, if_neg (by omega), wr1 i (by omega)]
   exact hK k (by omega)
  ·refine ⟨false, ⟨2, fun k hk => ?_⟩, fun h => by simp at h⟩
   obtain ⟨k, rfl⟩ : ∃ q, k = q + 1 + 1 := ⟨k - 2, by omega⟩
   show l12_few.l0 (k + 1 + 1) l (i : Int) = _
   rw [l12_few.l0, if_pos (by omega), decide_eq_true (by omega : (i : Int) < 21), l12_few.j1, if_pos rfl, if_pos (by omega), if_pos (by omega), rdL_eq l i hil, if_pos (by omega)]
theorem few_f (l : List (List Int)) : ∃ b, Ev (fun k => l12_few.f k l) b ∧ (b = true → Few3 l) :=
 few_loop l (min 21 l.length) 0 (by omega) (fun j _ h => absurd h (Nat.not_lt_zero j))
theorem rows_few {l : List (List Int)} (hb : ∀ b ∈ l, Bytes b) (h : Few3 l) : ∃ ds, RowsP l ds ∧ (fl ds).length ≤ 60000 := by
 obtain ⟨ds, h1, h2, h3, h4⟩ := Pure.rows_small l (fun b hm => ⟨hb b hm, by have := h.2 b hm; omega⟩)
 have h5 := Pure.flat_le 3000 l h.2
 have := h.1
 exact ⟨ds, ⟨h1, by omega, h2, h3⟩, by unfold fl; omega⟩
end Go.Proofs.Ytiohnpphhepdfaa.PassesLib
end
section
namespace Go.Proofs.Ytiohnpphhepdfaa.Pure
open Go.RowKit Go.Proofs.Ytiohnpphhepdfaa.PPa Go.Proofs.YtiohnpphhepdfaaW.PrintWords Go.Proofs.YtiohnpphhepdfaaW.PrintLast Go.Proofs.YtiohnpphhepdfaaW.PrintMore Go.Proofs.Ytiohnpphhepdfaa.NumLib Go.Proofs.Ytiohnpphhepdfaa.FrameLib Go.Proofs.Ytiohnpphhepdfaa.RunLib Go.Proofs.Ytiohnpphhepdfaa.RunsLib
set_option linter.unusedVariables false
set_option linter.unusedSimpArgs false
theorem PassesMerges (l0 : List (List Int)) (a1 : Int) (a2 : Int) (w0 : l0.length ≤ maxLen ∧ ∀ x ∈ l0, x.length ≤ maxLen ∧ ∀ y ∈ x, (Lit.int .u8 y).wf = true) (w1 : (Lit.int .i64 a1).wf = true) (w2 : (Lit.int .i64 a2).wf = true) : ∃ k, l12_PassesMerges.f k l0 a1 a2 = some true := by
 obtain ⟨b, ⟨K1, h1⟩, h2⟩ := PassesLib.few_f l0
 cases b with
 | false =>
  refine ⟨K1 + 65600, ?_⟩
  have h1 : l12_few.f (K1 + 65600) l0 = some false := h1 _ (by omega)
  unfold l12_PassesMerges.f
  rw [PassLib.shown_f _ (by omega), Option.bind_some, h1, Option.bind_some, if_neg (by decide)]
 | true =>
  obtain ⟨ds, hd, hN⟩ := PassesLib.rows_few (l := l0) (fun b h x hx => wf_byte ((w0.2 b h).2 x hx)) (h2 rfl)
  obtain ⟨r, ⟨K2, r1⟩, ⟨K3, r2⟩⟩ := PassesLib.merge_any hd hN a1 a2
  refine ⟨K1 + K2 + K3 + 65600, ?_⟩
  have h1 : l12_few.f (K1 + K2 + K3 + 65600) l0 = some true := h1 _ (by omega)
  have r1 : passes_Merge.f (K1 + K2 + K3 + 65600) l0 a1 a2 = some r := r1 _ (by omega)
  have r2 : r12_Merge.f (K1 + K2 + K3 + 65600) l0 a1 a2 = some r := r2 _ (by omega)
  unfold l12_PassesMerges.f
  rw [PassLib.shown_f _ (by omega), Option.bind_some, h1, Option.bind_some, if_pos rfl, r1, Option.bind_some, r2, Option.bind_some, if_pos rfl, if_pos rfl, beq_self_eq_true]
end Go.Proofs.Ytiohnpphhepdfaa.Pure
end
section
namespace Go.Proofs.Ytiohnpphhepdfaa.RowKd
open Go.RowKit Go.ChangeShapes Go.WideShapes Go.Proofs.YtiohnpphhepdfaaW.PrintWords
structure Tells {α : Type} (P : Program) (t : TypeId) (d : Kd α) (wf : α → Prop) : Prop where
 cells : P.cellsOf t = d.sz
 down : ∀ {H : Type} {enc : TypeId × Value → H} {w : World} {base : Nat} {held : Bool} {fuel : Nat} {cs : List Value} {x : DataW H × List MemPlace},
  DataW.trod enc P w base (fun _ => true) held fuel t cs = some x → ∃ y, d.K w y cs ∧ wf y
theorem tells_int {P : Program} {t : TypeId} {k : IntKind} (ht : P.underlying t = some (.int k)) (hc : P.cellsOf t = 1) : Tells P t (Kd.int k) (fun n => (Lit.int k n).wf = true) := by
 refine ⟨hc, fun h => ?_⟩
 obtain ⟨n, rfl, _, hw⟩ := DataW.trod_int ht h
 exact ⟨n, rfl, hw⟩
theorem tells_slice {α : Type} {P : Program} {t e : TypeId} {d : Kd α} {wf : α → Prop} (ht : P.underlying t = some (.slice e)) (hc : P.cellsOf t = 1) (he : Tells P e d wf) :
  Tells P t (Kd.slice e d) (fun xs => xs.length ≤ maxLen ∧ ∀ x ∈ xs, wf x) := by
 refine ⟨hc, @fun H enc w base held fuel cs x h => ?_⟩
 rcases Go.Deep.open_slice ht h with ⟨rfl, _⟩ | ⟨a, len, cap, m, n, D, Pl, rfl, hb, hl, hm, hmm, _, hx⟩
 ·exact ⟨[], ⟨none, 0, rfl, Nat.le_refl _, rfl, by simp, fun h => absurd h (Nat.lt_irrefl _)⟩, by simp, by simp⟩
 ·have hlm : len ≤ m := by rw [hmm]; simp only [if_true]; exact hl
  have one : ∀ i, i < len → ∃ y : Option α, ∃ z, y = some z ∧ (∃ c, c.length = d.sz ∧ d.K w z c ∧ ∀ j u, c[j]? = some u → w.cell? (a.add (i * d.sz + j)) = some u) ∧ wf z := by
   intro i hi
   obtain ⟨cs', h1, h2⟩ := hx i (Nat.lt_of_lt_of_le hi hlm)
   obtain ⟨z, hK, hw⟩ := he.down h2
   obtain ⟨_, hlen, hcell⟩ := World.cells?_some h1
   rw [he.cells] at hlen hcell
   refine ⟨some z, z, rfl, ⟨cs', hlen, hK, fun j u hj => ?_⟩, hw⟩
   have hj' : j < d.sz := by rw [← hlen]; exact (List.getElem?_eq_some_iff.1 hj).1
   rw [← Go.Deep.add_add, ← hj]
   exact hcell j hj'
  obtain ⟨f, hf⟩ := Go.Deep.choose_lt (α := Option α) one
  have key : ∃ xs : List α, xs.length = len ∧ ∀ i z, xs[i]? = some z → (∃ c, c.length = d.sz ∧ d.K w z c ∧ ∀ j u, c[j]? = some u → w.cell? (a.add (i * d.sz + j)) = some u) ∧ wf z := by
   refine ⟨(List.range len).pmap (fun i (hi : i < len) => (f i).get (by obtain ⟨z, hz, _⟩ := hf i hi; rw [hz]; rfl)) (fun i hi => List.mem_range.1 hi), by simp, fun i z hz => ?_⟩
   obtain ⟨hi, hz⟩ := List.getElem?_eq_some_iff.1 hz
   simp only [List.length_pmap, List.length_range] at hi
   obtain ⟨z', hz', h1, h2⟩ := hf i hi
   simp only [List.getElem_pmap, List.getElem_range, hz', Option.get_some] at hz
   subst hz
   exact ⟨h1, h2⟩
  obtain ⟨xs, hxl, hxs⟩ := key
  refine ⟨xs, ⟨some a, cap, by rw [hxl], by rw [hxl]; exact hl, rfl, ?_, fun _ => ⟨a, rfl, fun j p hj => (hxs j p hj).1⟩⟩, ?_, fun x hx => ?_⟩
  ·rw [hxl]; simp only [maxLen] at hm; omega
  ·rw [hxl]; exact Nat.le_trans hl hm
  ·obtain ⟨i, hi, rfl⟩ := List.getElem_of_mem hx
   exact (hxs i _ (List.getElem?_eq_getElem hi)).2
theorem tells_arg {α : Type} {H : Type} {enc : TypeId × Value → H} {P : Program} {t e : TypeId} {d : Kd α} {wf : List α → Prop} {w : World} {base : Nat} {held : Bool} {a : Option Addr} {len cap : Nat} {x : DataW H} {ps : List MemPlace}
  (h : Tells P t (Kd.slice e d) wf) (hd : DataW.Trod enc P w base (fun _ => true) held t (.slice a len cap) x ps) :
  ∃ xs : List α, len = xs.length ∧ xs.length ≤ cap ∧ d.C w a xs.length xs ∧ wf xs := by
 obtain ⟨fuel, hf⟩ := hd
 obtain ⟨xs, ⟨A, c, hcs, hl, hC⟩, hw⟩ := h.down hf
 simp [Value.cells] at hcs
 obtain ⟨rfl, rfl, rfl⟩ := hcs
 exact ⟨xs, rfl, hl, hC, hw⟩
end Go.Proofs.Ytiohnpphhepdfaa.RowKd
end
