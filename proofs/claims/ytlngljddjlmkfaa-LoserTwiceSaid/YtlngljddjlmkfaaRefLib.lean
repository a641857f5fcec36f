/- Plain laws of merging: the reference's answer is what the entries say. -/
import Derived.Test.YtlngljddjlmkfaaShownLib
import Derived.Test.YtlngljddjlmkfaaPLoserx6
namespace Go.Proofs.Ytlngljddjlmkfaa.LoserLib
open Go.RowKit Go.Proofs.Ytlngljddjlmkfaa.PLoser Go.Proofs.YtlngljddjlmkfaaW.PrintWords Go.Proofs.YtlngljddjlmkfaaW.PrintLast Go.Proofs.YtlngljddjlmkfaaW.PrintMore
set_option linter.unusedVariables false
set_option linter.unusedSimpArgs false

theorem ref_may_l1 (l : List E1) (hl : l.length < 1000000000) (d : Nat) : ∀ (k i : Nat), d < k → 1 ≤ i → i + d = max 1 l.length → manteletref09_May.l1 k l i = some (if rises (l.drop (i - 1)) = true then 0 else 9) := by
  induction d with
  | zero =>
    intro k i hk h1 hi
    obtain ⟨k, rfl⟩ : ∃ m, k = m + 1 := ⟨k - 1, by omega⟩
    rw [manteletref09_May.l1, if_neg (by omega)]
    have : rises (l.drop (i - 1)) = true := by
      have hlen : (l.drop (i - 1)).length ≤ 1 := by rw [List.length_drop]; omega
      match l.drop (i - 1), hlen with
      | [], _ => rfl
      | [_], _ => rfl
    rw [if_pos this]
  | succ d ih =>
    intro k i hk h1 hi
    obtain ⟨k, rfl⟩ : ∃ m, k = m + 1 := ⟨k - 1, by omega⟩
    have hw : wrap64 ((i : Int) + 1) = ((i + 1 : Nat) : Int) := by unfold wrap64; omega
    have hv : wrap64 ((i : Int) - 1) = ((i - 1 : Nat) : Int) := by unfold wrap64; omega
    have hlt : i < l.length := by omega
    rw [manteletref09_May.l1, if_pos (by omega), hv, if_pos (by omega), if_pos (by omega), if_pos (by omega), rdT_eq l i hlt, rdT_eq l (i - 1) (by omega), hw]
    have e : l.drop (i - 1) = l[i - 1] :: l[i] :: l.drop (i + 1) := by
      rw [List.drop_eq_getElem_cons (by omega)]
      congr 1
      rw [show i - 1 + 1 = i by omega, List.drop_eq_getElem_cons hlt]
    have e2 : l.drop (i + 1 - 1) = l[i] :: l.drop (i + 1) := by
      rw [show i + 1 - 1 = i by omega, List.drop_eq_getElem_cons hlt]
    have := ih k (i + 1) (by omega) (by omega) (by omega)
    rw [e2] at this
    rw [e, rises, this]
    unfold less
    by_cases hb : Op.bytesLess l[i - 1].f0.toList l[i].f0.toList = true
    · rw [if_pos hb, hb, Bool.true_and]
    · rw [if_neg hb]
      simp [hb]
theorem ref_may_l0 (l : List E1) (hl : l.length < 1000000000) (d : Nat) : ∀ (k i : Nat), d + l.length + 3 < k → i + d = l.length → manteletref09_May.l0 k l i = some (if ∀ x ∈ l.drop i, fineS x then (if rises l = true then 0 else 9) else 1) := by
  induction d with
  | zero =>
    intro k i hk hi
    obtain ⟨k, rfl⟩ : ∃ m, k = m + 1 := ⟨k - 1, by omega⟩
    rw [manteletref09_May.l0, if_neg (by omega), List.drop_of_length_le (by omega), if_pos (by simp)]
    have := ref_may_l1 l hl (max 1 l.length - 1) k 1 (by omega) (by omega) (by omega)
    exact this
  | succ d ih =>
    intro k i hk hi
    obtain ⟨k, rfl⟩ : ∃ m, k = m + 1 := ⟨k - 1, by omega⟩
    have hw : wrap64 ((i : Int) + 1) = ((i + 1 : Nat) : Int) := by unfold wrap64; omega
    have hlt : i < l.length := by omega
    rw [manteletref09_May.l0, if_pos (by omega), if_pos (by omega), rdT_eq l i hlt, hw, List.drop_eq_getElem_cons hlt]
    have ih' := ih k (i + 1) (by omega) (by omega)
    by_cases hf : fineS l[i]
    · have hf' := hf
      unfold fineS at hf'
      rw [if_neg (by omega), if_neg (by omega), if_neg (by omega), if_neg (by omega), ih']
      congr 1
      by_cases hr : ∀ x ∈ l.drop (i + 1), fineS x
      · rw [if_pos hr, if_pos (List.forall_mem_cons.2 ⟨hf, hr⟩)]
      · rw [if_neg hr, if_neg (fun h => hr (fun x hx => h x (List.mem_cons_of_mem _ hx)))]
    · rw [if_neg (show ¬ ∀ x ∈ l[i] :: l.drop (i + 1), fineS x from fun h => hf (h _ List.mem_cons_self))]
      unfold fineS at hf
      by_cases a1 : (l[i].f0.size : Int) < 1
      · rw [if_pos a1]
      · rw [if_neg a1]
        by_cases a2 : (l[i].f0.size : Int) > 255
        · rw [if_pos a2]
        · rw [if_neg a2]
          by_cases a3 : l[i].f1 < 1
          · rw [if_pos a3]
          · rw [if_neg a3, if_pos (by omega)]
theorem ref_may_f (k : Nat) (l : List E1) (hl : l.length < 1000000000) (hk : 2 * l.length + 5 < k) : manteletref09_May.f k l = some (mayS l) := by
  unfold manteletref09_May.f mayS
  have := ref_may_l0 l hl l.length k 0 (by omega) (by omega)
  rw [Int.natCast_zero, List.drop_zero] at this
  exact this

theorem at_l0 (l : List E1) (hl : l.length ≤ 1000000) (a : ByteArray) : ∀ (d i k : Nat), i + d = l.length → d < k → (∀ x ∈ l.take i, Op.bytesLess (key x) a.toList = true) →
    ∃ n : Nat, manteletref08_At.l0 k l a i = some (n : Int) ∧ n ≤ l.length ∧ (∀ x ∈ l.take n, Op.bytesLess (key x) a.toList = true) ∧ ∀ h : n < l.length, Op.bytesLess (key l[n]) a.toList = false := by
  intro d
  induction d with
  | zero =>
    intro i k hi hk h
    obtain ⟨k, rfl⟩ : ∃ m, k = m + 1 := ⟨k - 1, by omega⟩
    rw [manteletref08_At.l0, if_neg (by omega)]
    exact ⟨i, rfl, by omega, h, fun h => by omega⟩
  | succ d ih =>
    intro i k hi hk h
    obtain ⟨k, rfl⟩ : ∃ m, k = m + 1 := ⟨k - 1, by omega⟩
    have hil : i < l.length := by omega
    rw [manteletref08_At.l0, if_pos (by omega), if_pos (by omega), rdT_eq l i hil, wr1 i (by omega)]
    by_cases hb : Op.bytesLess (key l[i]) a.toList = true
    · rw [if_pos (show Op.bytesLess l[i].f0.toList a.toList = true from hb)]
      refine ih (i + 1) k (by omega) (by omega) (fun x hx => ?_)
      rw [List.take_add_one, List.getElem?_eq_getElem hil] at hx
      rcases List.mem_append.1 hx with hx | hx
      · exact h x hx
      · have : x = l[i] := by simpa using hx
        rw [this]; exact hb
    · rw [if_neg (show ¬ Op.bytesLess l[i].f0.toList a.toList = true from hb)]
      exact ⟨i, rfl, by omega, h, fun _ => by simpa using hb⟩
theorem at_f (l : List E1) (hl : l.length ≤ 1000000) (a : ByteArray) (k : Nat) (hk : l.length < k) :
    ∃ n : Nat, manteletref08_At.f k l a = some (n : Int) ∧ n ≤ l.length ∧ (∀ x ∈ l.take n, Op.bytesLess (key x) a.toList = true) ∧ ∀ h : n < l.length, Op.bytesLess (key l[n]) a.toList = false :=
  at_l0 l hl a l.length 0 k (by omega) hk (fun x hx => by simp at hx)
/-- A place parts a list that rises. -/
theorem at_parts {l : List E1} (hr : Ris l) {w : List UInt8} {n : Nat} (h1 : ∀ x ∈ l.take n, Op.bytesLess (key x) w = true) (hn : n < l.length) (h2 : Op.bytesLess (key l[n]) w = false) :
    l = l.take n ++ l[n] :: l.drop (n + 1) ∧ cnt (l.take n) w = 0 ∧ cnt (l.drop (n + 1)) w = 0 ∧ (∀ y ∈ l.drop (n + 1), Op.bytesLess (key l[n]) (key y) = true) := by
  have e : l = l.take n ++ l[n] :: l.drop (n + 1) := by rw [← List.drop_eq_getElem_cons hn, List.take_append_drop]
  have hr2 := hr
  rw [e] at hr2
  have hr3 := List.pairwise_append.1 hr2
  have hr4 := List.pairwise_cons.1 hr3.2.1
  refine ⟨e, cnt_none (fun x hx q => ?_), cnt_none (fun x hx q => ?_), hr4.1⟩
  · have := h1 x hx
    rw [q, bl_irrefl] at this; simp at this
  · have := hr4.1 x hx
    rw [q] at this
    rw [this] at h2; simp at h2
theorem get_val {l : List E1} (hr : Ris l) {w : List UInt8} {n : Nat} (h1 : ∀ x ∈ l.take n, Op.bytesLess (key x) w = true) (h2 : ∀ h : n < l.length, Op.bytesLess (key l[n]) w = false) :
    cnt l w = if h : n < l.length then (if key l[n] = w then l[n].f1 else 0) else 0 := by
  by_cases hn : n < l.length
  · obtain ⟨e, c1, c2, _⟩ := at_parts hr h1 hn (h2 hn)
    rw [dif_pos hn]
    have : cnt l w = cnt (l.take n ++ l[n] :: l.drop (n + 1)) w := congrArg (fun m => cnt m w) e
    rw [this, cnt_append, cnt, c1, c2]
    omega
  · rw [dif_neg hn]
    rw [List.take_of_length_le (by omega)] at h1
    exact cnt_none (fun x hx q => by
      have := h1 x hx
      rw [q, bl_irrefl] at this; simp at this)
theorem get_f (l : List E1) (hr : Ris l) (hl : l.length ≤ 1000000) (a : ByteArray) (k : Nat) (hk : l.length < k) : manteletref08_Get.f k l a = some (cnt l a.toList) := by
  obtain ⟨n, h1, h2, h3, h4⟩ := at_f l hl a k hk
  have hv := get_val hr h3 h4
  unfold manteletref08_Get.f
  rw [h1, Option.bind_some, hv]
  by_cases hn : n < l.length
  · rw [if_pos (by omega), if_pos (by omega), rdT_eq l n hn, dif_pos hn]
    by_cases hk : key l[n] = a.toList
    · rw [if_pos hk, if_pos (show l[n].f0.toList = a.toList from hk)]
    · rw [if_neg hk, if_neg (show ¬ l[n].f0.toList = a.toList from hk)]
  · rw [if_neg (by omega), dif_neg hn]
theorem ref_add_f (a b : Int) (ha : 0 ≤ a ∧ a ≤ MAXC) (hb : 0 ≤ b ∧ b ≤ MAXC) : manteletref01_Add.f a b = some (if a + b ≤ MAXC then (a + b, true) else (0, false)) := by
  have hM : MAXC = 4611686018427387904 := rfl
  rw [hM] at ha hb ⊢
  unfold manteletref01_Add.f
  have w2 : IntKind.u64.wrap (a + b) = a + b := by simp only [IntKind.wrap, IntKind.bits, IntKind.signed]; simp; omega
  rw [if_neg (by omega), if_neg (by omega), w2]
  by_cases h : a + b ≤ 4611686018427387904
  · rw [if_neg (by omega), if_pos h]
  · rw [if_pos (by omega), if_neg h]
/-- A word more in a list that rises. -/
theorem tab_f (l : List E1) (hr : Ris l) (hp : Pos l) (hl : l.length ≤ 1000000) (x : E1) (hx : 1 ≤ x.f1 ∧ x.f1 ≤ MAXC) (hs : x.f0.size ≠ 0) (k : Nat) (hk : l.length + 5 < k) :
    ∃ r, manteletref08_Add.f k l (wrap64 ((l.length : Int) + 1)) x.f0 x.f1 = some r ∧ ((cnt l (key x) + x.f1 ≤ MAXC ∧ r.2 = 0 ∧ Ris r.1 ∧ Pos r.1 ∧ (∀ v, cnt r.1 v = cnt l v + cnt [x] v) ∧ r.1.length ≤ l.length + 1) ∨ (MAXC < cnt l (key x) + x.f1 ∧ r.2 = 5)) := by
  obtain ⟨k, rfl⟩ : ∃ m, k = m + 1 := ⟨k - 1, by omega⟩
  have hge := cnt_ge hp (key x)
  have hsm := cnt_small hr hp (key x)
  obtain ⟨n, h1, h2, h3, h4⟩ := at_f l hl x.f0 k (by omega)
  have hv := get_val hr h3 h4
  have hc1 : ∀ v, cnt [x] v = if key x = v then x.f1 else 0 := fun v => by simp only [cnt]; split <;> omega
  unfold manteletref08_Add.f
  rw [if_neg (by omega), wr1 _ (by omega), show (x.f1 == 0) = false from beq_eq_false_iff_ne.mpr (by omega), manteletref08_Add.j0, if_neg (by simp), get_f l hr hl x.f0 k (by omega), Option.bind_some, show x.f0.toList = key x from rfl, ref_add_f _ _ ⟨hge, hsm⟩ ⟨by omega, hx.2⟩, Option.bind_some]
  by_cases hfit : cnt l (key x) + x.f1 ≤ MAXC
  · rw [if_pos hfit, if_pos rfl, h1, Option.bind_some]
    by_cases hw : cnt l (key x) > 0
    · have hn : n < l.length := by
        rcases Nat.lt_or_ge n l.length with h | h
        · exact h
        · rw [show x.f0.toList = key x from rfl] at hv; rw [dif_neg (by omega)] at hv; omega
      rw [show x.f0.toList = key x from rfl] at hv h3 h4
      rw [dif_pos hn] at hv
      have hk : key l[n] = key x := by
        by_cases h : key l[n] = key x
        · exact h
        · rw [if_neg h] at hv; omega
      rw [if_pos hk] at hv
      obtain ⟨e, c1, c2, c3⟩ := at_parts hr h3 hn (h4 hn)
      rw [if_pos hw, Option.bind_some, if_pos (by simp; omega), Option.bind_some, List.nil_append, if_pos (by omega), if_pos (by omega), Int.toNat_natCast, rdT_eq l n hn]
      have hset : l.set n (⟨l[n].f0, cnt l (key x) + x.f1⟩ : E1) = l.take n ++ (⟨l[n].f0, cnt l (key x) + x.f1⟩ : E1) :: l.drop (n + 1) := List.set_eq_take_append_cons_drop.trans (if_pos hn)
      have hkz : key (⟨l[n].f0, cnt l (key x) + x.f1⟩ : E1) = key l[n] := rfl
      rw [hset]
      have hr2 := hr
      rw [e] at hr2
      have hr3 := List.pairwise_append.1 hr2
      have hr4 := List.pairwise_cons.1 hr3.2.1
      refine ⟨_, rfl, .inl ⟨hfit, rfl, ?_, ?_, fun v => ?_, ?_⟩⟩
      · refine List.pairwise_append.2 ⟨hr3.1, List.pairwise_cons.2 ⟨fun y hy => ?_, hr4.2⟩, fun y hy z hz => ?_⟩
        · rw [hkz]; exact hr4.1 y hy
        · rcases List.mem_cons.1 hz with rfl | hz
          · rw [hkz]; exact hr3.2.2 y hy _ List.mem_cons_self
          · exact hr3.2.2 y hy z (List.mem_cons_of_mem _ hz)
      · intro y hy
        rcases List.mem_append.1 hy with hy | hy
        · exact hp y (List.mem_of_mem_take hy)
        · rcases List.mem_cons.1 hy with rfl | hy
          · exact ⟨by show 1 ≤ cnt l (key x) + x.f1; omega, hfit⟩
          · exact hp y (List.mem_of_mem_drop hy)
      · show cnt (l.take n ++ (⟨l[n].f0, cnt l (key x) + x.f1⟩ : E1) :: l.drop (n + 1)) v = cnt l v + cnt [x] v
        have e2 : cnt l v = cnt (l.take n ++ l[n] :: l.drop (n + 1)) v := congrArg (fun m => cnt m v) e
        rw [e2, hc1, cnt_append, cnt_append, cnt, cnt, hkz, hk]
        show cnt (l.take n) v + ((if key x = v then cnt l (key x) + x.f1 else 0) + cnt (l.drop (n + 1)) v) = _
        split <;> omega
      · rw [← hset, List.length_set]; omega
    · have hz : cnt l (key x) = 0 := by omega
      rw [if_neg hw, if_neg (by omega), Option.bind_some, if_pos (by omega), if_pos (by omega), Option.bind_some, Int.toNat_natCast]
      have hlt : (l.take n).length ≤ l.length := by rw [List.length_take]; omega
      have hld : (l.drop n).length ≤ l.length := by rw [List.length_drop]; omega
      rw [if_pos (by simp only [List.length_nil]; omega), Option.bind_some, List.nil_append, if_pos (by omega), Option.bind_some, Option.bind_some, if_pos (by rw [List.length_append, List.length_singleton]; omega), hz, Int.zero_add]
      rw [show x.f0.toList = key x from rfl] at hv h3 h4
      have hxe : (⟨x.f0, x.f1⟩ : E1) = x := rfl
      rw [hxe]
      have hr2 := hr
      rw [← List.take_append_drop n l] at hr2
      have hr3 := List.pairwise_append.1 hr2
      have hgt : ∀ y ∈ l.drop n, Op.bytesLess (key x) (key y) = true := by
        intro y hy
        have hn : n < l.length := by
          rcases Nat.lt_or_ge n l.length with h | h
          · exact h
          · rw [List.drop_of_length_le h] at hy; simp at hy
        obtain ⟨e, c1, c2, c3⟩ := at_parts hr h3 hn (h4 hn)
        have hne : key l[n] ≠ key x := fun q => by
          rw [dif_pos hn, if_pos q] at hv
          have := (hp l[n] (List.getElem_mem hn)).1
          omega
        have hb : Op.bytesLess (key x) (key l[n]) = true := by
          cases hq : Op.bytesLess (key x) (key l[n]) with
          | true => rfl
          | false => exact absurd (bl_tri _ _ (h4 hn) hq) hne
        rw [List.drop_eq_getElem_cons hn] at hy
        rcases List.mem_cons.1 hy with rfl | hy
        · exact hb
        · exact bl_trans _ _ _ hb (c3 y hy)
      refine ⟨_, rfl, .inl ⟨by omega, rfl, ?_, ?_, fun v => ?_, ?_⟩⟩
      · refine List.pairwise_append.2 ⟨List.pairwise_append.2 ⟨hr3.1, List.pairwise_singleton _ _, fun y hy z hz => ?_⟩, hr3.2.1, fun y hy z hz => ?_⟩
        · rw [List.mem_singleton.1 hz]; exact h3 y hy
        · rcases List.mem_append.1 hy with hy | hy
          · exact hr3.2.2 y hy z hz
          · rw [List.mem_singleton.1 hy]; exact hgt z hz
      · intro y hy
        rcases List.mem_append.1 hy with hy | hy
        · rcases List.mem_append.1 hy with hy | hy
          · exact hp y (List.mem_of_mem_take hy)
          · rw [List.mem_singleton.1 hy]; exact hx
        · exact hp y (List.mem_of_mem_drop hy)
      · have e2 : cnt l v = cnt (l.take n ++ l.drop n) v := by rw [List.take_append_drop]
        show cnt (l.take n ++ [x] ++ l.drop n) v = cnt l v + cnt [x] v
        rw [e2, cnt_append, cnt_append, cnt_append]
        omega
      · show (l.take n ++ [x] ++ l.drop n).length ≤ l.length + 1
        rw [List.length_append, List.length_append, List.length_singleton, List.length_take, List.length_drop]
        omega
  · rw [if_neg hfit, if_neg (by simp)]
    exact ⟨_, rfl, .inr ⟨by omega, rfl⟩⟩
end Go.Proofs.Ytlngljddjlmkfaa.LoserLib
