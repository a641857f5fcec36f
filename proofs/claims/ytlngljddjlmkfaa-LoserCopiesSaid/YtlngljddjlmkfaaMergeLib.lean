/- Plain laws of merging: what the tree tells are all entries, in order; each word once, with its counts together. -/
import Derived.Test.YtlngljddjlmkfaaSpecLib
namespace Go.Proofs.Ytlngljddjlmkfaa.LoserLib
open Go.RowKit Go.Proofs.Ytlngljddjlmkfaa.PLs Go.Proofs.YtlngljddjlmkfaaW.PrintWords Go.Proofs.YtlngljddjlmkfaaW.PrintLast Go.Proofs.YtlngljddjlmkfaaW.PrintMore
set_option linter.unusedVariables false
set_option linter.unusedSimpArgs false

theorem flat_set : ∀ (ls : List (List E1)) (i : Nat) (l : List E1) (w : List UInt8) (hi : i < ls.length), cnt (ls.set i l).flatten w + cnt ls[i] w = cnt ls.flatten w + cnt l w
  | [], i, l, w, hi => by simp at hi
  | a :: ls, 0, l, w, hi => by
    rw [List.set_cons_zero, List.flatten_cons, List.flatten_cons, cnt_append, cnt_append, List.getElem_cons_zero]
    omega
  | a :: ls, i + 1, l, w, hi => by
    have ih := flat_set ls i l w (by simpa using hi)
    rw [List.set_cons_succ, List.flatten_cons, List.flatten_cons, cnt_append, cnt_append, List.getElem_cons_succ]
    omega
theorem flat_set_len : ∀ (ls : List (List E1)) (i : Nat) (l : List E1) (hi : i < ls.length), (ls.set i l).flatten.length + ls[i].length = ls.flatten.length + l.length
  | [], i, l, hi => by simp at hi
  | a :: ls, 0, l, hi => by
    rw [List.set_cons_zero, List.flatten_cons, List.flatten_cons, List.length_append, List.length_append, List.getElem_cons_zero]
    omega
  | a :: ls, i + 1, l, hi => by
    have ih := flat_set_len ls i l (by simpa using hi)
    rw [List.set_cons_succ, List.flatten_cons, List.flatten_cons, List.length_append, List.length_append, List.getElem_cons_succ]
    omega
theorem at2_eq (ls : List (List E1)) (i : Nat) (hi : i < ls.length) : at2 ls i = ls[i] := by
  unfold at2
  rw [List.getD_eq_getElem?_getD, List.getElem?_eq_getElem hi]
  rfl
theorem hd_drop (l : List E1) (h : l.length ≠ 0) : l = hdE l :: l.drop 1 := by
  cases l with
  | nil => exact absurd rfl h
  | cons x l => rfl
/-- What taking the next entry does. -/
theorem next_spec {ls : List (List E1)} {lost : List Nat} (hf : Fit ls lost) (ht : Tree ls lost) (hl : ∀ l ∈ ls, Ris l ∧ Pos l) :
    (∀ l ∈ (nextG ls lost).1, Ris l ∧ Pos l) ∧ Tree (nextG ls lost).1 (nextG ls lost).2.1 ∧
    ((nextG ls lost).2.2.2 = true → (∀ w, cnt [(nextG ls lost).2.2.1] w + cnt (nextG ls lost).1.flatten w = cnt ls.flatten w) ∧ (nextG ls lost).1.flatten.length + 1 = ls.flatten.length ∧ (nextG ls lost).2.2.1 ∈ ls.flatten ∧ (∀ y ∈ (nextG ls lost).1.flatten, y ∈ ls.flatten) ∧ ∀ y ∈ ls.flatten, Op.bytesLess (key y) (key (nextG ls lost).2.2.1) = false) ∧
    ((nextG ls lost).2.2.2 = false → (nextG ls lost).1.flatten = [] ∧ ls.flatten = []) := by
  obtain ⟨hi, hmin⟩ := top_least hf ht
  unfold nextG
  by_cases h : (at2 ls (lst lost 0)).length = 0
  · rw [if_pos h]
    refine ⟨hl, ht, fun h => by simp at h, fun _ => ?_⟩
    have : ls.flatten = [] := by
      apply List.flatten_eq_nil_iff.2
      intro l hlm
      obtain ⟨j, hj, rfl⟩ := List.getElem_of_mem hlm
      have := hmin j hj
      unfold aheadB at this
      by_cases hz : (at2 ls j).length = 0
      · rw [at2_eq ls j hj] at hz
        exact List.eq_nil_of_length_eq_zero hz
      · rw [if_neg hz, if_pos h] at this
        simp at this
    exact ⟨this, this⟩
  · rw [if_neg h]
    have hat := at2_eq ls (lst lost 0) hi
    have hmem : at2 ls (lst lost 0) ∈ ls := by rw [hat]; exact List.getElem_mem hi
    have hcons := hd_drop _ h
    obtain ⟨hr, hp⟩ := hl _ hmem
    have hsub : ∀ l ∈ ls.set (lst lost 0) ((at2 ls (lst lost 0)).drop 1), ∃ l' ∈ ls, l.Sublist l' := by
      intro l hlm
      rcases List.mem_or_eq_of_mem_set hlm with h | h
      · exact ⟨l, h, List.Sublist.refl _⟩
      · exact ⟨_, hmem, by rw [h]; exact List.drop_sublist _ _⟩
    refine ⟨fun l hlm => ?_, turn_tree hf ht _, fun _ => ⟨fun w => ?_, ?_, ?_, fun y hy => ?_, fun y hy => ?_⟩, fun h => by simp at h⟩
    · obtain ⟨l', h1, h2⟩ := hsub l hlm
      exact ⟨(hl l' h1).1.sublist h2, fun x hx => (hl l' h1).2 x (h2.subset hx)⟩
    · have := flat_set ls (lst lost 0) ((at2 ls (lst lost 0)).drop 1) w hi
      rw [← hat] at this
      have e : cnt (at2 ls (lst lost 0)) w = cnt [hdE (at2 ls (lst lost 0))] w + cnt ((at2 ls (lst lost 0)).drop 1) w := by
        rw [← cnt_append]
        exact congrArg (fun l => cnt l w) hcons
      show cnt [hdE (at2 ls (lst lost 0))] w + cnt (ls.set (lst lost 0) ((at2 ls (lst lost 0)).drop 1)).flatten w = cnt ls.flatten w
      omega
    · have := flat_set_len ls (lst lost 0) ((at2 ls (lst lost 0)).drop 1) hi
      rw [← hat, List.length_drop] at this
      show (ls.set (lst lost 0) ((at2 ls (lst lost 0)).drop 1)).flatten.length + 1 = ls.flatten.length
      omega
    · exact List.mem_flatten.2 ⟨_, hmem, by
        show hdE (at2 ls (lst lost 0)) ∈ at2 ls (lst lost 0)
        rw [hcons]; exact List.mem_cons_self⟩
    · obtain ⟨l, hlm, hyl⟩ := List.mem_flatten.1 hy
      obtain ⟨l', h1, h2⟩ := hsub l hlm
      exact List.mem_flatten.2 ⟨l', h1, h2.subset hyl⟩
    · obtain ⟨l, hlm, hyl⟩ := List.mem_flatten.1 hy
      obtain ⟨j, hj, rfl⟩ := List.getElem_of_mem hlm
      have hz : (at2 ls j).length ≠ 0 := by
        rw [at2_eq ls j hj]
        intro e
        rw [List.eq_nil_of_length_eq_zero e] at hyl
        simp at hyl
      have hm := hmin j hj
      unfold aheadB at hm
      rw [if_neg hz, if_neg h] at hm
      rw [← at2_eq ls j hj] at hyl
      have hrj := (hl _ hlm).1
      rw [← at2_eq ls j hj, hd_drop _ hz] at hrj
      rw [hd_drop _ hz] at hyl
      show Op.bytesLess (key y) (key (hdE (at2 ls (lst lost 0)))) = false
      rcases List.mem_cons.1 hyl with rfl | hyl
      · exact hm
      · exact bl_neg hm (bl_asymm ((List.pairwise_cons.1 hrj).1 y hyl))
/-- How merging stands. -/
structure Inv (E : List E1) (ls : List (List E1)) (lost : List Nat) (x : E1) (b : Bool) (out : List E1) : Prop where
  fit : Fit ls lost
  tree : Tree ls lost
  lists : ∀ l ∈ ls, Ris l ∧ Pos l
  sum : ∀ w, cnt out w + (if b = true then cnt [x] w else 0) + cnt ls.flatten w = cnt E w
  ris : Ris out
  pos : Pos out
  xpos : b = true → 1 ≤ x.f1 ∧ x.f1 ≤ MAXC
  behind : b = true → ∀ y ∈ out, Op.bytesLess (key x) (key y) = false
  ahead : b = true → ∀ y ∈ ls.flatten, Op.bytesLess (key y) (key x) = false
  done : b = false → ls.flatten = []
theorem flat_pos {ls : List (List E1)} (h : ∀ l ∈ ls, Ris l ∧ Pos l) : Pos ls.flatten := fun x hx => by
  obtain ⟨l, h1, h2⟩ := List.mem_flatten.1 hx
  exact (h l h1).2 x h2
/-- With another out, of whose words none is ahead of the entry's, merging stands as well behind the next entry. -/
theorem Inv.next {E : List E1} {ls : List (List E1)} {lost : List Nat} {x : E1} {out out' : List E1} (h : Inv E ls lost x true out) (hs : ∀ w, cnt out' w = cnt out w + cnt [x] w) (hr : Ris out') (hp : Pos out') (hb : ∀ y ∈ out', Op.bytesLess (key x) (key y) = false) :
    Inv E (nextG ls lost).1 (nextG ls lost).2.1 (nextG ls lost).2.2.1 (nextG ls lost).2.2.2 out' := by
  obtain ⟨n1, n2, n3, n4⟩ := next_spec h.fit h.tree h.lists
  refine ⟨h.fit.next, n2, n1, fun w => ?_, hr, hp, fun hn => ?_, fun hn y hy => ?_, fun hn y hy => ?_, fun hn => (n4 hn).1⟩
  · have h1 := h.sum w
    rw [if_pos rfl] at h1
    have h2 := hs w
    cases hn : (nextG ls lost).2.2.2 with
    | true =>
      have h3 := (n3 hn).1 w
      rw [if_pos rfl]
      omega
    | false =>
      have h3 := n4 hn
      rw [if_neg (by simp), h3.1]
      rw [h3.2] at h1
      omega
  · exact flat_pos h.lists _ (n3 hn).2.2.1
  · exact bl_neg (hb y hy) (h.ahead rfl _ (n3 hn).2.2.1)
  · exact (n3 hn).2.2.2.2 y ((n3 hn).2.2.2.1 y hy)
theorem last_app (o : List E1) (z : E1) : lastE (o ++ [z]) = z := by
  unfold lastE
  rw [List.length_append, List.length_singleton, Nat.add_sub_cancel, List.getD_eq_getElem?_getD, List.getElem?_append_right (Nat.le_refl _), Nat.sub_self]
  rfl
theorem set_app (o : List E1) (z v : E1) : (o ++ [z]).set ((o ++ [z]).length - 1) v = o ++ [v] := by
  rw [List.length_append, List.length_singleton, Nat.add_sub_cancel, List.set_append_right _ _ (Nat.le_refl _), Nat.sub_self]
  rfl
theorem merge_res (E : List E1) : ∀ (d : Nat) (ls : List (List E1)) (lost : List Nat) (x : E1) (b : Bool) (out : List E1), Inv E ls lost x b out → ls.flatten.length < d → out.length + d ≤ 1000000 → ∃ r, mergeL d ls lost x b out = some r ∧ Res E r := by
  intro d
  induction d with
  | zero => intro ls lost x b out h hd _; omega
  | succ d ih =>
    intro ls lost x b out h hd hlim
    rw [mergeL]
    cases b with
    | false =>
      rw [if_neg (by simp)]
      refine ⟨_, rfl, .inl ⟨rfl, h.ris, h.pos, fun w => ?_⟩⟩
      have h1 := h.sum w
      rw [if_neg (by simp), h.done rfl] at h1
      rw [show cnt ([] : List E1) w = 0 from rfl] at h1
      show cnt out w = cnt E w
      omega
    | true =>
      rw [if_pos rfl]
      have hx := h.xpos rfl
      have hlen : (nextG ls lost).2.2.2 = true → (nextG ls lost).1.flatten.length + 1 = ls.flatten.length := fun hn => ((next_spec h.fit h.tree h.lists).2.2.1 hn).2.1
      have hlen2 : (nextG ls lost).1.flatten.length < d ∨ (nextG ls lost).2.2.2 = false := by
        cases hn : (nextG ls lost).2.2.2 with
        | true => exact .inl (by have := hlen hn; omega)
        | false => exact .inr rfl
      have go : ∀ out', Inv E (nextG ls lost).1 (nextG ls lost).2.1 (nextG ls lost).2.2.1 (nextG ls lost).2.2.2 out' → out'.length ≤ out.length + 1 → ∃ r, mergeL d (nextG ls lost).1 (nextG ls lost).2.1 (nextG ls lost).2.2.1 (nextG ls lost).2.2.2 out' = some r ∧ Res E r := by
        intro out' hi ho
        rcases hlen2 with hl | hl
        · exact ih _ _ _ _ _ hi hl (by omega)
        · cases d with
          | zero =>
            rw [hl] at hi ⊢
            rw [mergeL, if_neg (by simp)]
            refine ⟨_, rfl, .inl ⟨rfl, hi.ris, hi.pos, fun w => ?_⟩⟩
            have h1 := hi.sum w
            rw [if_neg (by simp), hi.done rfl] at h1
            rw [show cnt ([] : List E1) w = 0 from rfl] at h1
            show cnt out' w = cnt E w
            omega
          | succ d => exact ih _ _ _ _ _ hi (by rw [hi.done hl]; simp) (by omega)
      rcases List.eq_nil_or_concat out with rfl | ⟨o, z, ho⟩
      · rw [if_neg (by simp), if_pos (by simp)]
        refine go _ (h.next (fun w => ?_) (List.pairwise_singleton _ _) (fun y hy => ?_) (fun y hy => ?_)) (by simp)
        · simp [cnt]
        · rw [List.nil_append, List.mem_singleton] at hy; rw [hy]; exact hx
        · rw [List.nil_append, List.mem_singleton] at hy; rw [hy]; exact bl_irrefl _
      · rw [List.concat_eq_append] at ho
        subst ho
        rw [last_app]
        have hri := List.pairwise_append.1 h.ris
        have hz := h.pos z (List.mem_append_right _ List.mem_cons_self)
        have hbz := h.behind rfl z (List.mem_append_right _ List.mem_cons_self)
        have hoz : ∀ y ∈ o, Op.bytesLess (key y) (key z) = true := fun y hy => hri.2.2 y hy z List.mem_cons_self
        have hpo : Pos o := fun y hy => h.pos y (List.mem_append_left _ hy)
        by_cases hk : key z = key x
        · rw [if_pos ⟨by simp, hk⟩, add_f _ _ ⟨by omega, hz.2⟩ ⟨by omega, hx.2⟩, Option.bind_some]
          by_cases hfit : z.f1 + x.f1 ≤ MAXC
          · rw [if_pos hfit, if_pos rfl, set_app]
            refine go _ (h.next (fun w => ?_) ?_ (fun y hy => ?_) (fun y hy => ?_)) (by simp)
            · rw [cnt_append, cnt_append]
              simp only [cnt]
              have : key (⟨z.f0, z.f1 + x.f1⟩ : E1) = key z := rfl
              rw [this, hk]
              split <;> omega
            · refine List.pairwise_append.2 ⟨hri.1, List.pairwise_singleton _ _, fun y hy v hv => ?_⟩
              rw [List.mem_singleton.1 hv]
              exact hoz y hy
            · rcases List.mem_append.1 hy with hy | hy
              · exact hpo y hy
              · rw [List.mem_singleton.1 hy]
                exact ⟨by show 1 ≤ z.f1 + x.f1; omega, hfit⟩
            · rcases List.mem_append.1 hy with hy | hy
              · exact h.behind rfl y (List.mem_append_left _ hy)
              · rw [List.mem_singleton.1 hy]
                exact hbz
          · rw [if_neg hfit, if_neg (by simp)]
            refine ⟨_, rfl, .inr ⟨rfl, key x, ?_⟩⟩
            have h1 := h.sum (key x)
            have h2 := cnt_ge hpo (key x)
            have h3 := cnt_ge (flat_pos h.lists) (key x)
            rw [if_pos rfl, cnt_append] at h1
            simp only [cnt] at h1
            rw [if_pos hk, if_pos trivial] at h1
            omega
        · rw [if_neg (fun h => hk h.2), if_pos (by omega)]
          have hzx : Op.bytesLess (key z) (key x) = true := by
            cases hq : Op.bytesLess (key z) (key x) with
            | true => rfl
            | false => exact absurd (bl_tri _ _ hq hbz) hk
          refine go _ (h.next (fun w => cnt_append _ _ w) ?_ (fun y hy => ?_) (fun y hy => ?_)) (by rw [List.length_append, List.length_singleton]; exact Nat.le_refl _)
          · refine List.pairwise_append.2 ⟨h.ris, List.pairwise_singleton _ _, fun y hy v hv => ?_⟩
            rw [List.mem_singleton.1 hv]
            rcases List.mem_append.1 hy with hy | hy
            · exact bl_trans _ _ _ (hoz y hy) hzx
            · rw [List.mem_singleton.1 hy]
              exact hzx
          · rcases List.mem_append.1 hy with hy | hy
            · exact h.pos y hy
            · rw [List.mem_singleton.1 hy]; exact hx
          · rcases List.mem_append.1 hy with hy | hy
            · exact h.behind rfl y hy
            · rw [List.mem_singleton.1 hy]; exact bl_irrefl _
/-- Which lists may be, one by one. -/
theorem mays_f (k : Nat) : ∀ (ls : List (List E1)), (∀ l ∈ ls, l.length + 2 < k ∧ l.length < 1000000000) → mays k ls = some (((ls.map mayS).find? (· ≠ 0)).getD 0)
  | [], _ => rfl
  | l :: r, h => by
    have h1 := h l List.mem_cons_self
    rw [mays, may_f k l h1.2 h1.1, Option.bind_some, List.map_cons]
    by_cases h0 : mayS l = 0
    · rw [if_pos h0, mays_f k r (fun m hm => h m (List.mem_cons_of_mem _ hm)), List.find?_cons_of_neg (by simpa using h0)]
    · rw [if_neg h0, List.find?_cons_of_pos (by simpa using h0)]
      rfl
def badS (ls : List (List E1)) : Int := ((ls.map mayS).find? (· ≠ 0)).getD 0
theorem badS_zero {ls : List (List E1)} (h : badS ls = 0) : ∀ l ∈ ls, mayS l = 0 := by
  intro l hl
  unfold badS at h
  cases hf : (ls.map mayS).find? (· ≠ 0) with
  | none =>
    have := List.find?_eq_none.1 hf (mayS l) (List.mem_map_of_mem hl)
    simpa using this
  | some v =>
    rw [hf] at h
    have := List.find?_some hf
    simp at this
    exact absurd h this
/-- What merging tells. -/
theorem merge_f (k : Nat) (ls : List (List E1)) (h256 : ls.length ≤ 256) (hl : ∀ l ∈ ls, l.length ≤ 100000) (hk : 200000 < k) (hkl : ls.flatten.length < k) (hk2 : k ≤ 900000) :
    ∃ r, loser_Merge.f k ls = some r ∧ (badS ls = 0 → Res ls.flatten r) ∧ (badS ls ≠ 0 → r = ([], badS ls)) := by
  unfold loser_Merge.f
  rw [if_neg (by omega), mays_f k ls (fun l hm => by have := hl l hm; omega), Option.bind_some]
  show ∃ r, (if badS ls = 0 then _ else _) = some r ∧ _
  by_cases hb : badS ls = 0
  · rw [if_pos hb]
    by_cases h0 : ls.length = 0
    · rw [if_pos h0]
      have : ls = [] := List.eq_nil_of_length_eq_zero h0
      subst this
      exact ⟨_, rfl, fun _ => .inl ⟨rfl, List.Pairwise.nil, fun x hx => by simp at hx, fun w => rfl⟩, fun h => absurd hb h⟩
    · rw [if_neg h0]
      have hlists : ∀ l ∈ ls, Ris l ∧ Pos l := fun l hm => may_ris (badS_zero hb l hm)
      have hfit := growG_fit (ls := ls) (by omega) (by omega)
      have htree := grow_tree ls (by omega)
      obtain ⟨n1, n2, n3, n4⟩ := next_spec hfit htree hlists
      have hinv : Inv ls.flatten (nextG ls (growG ls)).1 (nextG ls (growG ls)).2.1 (nextG ls (growG ls)).2.2.1 (nextG ls (growG ls)).2.2.2 [] := by
        refine ⟨hfit.next, n2, n1, fun w => ?_, List.Pairwise.nil, fun x hx => by simp at hx, fun hn => flat_pos hlists _ (n3 hn).2.2.1, fun hn y hy => by simp at hy, fun hn y hy => (n3 hn).2.2.2.2 y ((n3 hn).2.2.2.1 y hy), fun hn => (n4 hn).1⟩
        rw [show cnt ([] : List E1) w = 0 from rfl]
        cases hn : (nextG ls (growG ls)).2.2.2 with
        | true =>
          have := (n3 hn).1 w
          rw [if_pos rfl]
          omega
        | false =>
          have := n4 hn
          rw [if_neg (by simp), this.1, this.2]
          rfl
      have hlt : (nextG ls (growG ls)).1.flatten.length < k := by
        cases hn : (nextG ls (growG ls)).2.2.2 with
        | true => have := (n3 hn).2.1; omega
        | false => rw [(n4 hn).1]; simp; omega
      obtain ⟨r, h1, h2⟩ := merge_res ls.flatten k _ _ _ _ [] hinv hlt (by simp; omega)
      exact ⟨r, h1, fun _ => h2, fun h => absurd hb h⟩
  · rw [if_neg hb]
    exact ⟨_, rfl, fun h => absurd h hb, fun _ => rfl⟩
end Go.Proofs.Ytlngljddjlmkfaa.LoserLib
