/- Records behind records are scanned as both; ahead of what is none they end there: for all payloads. -/
import Derived.Test.YtlodjdghccejcaaFrameRows
namespace Go.Proofs.Ytlodjdghccejcaa.Pure
open Go.RowKit Go.Proofs.Ytlodjdghccejcaa.PFj Go.Proofs.YtlodjdghccejcaaW.PrintWords Go.Proofs.YtlodjdghccejcaaW.PrintLast Go.Proofs.YtlodjdghccejcaaW.PrintMore Go.Proofs.Ytlodjdghccejcaa.NumLib Go.Proofs.Ytlodjdghccejcaa.FrameLib
set_option linter.unusedVariables false
set_option linter.unusedSimpArgs false

theorem small_app {a b : List (List Int)} (ha : Small a) (hb : Small b) : Small (a ++ b) := fun p hp => by
  rcases List.mem_append.1 hp with h | h
  · exact ha p h
  · exact hb p h
theorem small_len : ∀ R : List (List Int), Small R → R.length ≤ (recs R).length
  | [], _ => by simp [recs]
  | p :: r, h => by
    have := small_len r (fun q hq => h q (List.mem_cons_of_mem _ hq))
    have h3 := rec_le (h p List.mem_cons_self).1
    rw [recs, List.length_append, List.length_cons]
    omega
theorem scan_all (R : List (List Int)) (z : List Int) (hR : Small R) (hn : R.length ≤ 40) (hz : Bytes z) (hzl : z.length ≤ 2) (h : (getR z).2.2 ≠ 0) (k : Nat) (hk : 60000 < k) : frame_Scan.f k (recs R ++ z) = some (R, ((recs R).length : Int)) := by
  have hle := recs_le R hR
  have hlen : (recs R ++ z).length ≤ 40562 := by rw [List.length_append]; omega
  rw [scan_f _ (bytes_append (recs_bytes R hR) hz) (by omega) k (by omega), scan_tail R _ z hR (by have := small_len R hR; rw [List.length_append]; omega) h]
theorem take_mn (x : List (List Int)) : 0 ≤ mn (x.length : Int) 20 ∧ mn (x.length : Int) 20 ≤ (x.length : Int) ∧ x.take (mn (x.length : Int) 20).toNat = x.take 20 := by
  unfold mn
  by_cases h : (20 : Int) < (x.length : Int)
  · rw [if_pos h]
    exact ⟨by omega, by omega, rfl⟩
  · rw [if_neg h, Int.toNat_natCast, List.take_of_length_le (Nat.le_refl _), List.take_of_length_le (by omega)]
    exact ⟨by omega, by omega, rfl⟩
theorem wild : (getR [255, 255]).2.2 ≠ 0 := by decide +kernel
theorem joins_end (x y : List (List Int)) (hx : Small (x.take 20)) (hy : Small (y.take 20)) (i : Int) (k : Nat) (hk : 60000 < k) : manteletlaw03_FrameJoins.j3 (k + 1) x y true i false = some true := by
  have lx := recs_le _ hx
  have ly := recs_le _ hy
  rw [List.length_take] at lx ly
  obtain ⟨x1, x2, x3⟩ := take_mn x
  obtain ⟨y1, y2, y3⟩ := take_mn y
  have sb := scan_all (x.take 20 ++ y.take 20) [] (small_app hx hy) (by rw [List.length_append, List.length_take, List.length_take]; omega) (fun z hz => by simp at hz) (by simp) getR_nil k hk
  rw [List.append_nil, recs_append, List.length_append] at sb
  have sw := scan_all (x.take 20) [255, 255] hx (by rw [List.length_take]; omega) (fun z hz => by simp at hz; omega) (by simp) wild k hk
  have hw : wrap64 (((recs (x.take 20)).length : Int) + ((recs (y.take 20)).length : Int)) = (((recs (x.take 20)).length + (recs (y.take 20)).length : Nat) : Int) := by unfold wrap64; omega
  have e1 : ([] : List (List Int)).length + (x.take 20).length < 5864062014805 := by rw [List.length_take, List.length_nil]; omega
  have e2 : (x.take 20).length + (y.take 20).length < 5864062014805 := by rw [List.length_take, List.length_take]; omega
  have b1 : ([] : List Int).length + (recs (x.take 20)).length < 140737488355328 := by rw [List.length_nil]; omega
  have b2 : (recs (x.take 20)).length + (recs (y.take 20)).length < 140737488355328 := by omega
  have b3 : (recs (x.take 20)).length + ([255, 255] : List Int).length < 140737488355328 := by simp only [List.length_cons, List.length_nil]; omega
  rw [manteletlaw03_FrameJoins.j3, if_neg (by simp), rows_f x hx k (by omega), Option.bind_some, rows_f y hy k (by omega), Option.bind_some]
  simp only
  rw [Option.bind_some, if_pos b1, Option.bind_some, List.nil_append, if_pos b2, sb, Option.bind_some, Option.bind_some, if_pos b1, Option.bind_some, Option.bind_some, List.nil_append, if_pos b3, sw, Option.bind_some]
  simp only
  rw [if_pos trivial, hw, if_pos rfl, if_pos trivial, Option.bind_some, if_pos x1, if_pos x2, Option.bind_some, x3, if_pos e1, Option.bind_some, List.nil_append, if_pos y1, if_pos y2, Option.bind_some, y3, if_pos e2, lists_f _ (by rw [List.length_append, List.length_take, List.length_take]; omega) k (by rw [List.length_append, List.length_take, List.length_take]; omega), Option.bind_some, if_pos rfl, lists_f _ (by rw [List.length_take]; omega) k (by rw [List.length_take]; omega), Option.bind_some]
theorem joins_l1 (x y : List (List Int)) (hx : Small (x.take 20)) (hyb : ∀ p ∈ y, Bytes p) : ∀ (d i k : Nat), i + d = min 20 y.length → 70000 + 2 * d < k → (∀ p ∈ y.take i, p.length ≤ 1000) → manteletlaw03_FrameJoins.l1 k x y true i = some true := by
  intro d
  induction d with
  | zero =>
    intro i k hi hk h
    obtain ⟨k, rfl⟩ : ∃ m, k = m + 2 := ⟨k - 2, by omega⟩
    have hy : Small (y.take 20) := fun p hp => by
      have e : y.take 20 = y.take i := by
        rcases Nat.le_total 20 y.length with h | h
        · rw [show i = 20 by omega]
        · rw [List.take_of_length_le h, List.take_of_length_le (by omega)]
      rw [e] at hp
      exact ⟨h p hp, hyb p (List.mem_of_mem_take hp)⟩
    rw [manteletlaw03_FrameJoins.l1]
    by_cases hl : (i : Int) < (y.length : Int)
    · rw [if_pos hl, decide_eq_false (by omega)]
      exact joins_end x y hx hy i k (by omega)
    · rw [if_neg hl]
      exact joins_end x y hx hy i k (by omega)
  | succ d ih =>
    intro i k hi hk h
    obtain ⟨k, rfl⟩ : ∃ m, k = m + 2 := ⟨k - 2, by omega⟩
    have hil : i < y.length := by omega
    have hlt : (i : Int) < 20 := by omega
    have hw : wrap64 ((i : Int) + 1) = ((i + 1 : Nat) : Int) := by unfold wrap64; omega
    rw [manteletlaw03_FrameJoins.l1, if_pos (by omega), decide_eq_true hlt, manteletlaw03_FrameJoins.j3, if_pos rfl, if_pos (by omega), if_pos (by omega), rd_L1_get y i hil, hw]
    by_cases hb : (y[i].length : Int) > 1000
    · rw [if_pos hb]
    · rw [if_neg hb]
      refine ih (i + 1) k (by omega) (by omega) (fun p hp => ?_)
      rw [List.take_add_one, List.getElem?_eq_getElem hil] at hp
      rcases List.mem_append.1 hp with hp | hp
      · exact h p hp
      · have : p = y[i] := by simpa using hp
        rw [this]; omega
theorem joins_l0 (x y : List (List Int)) (hxb : ∀ p ∈ x, Bytes p) (hyb : ∀ p ∈ y, Bytes p) : ∀ (d i k : Nat), i + d = min 20 x.length → 80000 + 2 * d < k → (∀ p ∈ x.take i, p.length ≤ 1000) → manteletlaw03_FrameJoins.l0 k x y true i = some true := by
  intro d
  induction d with
  | zero =>
    intro i k hi hk h
    obtain ⟨k, rfl⟩ : ∃ m, k = m + 2 := ⟨k - 2, by omega⟩
    have hx : Small (x.take 20) := fun p hp => by
      have e : x.take 20 = x.take i := by
        rcases Nat.le_total 20 x.length with h | h
        · rw [show i = 20 by omega]
        · rw [List.take_of_length_le h, List.take_of_length_le (by omega)]
      rw [e] at hp
      exact ⟨h p hp, hxb p (List.mem_of_mem_take hp)⟩
    have hfin := joins_l1 x y hx hyb (min 20 y.length) 0 k (by omega) (by omega) (fun p hp => by simp at hp)
    rw [manteletlaw03_FrameJoins.l0]
    by_cases hl : (i : Int) < (x.length : Int)
    · rw [if_pos hl, decide_eq_false (by omega), manteletlaw03_FrameJoins.j1, if_neg (by simp)]
      exact hfin
    · rw [if_neg hl, manteletlaw03_FrameJoins.j1, if_neg (by simp)]
      exact hfin
  | succ d ih =>
    intro i k hi hk h
    obtain ⟨k, rfl⟩ : ∃ m, k = m + 2 := ⟨k - 2, by omega⟩
    have hil : i < x.length := by omega
    have hlt : (i : Int) < 20 := by omega
    have hw : wrap64 ((i : Int) + 1) = ((i + 1 : Nat) : Int) := by unfold wrap64; omega
    rw [manteletlaw03_FrameJoins.l0, if_pos (by omega), decide_eq_true hlt, manteletlaw03_FrameJoins.j1, if_pos rfl, if_pos (by omega), if_pos (by omega), rd_L1_get x i hil, hw]
    by_cases hb : (x[i].length : Int) > 1000
    · rw [if_pos hb]
    · rw [if_neg hb]
      refine ih (i + 1) k (by omega) (by omega) (fun p hp => ?_)
      rw [List.take_add_one, List.getElem?_eq_getElem hil] at hp
      rcases List.mem_append.1 hp with hp | hp
      · exact h p hp
      · have : p = x[i] := by simpa using hp
        rw [this]; omega
theorem FrameJoins (l0 l1 : List (List Int)) (w0 : l0.length ≤ maxLen ∧ ∀ x ∈ l0, x.length ≤ maxLen ∧ ∀ y ∈ x, (Lit.int .u8 y).wf = true) (w1 : l1.length ≤ maxLen ∧ ∀ x ∈ l1, x.length ≤ maxLen ∧ ∀ y ∈ x, (Lit.int .u8 y).wf = true) : ∃ k, manteletlaw03_FrameJoins.f k l0 l1 = some true := by
  refine ⟨100000, ?_⟩
  unfold manteletlaw03_FrameJoins.f
  rw [show manteletlaw03_shown.f = some true from rfl, Option.bind_some]
  exact joins_l0 l0 l1 (fun p hp z hz => wf_byte ((w0.2 p hp).2 z hz)) (fun p hp z hz => wf_byte ((w1.2 p hp).2 z hz)) (min 20 l0.length) 0 100000 (by omega) (by omega) (fun p hp => by simp at hp)
end Go.Proofs.Ytlodjdghccejcaa.Pure
