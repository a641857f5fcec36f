/- Plain laws of records: records one behind the other, cut anywhere, are scanned as those that are whole. -/
import Derived.Test.YtlodjdghccejcaaFrameScan
namespace Go.Proofs.Ytlodjdghccejcaa.FrameLib
open Go.RowKit Go.Proofs.Ytlodjdghccejcaa.PFj Go.Proofs.YtlodjdghccejcaaW.PrintWords Go.Proofs.YtlodjdghccejcaaW.PrintLast Go.Proofs.Ytlodjdghccejcaa.NumLib

/-- Records one behind the other. -/
def recs : List (List Int) → List Int
  | [] => []
  | p :: r => recL p ++ recs r
theorem recs_append : ∀ a b : List (List Int), recs (a ++ b) = recs a ++ recs b
  | [], b => rfl
  | p :: r, b => by rw [List.cons_append, recs, recs_append r b, recs, List.append_assoc]
def Small (R : List (List Int)) : Prop := ∀ p ∈ R, p.length ≤ 1000 ∧ Bytes p
theorem small_take {R : List (List Int)} (h : Small R) (n : Nat) : Small (R.take n) := fun p hp => h p (List.mem_of_mem_take hp)
theorem rec_le {p : List Int} (h : p.length ≤ 1000) : (recL p).length ≤ 1014 ∧ 5 ≤ (recL p).length := by
  have hl := putn_len p.length (by omega) (by omega)
  rw [rec_len]
  omega
theorem recs_le : ∀ R : List (List Int), Small R → (recs R).length ≤ 1014 * R.length
  | [], _ => by simp [recs]
  | p :: r, h => by
    have h1 := rec_le (h p List.mem_cons_self).1
    have h2 := recs_le r (fun q hq => h q (List.mem_cons_of_mem _ hq))
    rw [recs, List.length_append, List.length_cons]
    omega
theorem recs_bytes : ∀ R : List (List Int), Small R → Bytes (recs R)
  | [], _ => by intro x hx; simp [recs] at hx
  | p :: r, h => by
    have h1 := h p List.mem_cons_self
    rw [recs]
    exact bytes_append (rec_bytes p h1.2 (by omega)) (recs_bytes r (fun q hq => h q (List.mem_cons_of_mem _ hq)))
theorem getR_nil : (getR []).2.2 ≠ 0 := by
  have := getR_cut [] (by decide) 0 (by rw [rec_len]; simp)
  rw [List.take_zero] at this
  exact this
/-- Where the records end, after so many. -/
def upTo (R : List (List Int)) (j : Nat) : Nat := (recs (R.take j)).length
theorem upTo_zero (R : List (List Int)) : upTo R 0 = 0 := by simp [upTo, recs]
theorem upTo_succ (R : List (List Int)) (j : Nat) (hj : j < R.length) : upTo R (j + 1) = upTo R j + (recL R[j]).length := by
  unfold upTo
  rw [List.take_add_one, List.getElem?_eq_getElem hj, recs_append, List.length_append]
  simp [recs]
theorem upTo_mono (R : List (List Int)) {i j : Nat} (hij : i ≤ j) : upTo R i ≤ upTo R j := by
  unfold upTo
  have : R.take j = R.take i ++ (R.take j).drop i := by
    have h := List.take_append_drop i (R.take j)
    rw [List.take_take, Nat.min_eq_left hij] at h
    exact h.symm
  rw [this, recs_append, List.length_append]
  exact Nat.le_add_right _ _
theorem scan_tail : ∀ (R : List (List Int)) (d : Nat) (z : List Int), Small R → R.length < d → (getR z).2.2 ≠ 0 → scanN d (recs R ++ z) = (R, (recs R).length)
  | [], d + 1, z, _, _, hz => by
    rw [scanN, recs, List.nil_append, if_neg hz]
    rfl
  | p :: r, d + 1, z, h, hd, hz => by
    rw [List.length_cons] at hd
    have h1 := h p List.mem_cons_self
    rw [scanN, recs, List.append_assoc, getR_rec p _ (by omega)]
    simp only [if_true, Int.toNat_natCast]
    rw [List.drop_left, scan_tail r d z (fun q hq => h q (List.mem_cons_of_mem _ hq)) (by omega) hz, List.length_append]
theorem scan_cut : ∀ (R : List (List Int)) (c d : Nat), Small R → R.length < d → ∃ m, m ≤ R.length ∧ scanN d ((recs R).take c) = (R.take m, upTo R m) ∧ (m = 0 ∨ upTo R m ≤ c) ∧ (m < R.length → c < upTo R (m + 1))
  | [], c, d + 1, _, _ => by
    refine ⟨0, Nat.le_refl _, ?_, .inl rfl, fun h => absurd h (by simp)⟩
    rw [scanN, recs, List.take_nil, if_neg getR_nil]
    simp [upTo, recs]
  | p :: r, c, d + 1, h, hd => by
    rw [List.length_cons] at hd
    have h1 := h p List.mem_cons_self
    have hr : Small r := fun q hq => h q (List.mem_cons_of_mem _ hq)
    by_cases hc : c < (recL p).length
    · refine ⟨0, Nat.zero_le _, ?_, .inl rfl, fun _ => ?_⟩
      · rw [scanN, recs, List.take_append_of_le_length (by omega), if_neg (getR_cut p (by omega) c hc)]
        simp [upTo, recs]
      · rw [upTo_succ _ _ (by simp), upTo_zero]
        simp only [List.getElem_cons_zero]
        omega
    · obtain ⟨m, m1, m2, m3, m4⟩ := scan_cut r (c - (recL p).length) d hr (by omega)
      have hup : ∀ j, upTo (p :: r) (j + 1) = (recL p).length + upTo r j := fun j => by
        unfold upTo
        rw [List.take_succ_cons, recs, List.length_append]
      refine ⟨m + 1, by simpa using m1, ?_, .inr ?_, fun hm => ?_⟩
      · rw [scanN, recs, List.take_append, List.take_of_length_le (by omega), getR_rec p _ (by omega)]
        simp only [if_true, Int.toNat_natCast]
        rw [List.drop_left, m2, hup]
        rfl
      · rw [hup]
        rcases m3 with rfl | m3
        · rw [upTo_zero]; omega
        · omega
      · rw [hup]
        have := m4 (by simpa using hm)
        omega
theorem rd_L1_get (x : List (List Int)) (i : Nat) (hi : i < x.length) : rd_L1 x i = x[i] := by
  unfold rd_L1
  rw [Int.toNat_natCast, List.getD_eq_getElem?_getD, List.getElem?_eq_getElem hi]
  rfl
/-- The records of the first 20, and where each ends. -/
theorem rows_l0 (x : List (List Int)) (hx : Small (x.take 20)) (d : Nat) : ∀ (k i : Nat), d + 30 < k → i ≤ 20 → i ≤ x.length → min 20 x.length = i + d →
    manteletlaw03_rows.l0 k x (recs (x.take i)) ((List.range i).map fun j => (upTo x (j + 1) : Int)) i = some (recs (x.take (min 20 x.length)), (List.range (min 20 x.length)).map fun j => (upTo x (j + 1) : Int)) := by
  induction d with
  | zero =>
    intro k i hk h20 hi he
    obtain ⟨k, rfl⟩ : ∃ m, k = m + 1 := ⟨k - 1, by omega⟩
    rw [manteletlaw03_rows.l0]
    by_cases h : (i : Int) < (x.length : Int)
    · rw [if_pos h, if_neg (by omega), he]; rfl
    · rw [if_neg h, he]; rfl
  | succ d ih =>
    intro k i hk h20 hi he
    obtain ⟨k, rfl⟩ : ∃ m, k = m + 1 := ⟨k - 1, by omega⟩
    have hil : i < x.length := by omega
    have hw : wrap64 ((i : Int) + 1) = ((i + 1 : Nat) : Int) := by unfold wrap64; omega
    have hp := hx x[i] (List.mem_take_iff_getElem.2 ⟨i, by omega, rfl⟩)
    have hsm : Small (x.take i) := fun p hp => hx p (by
      rw [show x.take i = (x.take 20).take i by rw [List.take_take, Nat.min_eq_left (by omega)]] at hp
      exact List.mem_of_mem_take hp)
    have hle := recs_le _ hsm
    rw [List.length_take] at hle
    have ee : recs (x.take i) ++ recL x[i] = recs (x.take (i + 1)) := by
      rw [List.take_add_one, List.getElem?_eq_getElem hil, recs_append]
      simp [recs]
    have e2 : (List.range i).map (fun j => (upTo x (j + 1) : Int)) ++ [((recs (x.take (i + 1))).length : Int)] = (List.range (i + 1)).map fun j => (upTo x (j + 1) : Int) := by
      rw [List.range_succ, List.map_append]
      rfl
    rw [manteletlaw03_rows.l0, if_pos (by omega), if_pos (by omega), if_pos (by omega), rd_L1_get x i hil, put_f k (by omega) _ _ hp.2 (by omega) (by omega), Option.bind_some]
    simp only
    rw [if_pos (by rw [List.length_map, List.length_range]; omega), hw, ee, e2]
    exact ih k (i + 1) (by omega) (by omega) (by omega) (by omega)
theorem rows_f (x : List (List Int)) (hx : Small (x.take 20)) (k : Nat) (hk : 60 < k) : manteletlaw03_rows.f k x = some (recs (x.take 20), (List.range (min 20 x.length)).map fun j => (upTo x (j + 1) : Int)) := by
  unfold manteletlaw03_rows.f
  have := rows_l0 x hx (min 20 x.length) k 0 (by omega) (by omega) (by omega) (by omega)
  rw [show recs (x.take 0) = [] by simp [recs]] at this
  have e : x.take (min 20 x.length) = x.take 20 := by
    rcases Nat.le_total 20 x.length with h | h
    · rw [Nat.min_eq_left h]
    · rw [Nat.min_eq_right h, List.take_of_length_le (Nat.le_refl _), List.take_of_length_le h]
  rw [e] at this
  exact this
end Go.Proofs.Ytlodjdghccejcaa.FrameLib
