/- Plain laws of records, on: the reference's get; what was put is got; what was cut is short. -/
import Derived.Test.YtnnlmackofopeaaDoorFrameLib
namespace Go.Proofs.YtnnlmackofopeaaDoor.FrameLib
open Go.RowKit Go.Proofs.YtnnlmackofopeaaDoor.PFr Go.Proofs.YtnnlmackofopeaaDoorW.PrintWords Go.Proofs.YtnnlmackofopeaaDoorW.PrintLast Go.Proofs.YtnnlmackofopeaaDoor.NumLib

theorem rec_len (p : List Int) : (recL p).length = (putn p.length).length + p.length + 4 := by
  unfold recL
  rw [List.length_append, List.length_append, sum_len]
theorem rec_bytes (p : List Int) (hp : Bytes p) (h : p.length ≤ 1048576) : Bytes (recL p) := by
  unfold recL
  exact bytes_append (bytes_append (putn_bytes _ (by omega) (by omega)) hp) (sum_bytes p)
/-- What is got lies at the begin: a record. -/
theorem getR_ok (l : List Int) (hl : Bytes l) (p : List Int) (n : Int) (h : getR l = (p, n, 0)) : p.length ≤ 1048576 ∧ Bytes p ∧ n = (recL p).length ∧ n ≤ l.length ∧ l.take n.toNat = recL p ∧ 5 ≤ n := by
  unfold getR at h
  rcases hg : NumLib.get l with ⟨x, i, e⟩
  rw [hg] at h
  simp only at h
  by_cases he : e = 0
  · subst he
    obtain ⟨i1, i2, x0, x1, hput⟩ := NumLib.get_ok l hl x i hg
    rw [if_neg (show ¬ ((0 : Int) ≠ 0) by simp)] at h
    by_cases hx : x > 1048576
    · rw [if_pos hx] at h; simp at h
    · rw [if_neg hx] at h
      by_cases hs : (l.length : Int) < i + x + 4
      · rw [if_pos hs] at h; simp at h
      · rw [if_neg hs] at h
        by_cases heq : (l.take (i + x + 4).toNat).drop (i + x).toNat = sumL ((l.take (i + x).toNat).drop i.toNat)
        · rw [if_pos heq] at h
          obtain ⟨rfl, rfl⟩ : (l.take (i + x).toNat).drop i.toNat = p ∧ i + x + 4 = n := by simpa using h
          have hpl : ((l.take (i + x).toNat).drop i.toNat).length = x.toNat := by rw [List.length_drop, List.length_take]; omega
          have e1 : (i + x + 4).toNat = (i + x).toNat + 4 := by omega
          have e2 : l.take (i + x + 4).toNat = recL ((l.take (i + x).toNat).drop i.toNat) := by
            unfold recL
            rw [hpl, Int.toNat_of_nonneg x0, hput, ← heq]
            have a1 : l.take i.toNat = (l.take (i + x).toNat).take i.toNat := by rw [List.take_take, Nat.min_eq_left (by omega)]
            have a2 : l.take (i + x).toNat = (l.take (i + x + 4).toNat).take (i + x).toNat := by rw [List.take_take, Nat.min_eq_left (by omega)]
            rw [a1, List.take_append_drop, a2, List.take_append_drop]
          have e3 : ((recL ((l.take (i + x).toNat).drop i.toNat)).length : Int) = i + x + 4 := by
            rw [← e2, List.length_take]
            omega
          exact ⟨by omega, bytes_drop (bytes_take hl _) _, e3.symm, by omega, e2, by omega⟩
        · rw [if_neg heq] at h; simp at h
  · rw [if_pos he] at h
    simp at h
    omega
theorem getR_bad (l : List Int) (p : List Int) (n e : Int) (h : getR l = (p, n, e)) (he : e ≠ 0) : p = [] ∧ n = 0 := by
  unfold getR at h
  split at h
  · simp at h; exact ⟨h.1, h.2.1.symm⟩
  · split at h
    · simp at h; exact ⟨h.1, h.2.1.symm⟩
    · split at h
      · simp at h; exact ⟨h.1, h.2.1.symm⟩
      · split at h
        · simp at h; omega
        · simp at h; exact ⟨h.1, h.2.1.symm⟩
/-- What was put is got, whatever stands behind. -/
theorem getR_rec (p b : List Int) (hp : p.length ≤ 1048576) : getR (recL p ++ b) = (p, ((recL p).length : Int), 0) := by
  have hl := putn_len p.length (by omega) (by omega)
  have hg : NumLib.get (recL p ++ b) = ((p.length : Int), ((putn p.length).length : Int), 0) := by
    unfold recL
    rw [List.append_assoc, List.append_assoc]
    exact NumLib.get_put p.length (by omega) (by omega) _
  have hr := rec_len p
  unfold getR
  rw [hg]
  simp only
  generalize hq : (putn p.length).length = q at *
  have n1 : ((q : Int) + (p.length : Int)).toNat = q + p.length := by omega
  have n2 : ((q : Int) + (p.length : Int) + 4).toNat = q + p.length + 4 := by omega
  have n3 : (q : Int).toNat = q := by omega
  have t1 : (recL p ++ b).take (q + p.length) = putn p.length ++ p := by
    unfold recL
    rw [List.append_assoc, List.append_assoc, ← List.append_assoc (putn p.length), List.take_left' (by rw [List.length_append]; omega)]
  have t2 : (recL p ++ b).take (q + p.length + 4) = recL p := List.take_left' (by omega)
  have t3 : (recL p).drop (q + p.length) = sumL p := by
    unfold recL
    rw [List.drop_left' (by rw [List.length_append]; omega)]
  have t4 : (putn p.length ++ p).drop q = p := by rw [List.drop_left' hq]
  rw [n1, n2, n3, t1, t2, t3, t4, if_neg (show ¬ ((0 : Int) ≠ 0) by simp), if_neg (by omega), if_neg (by rw [List.length_append, hr]; omega), if_pos rfl, hr]
  congr 2
/-- A record without its end is none. -/
theorem getR_cut (p : List Int) (hp : p.length ≤ 1048576) (k : Nat) (hk : k < (recL p).length) : (getR ((recL p).take k)).2.2 ≠ 0 := by
  have hl := putn_len p.length (by omega) (by omega)
  have hr := rec_len p
  intro h0
  by_cases hq : k < (putn p.length).length
  · obtain ⟨c, hc, hlc, hs, _⟩ := put_spec 9 p.length (by omega) (by omega)
    have e : (recL p).take k = (putn p.length).take k := by
      unfold recL
      rw [List.append_assoc, List.take_append_of_le_length (by omega)]
    have hs0 := hs []
    rw [List.append_nil] at hs0
    have hlc' : (putn p.length).length = c + 1 := hlc
    have hsh := scan_short 10 c (putn p.length) hs0 (by omega) k (by omega)
    have hg : NumLib.get ((putn p.length).take k) = (0, 0, 3) := by
      unfold NumLib.get
      rw [hsh]
    unfold getR at h0
    rw [e, hg] at h0
    simp at h0
  · have e : (recL p).take k = putn p.length ++ (p ++ sumL p).take (k - (putn p.length).length) := by
      unfold recL
      rw [List.append_assoc, List.take_append, List.take_of_length_le (by omega)]
    have hg : NumLib.get ((recL p).take k) = ((p.length : Int), ((putn p.length).length : Int), 0) := by
      rw [e]
      exact NumLib.get_put p.length (by omega) (by omega) _
    unfold getR at h0
    rw [hg] at h0
    simp only at h0
    rw [if_neg (show ¬ ((0 : Int) ≠ 0) by simp), if_neg (by omega), if_pos (by rw [List.length_take]; omega)] at h0
    exact absurd h0 (by decide)
where
  scan_short : ∀ (k c : Nat) (l : List Int), scanL k l = some c → c < k → ∀ i, i ≤ c → scanL k (l.take i) = none
    | 0, c, l, _, h, _, _ => by omega
    | k + 1, c, [], hs, _, _, _ => by simp [scanL] at hs
    | k + 1, c, x :: t, hs, h, 0, _ => by simp [scanL]
    | k + 1, c, x :: t, hs, h, i + 1, hi => by
      rw [scanL] at hs
      rw [List.take_succ_cons, scanL]
      by_cases hx : x < 128
      · rw [if_pos hx] at hs
        have := Option.some.inj hs
        omega
      · rw [if_neg hx] at hs
        rw [if_neg hx]
        cases hs2 : scanL k t with
        | none => rw [hs2] at hs; simp at hs
        | some d =>
          rw [hs2] at hs
          simp at hs
          rw [scan_short k d t hs2 (by omega) i (by omega)]
          rfl
end Go.Proofs.YtnnlmackofopeaaDoor.FrameLib
