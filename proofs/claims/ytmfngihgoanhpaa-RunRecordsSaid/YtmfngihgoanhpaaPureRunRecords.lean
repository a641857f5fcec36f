/- A run is one record of its size, one for each block, as many as there need be, and one at its end: for all entries. -/
import Derived.Test.YtmfngihgoanhpaaRunSize
import Derived.Test.YtmfngihgoanhpaaFrameRef
import Derived.Test.YtmfngihgoanhpaaPRunx15
namespace Go.Proofs.Ytmfngihgoanhpaa.Pure
open Go.RowKit Go.Proofs.Ytmfngihgoanhpaa.PRun Go.Proofs.YtmfngihgoanhpaaW.PrintWords Go.Proofs.YtmfngihgoanhpaaW.PrintLast Go.Proofs.YtmfngihgoanhpaaW.PrintMore Go.Proofs.Ytmfngihgoanhpaa.NumLib Go.Proofs.Ytmfngihgoanhpaa.FrameLib Go.Proofs.Ytmfngihgoanhpaa.RunLib
set_option linter.unusedVariables false
set_option linter.unusedSimpArgs false

theorem putn_head (n : Nat) (h : n ≤ 255) : wrap64 (Int.tmod (rd (putn (n : Int)) 0) 128) = Int.tmod (n : Int) 128 := by
  rw [Int.tmod_eq_emod_of_nonneg (show 0 ≤ (n : Int) by omega)]
  unfold putn
  rw [put]
  by_cases h1 : (n : Int) ≥ 128
  · rw [if_pos h1, show rd (((n : Int) % 128 + 128) :: put 8 ((n : Int) / 128)) 0 = (n : Int) % 128 + 128 from rfl, Int.tmod_eq_emod_of_nonneg (by omega)]
    unfold wrap64
    omega
  · rw [if_neg h1, show rd [(n : Int)] 0 = (n : Int) from rfl, Int.tmod_eq_emod_of_nonneg (by omega)]
    unfold wrap64
    omega
theorem rows_last (a z : List Int) (bs : List (List Int)) : rd_L4 ((a :: bs) ++ [z]) (((bs.length + 1 : Nat)) : Int) = z := by
  rw [rdL_eq _ _ (by simp)]
  rw [List.getElem_append_right (by simp)]
  simp
theorem putn_zero : putn 0 = [0] := rfl
theorem rec_w1 (a n : Nat) (h : a ≤ 200) (h1 : 1 ≤ n) (h2 : n ≤ 255) : wrap64 (wrap64 ((a : Int) + (n : Int)) - 1) = ((a + n - 1 : Nat) : Int) := by unfold wrap64; omega
theorem rec_w2 (q : Nat) (hq : q ≤ 500) : wrap64 (wrap64 (q : Int) + 2) = ((q + 2 : Nat) : Int) := by unfold wrap64; omega
theorem rec_w3 (r : Nat) (h2 : 2 ≤ r) (h : r ≤ 502) : wrap64 ((r : Int) - 1) = ((r - 1 : Nat) : Int) := by unfold wrap64; omega
theorem rec_fin (R : List (List Int)) (n : Nat) (x : Int) (hx : x = (R.length : Int)) (hR2 : 2 ≤ R.length) (hR3 : R.length ≤ 502) (r0 : rd_L4 R 0 = putn (n : Int)) (p0 : 1 ≤ (putn (n : Int)).length ∧ (putn (n : Int)).length ≤ 10) (hh : wrap64 (Int.tmod (rd (putn (n : Int)) 0) 128) = Int.tmod (n : Int) 128)
    (w3 : wrap64 ((R.length : Int) - 1) = ((R.length - 1 : Nat) : Int)) {z : List Int} {q : Nat} (rl : rd_L4 R ((R.length - 1 : Nat) : Int) = z) (hll : z.length = 1 + q) (pl : 1 ≤ q ∧ q ≤ 10) (hz : rd z 0 = 0) :
    (if (R.length : Int) = x then (if 0 < (R.length : Int) then (if ((rd_L4 R 0).length : Int) ≥ 1 then (if 0 < ((rd_L4 R 0).length : Int) then (if (wrap64 (Int.tmod (rd (rd_L4 R 0) 0) 128)) = (Int.tmod (n : Int) 128) then (if 0 ≤ (wrap64 ((R.length : Int) - 1)) then (if (wrap64 ((R.length : Int) - 1)) < (R.length : Int) then (if ((rd_L4 R (wrap64 ((R.length : Int) - 1))).length : Int) ≥ 2 then (if 0 < ((rd_L4 R (wrap64 ((R.length : Int) - 1))).length : Int) then (some ((rd (rd_L4 R (wrap64 ((R.length : Int) - 1))) 0) == 0)) else (none)) else (none)) else (none)) else (none)) else (none)) else (none)) else (none)) else (none)) else (none)) = some true := by
  rw [if_pos hx.symm, r0, w3, rl, if_pos (by omega), if_pos (by omega), if_pos (by omega), if_pos hh, if_pos (by omega), if_pos (by omega), if_pos (by omega), if_pos (by omega), hz]
  rfl
theorem records_j0 (l : List S44) (hm : mayS l = 0) (hl : l.length ≤ 200) (a : Int) (ha : (Lit.int .u8 a).wf = true) (k : Nat) (hk : 1900000 < k) : manteletlaw09_RunRecords.j0 (k + 1) l a true false = some true := by
  obtain ⟨n, h1, h2, e1, q1⟩ := size_of a ha
  have hf := (mayS_zero hm).1
  have hn := encB_len l hf (by omega) n h2 h1
  have hok := encR_ok l hf (by omega) n h2 h1
  have b1 := encB_bytes l hm (by omega) n h1 h2
  have hsc := scan_recs _ hok
  have f1 := enc_f k l (n : Int) (by omega) (by omega)
  have f2 := ref_scan_f (encB l n) b1 (by omega) k (by omega)
  rw [encS_ok l hm n h1 h2] at f1
  rw [show scanN ((encB l n).length + 1) (encB l n) = (encR l n, (encB l n).length) from hsc] at f2
  simp only at f2
  have hcn := chunks_count n h1 l.length l (Nat.le_refl _)
  have hRl : (encR l n).length = (l.length + n - 1) / n + 2 := by
    unfold encR
    rw [List.length_append, List.length_cons, List.length_map, List.length_singleton, hcn]
  have hq : (l.length + n - 1) / n ≤ 500 := Nat.le_trans (Nat.div_le_self _ _) (by omega)
  have hd : Int.tdiv ((l.length + n - 1 : Nat) : Int) (n : Int) = (((l.length + n - 1) / n : Nat) : Int) := by
    rw [Int.tdiv_eq_ediv_of_nonneg (by omega)]
    exact (Int.natCast_ediv _ _).symm
  have w1 := rec_w1 l.length n hl h1 h2
  have w2 : wrap64 (wrap64 (((l.length + n - 1) / n : Nat) : Int) + 2) = ((encR l n).length : Int) := by
    rw [hRl]
    exact rec_w2 _ hq
  have w3 := rec_w3 (encR l n).length (by rw [hRl]; exact Nat.le_add_left 2 _) (by rw [hRl]; exact Nat.add_le_add_right hq 2)
  have r0 : rd_L4 (encR l n) 0 = putn (n : Int) := rfl
  have p0 := putn_len (n : Int) (by omega) (by omega)
  have rl : rd_L4 (encR l n) (((encR l n).length - 1 : Nat) : Int) = putn 0 ++ putn (l.length : Int) := by
    have hx : (encR l n).length - 1 = ((chunks n l.length l).map blockB).length + 1 := by rw [hRl, List.length_map, hcn]; rfl
    rw [hx]
    exact rows_last _ _ _
  have pl := putn_len (l.length : Int) (by omega) (by omega)
  have hll : (putn 0 ++ putn (l.length : Int)).length = 1 + (putn (l.length : Int)).length := by rw [List.length_append, putn_zero]; rfl
  have hz : rd (putn 0 ++ putn (l.length : Int)) 0 = 0 := by rw [putn_zero]; rfl
  have hn0 : ¬ (n : Int) = 0 := by omega
  have hR2 : 2 ≤ (encR l n).length := by rw [hRl]; exact Nat.le_add_left 2 _
  have hR3 : (encR l n).length ≤ 502 := by rw [hRl]; exact Nat.add_le_add_right hq 2
  rw [manteletlaw09_RunRecords.j0, if_neg (show ¬ (false = true) by simp), e1, f1, Option.bind_some]
  simp only
  rw [f2, Option.bind_some]
  simp only
  have hfin := fun (x : Int) (hx : x = ((encR l n).length : Int)) => rec_fin (encR l n) n x hx hR2 hR3 r0 p0 (putn_head n h2) w3 rl hll pl hz
  rw [if_neg hn0, if_pos trivial, if_pos trivial, if_pos trivial, w1, hd, w2]
  exact hfin _ rfl
theorem RunRecords (l0 : List S44) (a1 : Int) (w0 : l0.length ≤ maxLen ∧ ∀ x ∈ l0, x.f0.size ≤ maxLen ∧ (Lit.int .u64 x.f1).wf = true) (w1 : (Lit.int .u8 a1).wf = true) : ∃ k, manteletlaw09_RunRecords.f k l0 a1 = some true := by
  refine ⟨2000000 + 1, ?_⟩
  obtain ⟨b, hb, h2⟩ := few_f l0 (2000000 + 1) (by omega)
  have hsh := shown_f (2000000 + 1) (by omega)
  have hj : ∀ q, q = true → manteletlaw09_RunRecords.j0 (2000000 + 1) l0 a1 true q = some true := by
    intro q hq
    rw [hq, manteletlaw09_RunRecords.j0, if_pos rfl]
  unfold manteletlaw09_RunRecords.f
  rw [hsh, Option.bind_some, hb, Option.bind_some]
  cases b with
  | false => rw [if_neg (show ¬ (false = true) by simp)]; exact hj _ rfl
  | true =>
    have hl := h2 rfl
    rw [if_pos rfl, RunLib.may_f (2000000 + 1) l0 (by omega) (by omega), Option.bind_some]
    by_cases hm : mayS l0 = 0
    · rw [hm]
      exact records_j0 l0 hm hl a1 w1 2000000 (by omega)
    · exact hj _ (bne_iff_ne.2 hm)
end Go.Proofs.Ytmfngihgoanhpaa.Pure
