/- Plain laws of runs, last: what was encoded is read. -/
import Derived.Test.YtmfngihgoanhpaaRunDecT
namespace Go.Proofs.Ytmfngihgoanhpaa.RunLib
open Go.RowKit Go.Proofs.Ytmfngihgoanhpaa.PRun Go.Proofs.YtmfngihgoanhpaaW.PrintWords Go.Proofs.YtmfngihgoanhpaaW.PrintLast Go.Proofs.YtmfngihgoanhpaaW.PrintMore Go.Proofs.Ytmfngihgoanhpaa.NumLib Go.Proofs.Ytmfngihgoanhpaa.FrameLib
set_option linter.unusedVariables false
set_option linter.unusedSimpArgs false

theorem mid_rows {α : Type} (a : α) (bs : List α) (z : α) : (((a :: bs) ++ [z]).take (bs.length + 1)).drop 1 = bs := by
  rw [show bs.length + 1 = (a :: bs).length from rfl, List.take_left, List.drop_succ_cons, List.drop_zero]
theorem dec_fin (l : List S44) (hm : mayS l = 0) (hl : l.length ≤ 90000) (size : Nat) (h1 : 1 ≤ size) (hs : size ≤ 255) (hb : Bytes (encB l size)) (hf : ∀ x ∈ l, fineS x) (k : Nat) (hk : 350000 < k) (hw2 : wrap64 (size : Int) = size) (hcl : (chunks size l.length l).length ≤ 100000) (y : List (List Int)) (hy : y = (chunks size l.length l).map blockB) :
    run_Decode.l0 k (encB l size) (size : Int) [] y (y.length : Int) 0 = some (l, 0) := by
  have hcs : ∀ c ∈ chunks size l.length l, (∀ x ∈ c, fineS x) ∧ c.length ≤ 255 := by
    intro c hc
    refine ⟨chunks_fine size _ l hf c hc, ?_⟩
    rcases chunks_mem size _ l c hc with h | h
    · exact Nat.le_trans h.1 hs
    · omega
  have hj := chunks_join size h1 l.length l (Nat.le_refl _)
  have hyl : y.length ≤ 1000000 := by rw [hy, List.length_map]; omega
  have := dec_l0_chunks (encB l size) hb (size : Int) y hyl (chunks size l.length l) k 0 [] hcs (by omega) (Nat.zero_le _) (by rw [List.drop_zero]; exact hy) (by rw [hj, List.length_nil]; omega)
  rw [hj, List.nil_append, hw2] at this
  have e : endS l (size : Int) (encB l size) = (l, 0) := by
    have hn : ¬ ((size : Int) < 1 ∨ (size : Int) > 255) := by omega
    have hE : encS l (size : Int) = (encB l size, 0) := by
      unfold encS
      rw [if_neg hn, if_pos hm, Int.toNat_natCast]
    unfold endS
    rw [hE, if_pos rfl, if_pos rfl]
  rw [e] at this
  exact this
theorem dec_enc (l : List S44) (hm : mayS l = 0) (hl : l.length ≤ 90000) (size : Nat) (h1 : 1 ≤ size) (hs : size ≤ 255) (k : Nat) (hk : (encB l size).length + 400000 < k) : run_Decode.f k (encB l size) = some (l, 0) := by
  have hn255 : ¬ (size : Int) > 255 := by omega
  have hde : decide ((size : Int) > 255) = false := decide_eq_false hn255
  have hf := (mayS_zero hm).1
  have hok := encR_ok l hf (by omega) size hs h1
  have hle := encB_len l hf (by omega) size hs h1
  have hb : Bytes (encB l size) := recs_bytes _ hok
  have hsc := scan_recs _ hok
  have hcn := chunks_count size h1 l.length l (Nat.le_refl _)
  unfold run_Decode.f
  rw [scan_f _ hb (by omega) k (by omega), Option.bind_some, show scanN ((encB l size).length + 1) (encB l size) = (encR l size, (encB l size).length) from hsc]
  simp only
  have hRl : (encR l size).length = (chunks size l.length l).length + 2 := by
    unfold encR
    rw [List.length_append, List.length_cons, List.length_map, List.length_singleton]
  have hcl : (chunks size l.length l).length ≤ 100000 := by
    rw [hcn]
    exact Nat.le_trans (Nat.div_le_self _ _) (by omega)
  have e0 : rd_L4 (encR l size) 0 = putn (size : Int) := rfl
  rw [if_neg (by omega), if_pos (by omega), e0, NumLib.get_f _ (putn_bytes _ (by omega) (by omega))]
  have hgp := get_put (size : Int) (by omega) (by omega) []
  rw [List.append_nil] at hgp
  rw [hgp, Option.bind_some]
  simp only
  obtain ⟨k, rfl⟩ : ∃ m, k = m + 1 := ⟨k - 1, by omega⟩
  have hkk : 350000 < k := by omega
  have hw : wrap64 (((encR l size).length : Int) - 1) = (((encR l size).length - 1 : Nat) : Int) := by unfold wrap64; omega
  have hw2 : wrap64 (size : Int) = size := by unfold wrap64; omega
  rw [if_pos trivial]
  rw [hde]
  rw [run_Decode.j0]
  rw [if_neg (show ¬ (false = true) by simp)]
  rw [hw]
  have q1 : (1 : Int) ≤ (((encR l size).length - 1 : Nat) : Int) := by omega
  have q2 : (((encR l size).length - 1 : Nat) : Int) ≤ ((encR l size).length : Int) := by omega
  rw [if_pos q1, if_pos q2, Option.bind_some, Int.toNat_natCast]
  have hy : ((encR l size).take ((encR l size).length - 1)).drop 1 = (chunks size l.length l).map blockB := by
    have hq : (encR l size).length - 1 = ((chunks size l.length l).map blockB).length + 1 := by rw [hRl, List.length_map]; omega
    rw [hq]
    exact mid_rows _ _ _
  refine dec_fin l hm (by omega) size h1 hs hb hf k hkk ?_ hcl _ hy
  exact hw2
end Go.Proofs.Ytmfngihgoanhpaa.RunLib
