/- No begin of a run is one, nothing that a run begins, and no run with a byte that is another one: for all entries. -/
import Derived.Test.YtmfngihgoanhpaaRunOne
import Derived.Test.YtmfngihgoanhpaaPRunx13
namespace Go.Proofs.Ytmfngihgoanhpaa.Pure
open Go.RowKit Go.Proofs.Ytmfngihgoanhpaa.PRun Go.Proofs.YtmfngihgoanhpaaW.PrintWords Go.Proofs.YtmfngihgoanhpaaW.PrintLast Go.Proofs.YtmfngihgoanhpaaW.PrintMore Go.Proofs.Ytmfngihgoanhpaa.NumLib Go.Proofs.Ytmfngihgoanhpaa.FrameLib Go.Proofs.Ytmfngihgoanhpaa.RunLib
set_option linter.unusedVariables false
set_option linter.unusedSimpArgs false

theorem odd_or (m : Int) (h : 0 ≤ m ∧ m ≤ 255) : 1 ≤ Go.bits .or .u8 m 1 ∧ Go.bits .or .u8 m 1 ≤ 255 := by
  have h0 : ∀ m : Fin 256, 1 ≤ Go.bits .or .u8 ((m.val : Nat) : Int) 1 ∧ Go.bits .or .u8 ((m.val : Nat) : Int) 1 ≤ 255 := by decide +kernel
  have := h0 ⟨m.toNat, by omega⟩
  simp only [Int.toNat_of_nonneg h.1] at this
  exact this
theorem turned (x m : Int) (hx : 0 ≤ x ∧ x ≤ 255) (hm : 1 ≤ m ∧ m ≤ 255) : Go.bits .xor .u8 x m ≠ x ∧ 0 ≤ Go.bits .xor .u8 x m ∧ Go.bits .xor .u8 x m ≤ 255 := by
  have hr := crc_More.u8_range x m
  refine ⟨fun h => ?_, hr.1, by omega⟩
  have e := CrcLib.byte_xor x m (by omega) (by omega)
  rw [h] at e
  have e2 : CrcLib.bv m = 0#32 := by
    have : CrcLib.bv x ^^^ CrcLib.bv x = CrcLib.bv x ^^^ (CrcLib.bv x ^^^ CrcLib.bv m) := by rw [← e]
    rw [BitVec.xor_self, ← BitVec.xor_assoc, BitVec.xor_self, BitVec.zero_xor] at this
    exact this.symm
  have : m = 0 := bv_inj (by omega) (by omega) (e2.trans rfl)
  omega
theorem rd_at (l : List Int) (j : Nat) (hj : j < l.length) : rd l j = l[j] := by
  unfold rd
  rw [Int.toNat_natCast, List.getD_eq_getElem?_getD, List.getElem?_eq_getElem hj, Option.getD_some]
theorem part (l : List Int) (i : Nat) (hil : i < l.length) : l = l.take i ++ rd l i :: l.drop (i + 1) := by
  rw [rd_at l i hil, ← List.drop_eq_getElem_cons hil, List.take_append_drop]
theorem set_part (l : List Int) (i : Nat) (hil : i < l.length) (v : Int) : l.set i v = l.take i ++ v :: l.drop (i + 1) := List.set_eq_take_append_cons_drop.trans (if_pos hil)
theorem bytes_cons {a : Int} {b : List Int} (ha : 0 ≤ a ∧ a ≤ 255) (hb : Bytes b) : Bytes (a :: b) := fun x hx => by
  rcases List.mem_cons.1 hx with h | h
  · rw [h]; exact ha
  · exact hb x h
theorem ones_j1 (X : List Int) (hX : Bytes X) (hr : Runs X) (hlen : X.length ≤ 80000) (h1 : 1 ≤ X.length) (a m : Int) (i : Nat) (hi : i < X.length) (ha : Int.tmod (wrap64 a) (X.length : Int) = i) (hm : 0 ≤ m ∧ m ≤ 255) (k : Nat) (hk : 600000 < k) :
    manteletlaw09_RunOnes.j1 (k + 1) a m true X ((X.length : Int) == 0) = some true := by
  have c0 : ¬ (((X.length : Int) == 0) = true) := by rw [beq_iff_eq]; omega
  have c1 : ¬ (X.length : Int) = 0 := by omega
  have c2 : ([] : List Int).length + X.length < 140737488355328 := by rw [List.length_nil]; omega
  have c3 : (0 : Int) ≤ i := by omega
  have c4 : (i : Int) < (X.length : Int) := by omega
  have c5 : (i : Int) ≤ (X.length : Int) := by omega
  have c6 : X.length < 140737488355328 := by omega
  have hx : 0 ≤ rd X i ∧ rd X i ≤ 255 := by rw [rd_at X i hi]; exact hX _ (List.getElem_mem hi)
  obtain ⟨t1, t2, t3⟩ := turned (rd X i) (Go.bits .or .u8 m 1) hx (odd_or m hm)
  rw [manteletlaw09_RunOnes.j1, if_neg c0, if_neg c1, ha]
  rw [Option.bind_some, if_pos c2, Option.bind_some, List.nil_append, if_pos c3, if_pos c4, if_pos c5, Int.toNat_natCast]
  have hb1 : Bytes (X.take i) := bytes_take hX i
  have hl1 : (X.take i).length ≤ 80000 := by rw [List.length_take]; omega
  obtain ⟨r1, hr1, d1⟩ := dec_total (X.take i) hb1 (by omega) k (by omega)
  have hb2 : Bytes (X ++ [m]) := bytes_append hX (bytes_cons hm (fun x hx => by simp at hx))
  have hl2 : (X ++ [m]).length ≤ 80001 := by rw [List.length_append, List.length_singleton]; omega
  obtain ⟨r2, hr2, d2⟩ := dec_total (X ++ [m]) hb2 (by omega) k (by omega)
  have hb3 : Bytes (X.set i (Go.bits .xor .u8 (rd X i) (Go.bits .or .u8 m 1))) := by
    rw [set_part X i hi]
    exact bytes_append (bytes_take hX _) (bytes_cons ⟨t2, t3⟩ (bytes_drop hX _))
  have hl3 : (X.set i (Go.bits .xor .u8 (rd X i) (Go.bits .or .u8 m 1))).length ≤ 80000 := by rw [List.length_set]; omega
  obtain ⟨r3, hr3, d3⟩ := dec_total _ hb3 (by omega) k (by omega)
  have e1 : r1.2 = 2 := by
    refine read_runs (by omega) d1 (fun h => ?_)
    refine run_begin (z := X.drop i) (fun e => ?_) h (by rw [List.take_append_drop]; exact hr)
    have := congrArg List.length e
    rw [List.length_drop, List.length_nil] at this
    omega
  have e2 : r2.2 = 2 := read_runs (by omega) d2 (fun h => run_more hr h)
  have e3 : r3.2 = 2 := by
    refine read_runs (Nat.le_trans hl3 (by decide)) d3 (fun h => ?_)
    rw [set_part X i hi] at h
    have hr' := hr
    rw [part X i hi] at hr'
    exact run_other h hr' t1
  rw [hr1, Option.bind_some, Option.bind_some, if_pos c2, Option.bind_some, List.nil_append, if_pos c6, hr2, Option.bind_some, hr3, Option.bind_some, if_pos rfl, if_pos e1, if_pos e2, e3]
  rfl
theorem ones_j0 (l : List S44) (hm : mayS l = 0) (hl : l.length ≤ 200) (a b c : Int) (ha : (Lit.int .u8 a).wf = true) (hb : (Lit.int .u16 b).wf = true) (hc : (Lit.int .u8 c).wf = true) (k : Nat) (hk : 700000 < k) : manteletlaw09_RunOnes.j0 (k + 1 + 1) l a b c true false = some true := by
  obtain ⟨n, h1, h2, e1, q1⟩ := size_of a ha
  have hf := (mayS_zero hm).1
  have hn := encB_len l hf (by omega) n h2 h1
  have b1 := encB_bytes l hm (by omega) n h1 h2
  have f1 := enc_f (k + 1) l (n : Int) (by omega) (by omega)
  rw [encS_ok l hm n h1 h2] at f1
  rw [manteletlaw09_RunOnes.j0, if_neg (show ¬ (false = true) by simp), e1, f1, Option.bind_some]
  simp only
  rw [if_pos trivial]
  have hruns : Runs (encB l n) := ⟨l, n, h1, h2, hm, by omega, rfl⟩
  have hpos : 1 ≤ (encB l n).length := by
    have o1 := encR_ok l hf (by omega) n h2 h1
    have := recs_len_ge _ o1
    unfold encB
    have h3 : 1 ≤ (encR l n).length := by rw [encR_rest, List.length_cons]; omega
    omega
  generalize encB l n = X at *
  have hb := CrcLib.wf_u16 hb
  have e2 : wrap64 b = b := by unfold wrap64; omega
  have hlt := Int.emod_lt_of_pos b (show 0 < (X.length : Int) by omega)
  have hge := Int.emod_nonneg b (show (X.length : Int) ≠ 0 by omega)
  obtain ⟨i, hi⟩ := Int.eq_ofNat_of_zero_le hge
  exact ones_j1 X b1 hruns (by omega) hpos b c i (by omega) (by rw [e2, Int.tmod_eq_emod_of_nonneg hb.1, hi]) (wf_byte hc) k (by omega)
theorem RunOnes (l0 : List S44) (a1 : Int) (a2 : Int) (a3 : Int) (w0 : l0.length ≤ maxLen ∧ ∀ x ∈ l0, x.f0.size ≤ maxLen ∧ (Lit.int .u64 x.f1).wf = true) (w1 : (Lit.int .u8 a1).wf = true) (w2 : (Lit.int .u16 a2).wf = true) (w3 : (Lit.int .u8 a3).wf = true) : ∃ k, manteletlaw09_RunOnes.f k l0 a1 a2 a3 = some true := by
  refine ⟨1000000 + 1 + 1, ?_⟩
  obtain ⟨b, hb, h2⟩ := few_f l0 (1000000 + 1 + 1) (by omega)
  have hsh := shown_f (1000000 + 1 + 1) (by omega)
  have hj : ∀ q, q = true → manteletlaw09_RunOnes.j0 (1000000 + 1 + 1) l0 a1 a2 a3 true q = some true := by
    intro q hq
    rw [hq, manteletlaw09_RunOnes.j0, if_pos rfl]
  unfold manteletlaw09_RunOnes.f
  rw [hsh, Option.bind_some, hb, Option.bind_some]
  cases b with
  | false => rw [if_neg (show ¬ (false = true) by simp)]; exact hj _ rfl
  | true =>
    have hl := h2 rfl
    rw [if_pos rfl, RunLib.may_f (1000000 + 1 + 1) l0 (by omega) (by omega), Option.bind_some]
    by_cases hm : mayS l0 = 0
    · rw [hm]
      exact ones_j0 l0 hm hl a1 a2 a3 w1 w2 w3 1000000 (by omega)
    · exact hj _ (bne_iff_ne.2 hm)
end Go.Proofs.Ytmfngihgoanhpaa.Pure
