/- However lists are merged before, the same is told; merged with nothing a list is as it is: for all lists. -/
import Derived.Test.YtlngljddjlmkfaaRefMerge
import Derived.Test.YtlngljddjlmkfaaLoserRow
import Derived.Test.YtlngljddjlmkfaaPLoserx9
namespace Go.Proofs.Ytlngljddjlmkfaa.Pure
open Go.RowKit Go.Proofs.Ytlngljddjlmkfaa.PLoser Go.Proofs.YtlngljddjlmkfaaW.PrintWords Go.Proofs.YtlngljddjlmkfaaW.PrintLast Go.Proofs.YtlngljddjlmkfaaW.PrintMore Go.Proofs.Ytlngljddjlmkfaa.LoserLib
set_option linter.unusedVariables false
set_option linter.unusedSimpArgs false

theorem twice_j0 (l : List (List E1)) (hf : Few l) (h0 : l.length ≠ 0) (a : Int) (i : Nat) (ha : Int.tmod (wrap64 a) (l.length : Int) = i) (hi : i ≤ l.length) : manteletlaw11_LoserTwice.j0 (800000 + 1) l a true ((l.length : Int) == 0) = some true := by
  have hfl := few_flat hf
  have c0 : ¬ (((l.length : Int) == 0) = true) := by rw [beq_iff_eq]; omega
  have c1 : ¬ (l.length : Int) = 0 := by omega
  have etd : l.flatten = (l.take i).flatten ++ (l.drop i).flatten := by rw [← List.flatten_append, List.take_append_drop]
  have elen := congrArg List.length etd
  rw [List.length_append] at elen
  obtain ⟨r, r1, r2, r3⟩ := merge_f 800000 l (by have := hf.1; omega) (fun m hm => by have := hf.2 m hm; omega) (by omega) (by omega) (by omega)
  obtain ⟨s, s1, s2, s3⟩ := merge_f 800000 (l.take i) (by have := hf.1; rw [List.length_take]; omega) (fun m hm => by have := hf.2 m (List.mem_of_mem_take hm); omega) (by omega) (by omega) (by omega)
  obtain ⟨t, t1, t2, t3⟩ := merge_f 800000 (l.drop i) (by have := hf.1; rw [List.length_drop]; omega) (fun m hm => by have := hf.2 m (List.mem_of_mem_drop hm); omega) (by omega) (by omega) (by omega)
  rw [manteletlaw11_LoserTwice.j0, if_neg c0, if_neg c1, ha, r1, Option.bind_some, if_pos (by omega), if_pos (by omega), Int.toNat_natCast, s1, Option.bind_some, t1, Option.bind_some]
  by_cases hz : r.2 = 0
  · rw [if_pos hz]
    have hbad : badS l = 0 := by
      by_cases hbad : badS l = 0
      · exact hbad
      · rw [r3 hbad] at hz
        exact absurd hz hbad
    have hmay := badS_zero hbad
    obtain ⟨m1, c2, c3⟩ := res_may (r2 hbad) hz (flat_fine hmay)
    have hm1 : ∀ m ∈ l.take i, mayS m = 0 := fun m hm => hmay m (List.mem_of_mem_take hm)
    have hm2 : ∀ m ∈ l.drop i, mayS m = 0 := fun m hm => hmay m (List.mem_of_mem_drop hm)
    have hp1 : Pos (l.take i).flatten := flat_pos (fun m hm => may_ris (hm1 m hm))
    have hp2 : Pos (l.drop i).flatten := flat_pos (fun m hm => may_ris (hm2 m hm))
    have csum : ∀ w, cnt (l.take i).flatten w + cnt (l.drop i).flatten w = cnt l.flatten w := fun w => by rw [etd, cnt_append]
    have rs := s2 (badS_of hm1)
    have rt := t2 (badS_of hm2)
    have zs := res_ok rs (fun w => by have := c3 w; have := csum w; have := cnt_ge hp2 w; omega)
    have zt := res_ok rt (fun w => by have := c3 w; have := csum w; have := cnt_ge hp1 w; omega)
    obtain ⟨ms, cs, _⟩ := res_may rs zs (flat_fine hm1)
    obtain ⟨mt, ct, _⟩ := res_may rt zt (flat_fine hm2)
    have ls := ris_len (may_ris ms).1 (may_ris ms).2 cs (n := 2000) (by omega)
    have lt := ris_len (may_ris mt).1 (may_ris mt).2 ct (n := 2000) (by omega)
    have lr := ris_len (may_ris m1).1 (may_ris m1).2 c2 (n := 2000) (by omega)
    have hmB : ∀ m ∈ [s.1, [], t.1], mayS m = 0 := by
      intro m hm
      simp only [List.mem_cons, List.not_mem_nil, or_false] at hm
      rcases hm with rfl | rfl | rfl
      · exact ms
      · rfl
      · exact mt
    have hmC : ∀ m ∈ [[], r.1], mayS m = 0 := by
      intro m hm
      simp only [List.mem_cons, List.not_mem_nil, or_false] at hm
      rcases hm with rfl | rfl
      · rfl
      · exact m1
    have eB : ([s.1, [], t.1] : List (List E1)).flatten = s.1 ++ t.1 := by simp
    have eC : ([[], r.1] : List (List E1)).flatten = r.1 := by simp
    obtain ⟨u, u1, u2, _⟩ := merge_f 800000 [s.1, [], t.1] (by simp) (fun m hm => by
      simp only [List.mem_cons, List.not_mem_nil, or_false] at hm
      rcases hm with rfl | rfl | rfl
      · omega
      · simp
      · omega) (by omega) (by rw [eB, List.length_append]; omega) (by omega)
    obtain ⟨v, v1, v2, _⟩ := merge_f 800000 [[], r.1] (by simp) (fun m hm => by
      simp only [List.mem_cons, List.not_mem_nil, or_false] at hm
      rcases hm with rfl | rfl
      · simp
      · omega) (by omega) (by rw [eC]; omega) (by omega)
    have eu : u = r := res_same (u2 (badS_of hmB)) (r2 hbad) (fun w => by rw [eB, cnt_append, cs, ct, csum])
    have ev : v = r := res_same (v2 (badS_of hmC)) (r2 hbad) (fun w => by rw [eC, c2])
    rw [u1, Option.bind_some, v1, Option.bind_some, if_pos rfl, if_pos zs, if_pos zt, eu, ev, if_pos hz, if_pos hz, same_f r.1 (by omega) 800000 (by omega), Option.bind_some, if_pos rfl, Option.bind_some, if_pos rfl, may_f 800000 r.1 (by omega) (by omega), Option.bind_some, m1]
    rfl
  · rw [if_neg hz, if_pos rfl]
    have he : r.1 = [] := by
      by_cases hbad : badS l = 0
      · rcases r2 hbad with ⟨q, _⟩ | ⟨q, _⟩
        · exact absurd q hz
        · rw [q]
      · rw [r3 hbad]
    rw [he]
    rfl
theorem LoserTwice (l0 : List (List E1)) (a1 : Int) (w0 : l0.length ≤ maxLen ∧ ∀ x ∈ l0, x.length ≤ maxLen ∧ ∀ y ∈ x, y.f0.size ≤ maxLen ∧ (Lit.int .u64 y.f1).wf = true) (w1 : (Lit.int .u8 a1).wf = true) : ∃ k, manteletlaw11_LoserTwice.f k l0 a1 = some true := by
  refine ⟨800000 + 1, ?_⟩
  have hw : 0 ≤ a1 ∧ a1 ≤ 255 := by simp [Lit.wf, IntKind.min, IntKind.max, IntKind.bits, IntKind.signed] at w1; omega
  obtain ⟨b, hb, h2⟩ := few_f l0 (800000 + 1) (by omega)
  unfold manteletlaw11_LoserTwice.f
  rw [shown_f (800000 + 1) (by omega) (by omega), Option.bind_some, hb, Option.bind_some]
  have hj : ∀ q, q = true → manteletlaw11_LoserTwice.j0 (800000 + 1) l0 a1 true q = some true := by
    intro q hq
    rw [hq, manteletlaw11_LoserTwice.j0, if_pos rfl]
  cases b with
  | false => rw [if_neg (by simp)]; exact hj _ rfl
  | true =>
    rw [if_pos rfl]
    by_cases h0 : l0.length = 0
    · exact hj _ (beq_iff_eq.mpr (by omega))
    · have e2 : wrap64 a1 = a1 := by unfold wrap64; omega
      have hlt := Int.emod_lt_of_pos a1 (show 0 < (l0.length : Int) by omega)
      have hge := Int.emod_nonneg a1 (show (l0.length : Int) ≠ 0 by omega)
      obtain ⟨i, hi⟩ := Int.eq_ofNat_of_zero_le hge
      exact twice_j0 l0 (h2 rfl) h0 a1 i (by rw [e2, Int.tmod_eq_emod_of_nonneg hw.1, hi]) (by omega)
end Go.Proofs.Ytlngljddjlmkfaa.Pure
