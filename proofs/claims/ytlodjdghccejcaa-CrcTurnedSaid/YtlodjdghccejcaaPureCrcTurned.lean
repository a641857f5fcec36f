/- One byte that is another one is told; so are two bytes that change places next to each other, and are unlike: for all bytes. -/
import Derived.Test.YtlodjdghccejcaaCrcLib
import Derived.Test.YtlodjdghccejcaaPCrcx
namespace Go.Proofs.Ytlodjdghccejcaa.Pure
open Go.RowKit Go.Proofs.Ytlodjdghccejcaa.PCrc Go.Proofs.Ytlodjdghccejcaa.CrcLib Go.Proofs.YtlodjdghccejcaaW.PrintWords Go.Proofs.YtlodjdghccejcaaW.PrintLast

theorem odd_or (m : Int) (h : 0 ≤ m ∧ m ≤ 255) : 1 ≤ Go.bits .or .u8 m 1 ∧ Go.bits .or .u8 m 1 ≤ 255 := by
  have h0 : ∀ m : Fin 256, 1 ≤ Go.bits .or .u8 ((m.val : Nat) : Int) 1 ∧ Go.bits .or .u8 ((m.val : Nat) : Int) 1 ≤ 255 := by decide +kernel
  have := h0 ⟨m.toNat, by omega⟩
  simp only [Int.toNat_of_nonneg h.1] at this
  exact this
theorem bv_inj {x y : Int} (hx : 0 ≤ x ∧ x ≤ 255) (hy : 0 ≤ y ∧ y ≤ 255) (h : bv x = bv y) : x = y := by
  rw [← num_bv x hx.1 (by omega), h, num_bv y hy.1 (by omega)]
theorem turned (x m : Int) (hx : 0 ≤ x ∧ x ≤ 255) (hm : 1 ≤ m ∧ m ≤ 255) : Go.bits .xor .u8 x m ≠ x ∧ 0 ≤ Go.bits .xor .u8 x m ∧ Go.bits .xor .u8 x m ≤ 255 := by
  have hr := crc_More.u8_range x m
  refine ⟨fun h => ?_, hr.1, by omega⟩
  have e := byte_xor x m (by omega) (by omega)
  rw [h] at e
  have e2 : bv m = 0#32 := by
    have : bv x ^^^ bv x = bv x ^^^ (bv x ^^^ bv m) := by rw [← e]
    rw [BitVec.xor_self, ← BitVec.xor_assoc, BitVec.xor_self, BitVec.zero_xor] at this
    exact this.symm
  have : m = 0 := bv_inj (by omega) (by omega) (e2.trans rfl)
  omega
theorem no_fix (d : Int) (h : 0 ≤ d ∧ d ≤ 255) (he : S8 (bv d) = bv d) : d = 0 := by
  have h0 : ∀ m : Fin 256, it 8 (BitVec.ofInt 32 ((m.val : Nat) : Int)) = BitVec.ofInt 32 ((m.val : Nat) : Int) → m.val = 0 := by decide +kernel
  have := h0 ⟨d.toNat, by omega⟩
  simp only [Int.toNat_of_nonneg h.1] at this
  have := this he
  omega
theorem of_ne (pre post : List Int) (x v : Int) (hx : 0 ≤ x ∧ x ≤ 255) (hv : 0 ≤ v ∧ v ≤ 255) (hn : v ≠ x) : F ones (pre ++ v :: post) ≠ F ones (pre ++ x :: post) := by
  intro h
  rw [F_append, F_append, F_cons, F_cons] at h
  have h1 := it_inj 8 (F_inj _ _ _ h)
  generalize F ones pre = s at h1
  have h2 : s ^^^ (s ^^^ bv v) = s ^^^ (s ^^^ bv x) := by rw [h1]
  rw [← BitVec.xor_assoc, ← BitVec.xor_assoc, BitVec.xor_self, BitVec.zero_xor, BitVec.zero_xor] at h2
  exact hn (bv_inj hv hx h2)
theorem of_swap (pre post : List Int) (x y : Int) (hx : 0 ≤ x ∧ x ≤ 255) (hy : 0 ≤ y ∧ y ≤ 255) (h : F ones (pre ++ y :: x :: post) = F ones (pre ++ x :: y :: post)) : x = y := by
  rw [F_append, F_append, F_cons, F_cons, F_cons, F_cons] at h
  have h1 := it_inj 8 (F_inj _ _ _ h)
  generalize F ones pre = s at h1
  have hd := byte_xor x y (by omega) (by omega)
  have hr := crc_More.u8_range x y
  have e1 : S8 (s ^^^ bv y) ^^^ S8 (s ^^^ bv x) = bv x ^^^ bv y := by
    have : S8 (s ^^^ bv y) ^^^ bv x ^^^ (S8 (s ^^^ bv x) ^^^ bv y) = 0#32 := by rw [h1, BitVec.xor_self]
    rw [x4] at this
    exact xor_eq_zero this
  rw [← it_xor, x4, BitVec.xor_self, BitVec.zero_xor, BitVec.xor_comm (bv y), ← hd] at e1
  have hz := no_fix _ (by omega) e1
  rw [hz] at hd
  exact bv_inj hx hy (xor_eq_zero (hd.symm.trans rfl))
theorem bytes_app {a b : List Int} (ha : Bytes a) (hb : Bytes b) : Bytes (a ++ b) := fun x hx => by
  rcases List.mem_append.1 hx with h | h
  · exact ha x h
  · exact hb x h
theorem bytes_cons {a : Int} {b : List Int} (ha : 0 ≤ a ∧ a ≤ 255) (hb : Bytes b) : Bytes (a :: b) := fun x hx => by
  rcases List.mem_cons.1 hx with h | h
  · rw [h]; exact ha
  · exact hb x h
theorem neq_of (l m : List Int) (hl : Bytes l) (hm : Bytes m) : ∃ s t, crc_Of.f l = some s ∧ crc_Of.f m = some t ∧ (s = t ↔ F ones l = F ones m) := by
  refine ⟨_, _, of_f l hl, of_f m hm, fun h => ?_, fun h => by rw [h]⟩
  have h := num_inj h
  rw [← ones_twice (F ones l), h, ones_twice]
theorem j2 (l a b : List Int) (q : Bool) (hl : Bytes l) (ha : Bytes a) (hb : Bytes b) (h1 : F ones a ≠ F ones l) (h2 : (F ones b = F ones l) ↔ q = true) (k : Nat) : manteletlaw02_CrcTurned.j2 (k + 1) l true a b q = some true := by
  obtain ⟨s, t, e1, e2, e3⟩ := neq_of a l ha hl
  obtain ⟨u, t', e4, e5, e6⟩ := neq_of b l hb hl
  rw [e2] at e5
  obtain rfl : t = t' := Option.some.inj e5
  rw [manteletlaw02_CrcTurned.j2, if_pos rfl, e1, Option.bind_some, e2, Option.bind_some, if_neg (fun h => h1 (e3.1 h)), e4, Option.bind_some, Option.bind_some]
  congr 1
  rw [beq_iff_eq, Bool.eq_iff_iff, beq_iff_eq, e6, h2]
theorem rd_at (l : List Int) (j : Nat) (hj : j < l.length) : rd l j = l[j] := by
  unfold rd
  rw [Int.toNat_natCast, List.getD_eq_getElem?_getD, List.getElem?_eq_getElem hj, Option.getD_some]
theorem part (l : List Int) (i : Nat) (hil : i < l.length) : l = l.take i ++ rd l i :: l.drop (i + 1) := by
  rw [rd_at l i hil, ← List.drop_eq_getElem_cons hil, List.take_append_drop]
theorem set_part (l : List Int) (i : Nat) (hil : i < l.length) (v : Int) : l.set i v = l.take i ++ v :: l.drop (i + 1) := List.set_eq_take_append_cons_drop.trans (if_pos hil)
theorem part2 (l : List Int) (i : Nat) (h : i + 1 < l.length) : l = l.take i ++ rd l i :: rd l (i + 1 : Nat) :: l.drop (i + 2) := by
  have e := part l i (by omega)
  rw [List.drop_eq_getElem_cons h, ← rd_at l (i + 1) h] at e
  exact e
theorem set_part2 (l : List Int) (i : Nat) (h : i + 1 < l.length) (u v : Int) : (l.set i u).set (i + 1) v = l.take i ++ u :: v :: l.drop (i + 2) := by
  have ht : (l.take i).length = i := by rw [List.length_take]; omega
  rw [set_part l i (by omega), List.set_append_right _ _ (by omega), ht, Nat.add_sub_cancel_left, List.set_cons_succ, List.drop_eq_getElem_cons h, List.set_cons_zero]
theorem byte_at (l : List Int) (hl : Bytes l) (i : Nat) (h : i < l.length) : 0 ≤ rd l i ∧ rd l i ≤ 255 := by
  rw [rd_at l i h]
  exact hl _ (List.getElem_mem h)
/-- Two next to each other change places. -/
theorem swapped (l : List Int) (hl : Bytes l) (i : Nat) (h : i + 1 < l.length) : Bytes ((l.set i (rd l (i + 1 : Nat))).set (i + 1) (rd l i)) ∧ (F ones ((l.set i (rd l (i + 1 : Nat))).set (i + 1) (rd l i)) = F ones l ↔ (rd l i == rd l (i + 1 : Nat)) = true) := by
  have hx := byte_at l hl i (by omega)
  have hy := byte_at l hl (i + 1) h
  have hp := part2 l i h
  rw [set_part2 l i h]
  refine ⟨bytes_app (bytes_take hl _) (bytes_cons hy (bytes_cons hx (bytes_drop hl _))), ?_⟩
  rw [beq_iff_eq]
  constructor
  · intro q
    refine of_swap (l.take i) (l.drop (i + 2)) _ _ hx hy ?_
    rw [← hp]
    exact q
  · intro q
    rw [← q]
    rw [← q] at hp
    exact congrArg (F ones) hp.symm
theorem one_byte (l : List Int) (hl : Bytes l) (i : Nat) (h : i < l.length) (m : Int) (hm : 0 ≤ m ∧ m ≤ 255) : Bytes (l.set i (Go.bits .xor .u8 (rd l i) (Go.bits .or .u8 m 1))) ∧ F ones (l.set i (Go.bits .xor .u8 (rd l i) (Go.bits .or .u8 m 1))) ≠ F ones l := by
  have hx := byte_at l hl i h
  obtain ⟨t1, t2, t3⟩ := turned (rd l i) (Go.bits .or .u8 m 1) hx (odd_or m hm)
  rw [set_part l i h]
  refine ⟨bytes_app (bytes_take hl _) (bytes_cons ⟨t2, t3⟩ (bytes_drop hl _)), ?_⟩
  have := of_ne (l.take i) (l.drop (i + 1)) (rd l i) _ hx ⟨t2, t3⟩ t1
  rwa [← part l i h] at this
theorem turned_j0 (l : List Int) (hl : Bytes l) (cut m : Int) (i : Nat) (hlen : l.length ≤ 20000) (h : i < l.length) (hm : 0 ≤ m ∧ m ≤ 255) (hcut : Int.tmod (wrap64 cut) (l.length : Int) = i) (k : Nat) : manteletlaw02_CrcTurned.j0 (k + 3) l cut m true ((l.length : Int) == 0) = some true := by
  have hw : wrap64 ((i : Int) + 1) = ((i + 1 : Nat) : Int) := by unfold wrap64; omega
  have c0 : ¬ (((l.length : Int) == 0) = true) := by rw [beq_iff_eq]; omega
  have c1 : ¬ (l.length : Int) = 0 := by omega
  have c2 : ([] : List Int).length + l.length < 140737488355328 := by rw [List.length_nil]; omega
  have c3 : (0 : Int) ≤ i := by omega
  have c4 : (i : Int) < (l.length : Int) := by omega
  obtain ⟨hA, hne⟩ := one_byte l hl i h m hm
  rw [manteletlaw02_CrcTurned.j0, if_neg c0, if_neg c1, hcut]
  rw [Option.bind_some, if_pos c2, Option.bind_some, List.nil_append, if_pos c3, if_pos c4, Option.bind_some, Option.bind_some, if_pos c2, Option.bind_some, hw, Int.toNat_natCast, Int.toNat_natCast]
  by_cases hlast : i + 1 < l.length
  · have c5 : ((i + 1 : Nat) : Int) < (l.length : Int) := by omega
    have c6 : (0 : Int) ≤ ((i + 1 : Nat) : Int) := by omega
    have c7 : ¬ ((i + 1 : Nat) : Int) ≥ (l.length : Int) := by omega
    obtain ⟨hB, hiff⟩ := swapped l hl i hlast
    rw [if_pos c5, if_pos c6, List.nil_append, if_pos c4, if_pos c4, if_pos c5, manteletlaw02_CrcTurned.j1, hw, if_neg c7, if_pos c3, if_pos c4, if_pos c6, if_pos c5]
    exact j2 l _ _ _ hl hA hB hne hiff k
  · have c5 : ¬ ((i + 1 : Nat) : Int) < (l.length : Int) := by omega
    have c7 : ((i + 1 : Nat) : Int) ≥ (l.length : Int) := by omega
    rw [if_neg c5, List.nil_append, manteletlaw02_CrcTurned.j1, hw, if_pos c7]
    exact j2 l _ l true hl hA hl hne ⟨fun _ => rfl, fun _ => rfl⟩ k
theorem CrcTurned : manteletlaw02_CrcTurned.Pure := by
  intro l cut m _ hlen hl hc hm
  replace hl : Bytes l := fun x hx => wf_byte (hl x hx)
  replace hc := wf_u16 hc
  replace hm := wf_byte hm
  refine ⟨0 + 3, ?_⟩
  unfold manteletlaw02_CrcTurned.f
  rw [shown_f, Option.bind_some]
  by_cases hlong : (l.length : Int) > 20000
  · rw [if_pos hlong, manteletlaw02_CrcTurned.j0, if_pos rfl]
  · rw [if_neg hlong]
    by_cases h0 : l.length = 0
    · rw [manteletlaw02_CrcTurned.j0, if_pos (beq_iff_eq.mpr (by omega))]
    · have e2 : wrap64 cut = cut := by unfold wrap64; omega
      have hlt := Int.emod_lt_of_pos cut (show 0 < (l.length : Int) by omega)
      have hge := Int.emod_nonneg cut (show (l.length : Int) ≠ 0 by omega)
      obtain ⟨i, hi⟩ := Int.eq_ofNat_of_zero_le hge
      exact turned_j0 l hl cut m i (by omega) (by omega) hm (by rw [e2, Int.tmod_eq_emod_of_nonneg hc.1, hi]) 0
end Go.Proofs.Ytlodjdghccejcaa.Pure
