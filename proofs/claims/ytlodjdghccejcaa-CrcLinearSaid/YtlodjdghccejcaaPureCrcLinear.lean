/- Sums of three texts of one length, by exclusive or, are the sum of all three: for all texts. -/
import Derived.Test.YtlodjdghccejcaaCrcLib
import Derived.Test.YtlodjdghccejcaaPCrcx
namespace Go.Proofs.Ytlodjdghccejcaa.Pure
open Go.RowKit Go.Proofs.Ytlodjdghccejcaa.PCrc Go.Proofs.Ytlodjdghccejcaa.CrcLib Go.Proofs.YtlodjdghccejcaaW.PrintWords Go.Proofs.YtlodjdghccejcaaW.PrintLast

theorem u8_num (a b : Int) (ha : 0 ≤ a ∧ a ≤ 255) (hb : 0 ≤ b ∧ b ≤ 255) : Go.bits .xor .u8 a b = num (bv a ^^^ bv b) := by
  have hr := crc_More.u8_range a b
  rw [← byte_xor a b (by omega) (by omega), num_bv _ hr.1 (by omega)]
theorem xorl_len : ∀ (l m : List Int), l.length = m.length → (xorl l m).length = l.length
  | [], [], _ => rfl
  | x :: l, y :: m, h => by
    rw [xorl, List.length_cons, List.length_cons, xorl_len l m (by simpa using h)]
  | [], _ :: _, h => by simp at h
  | _ :: _, [], h => by simp at h
theorem xorl_bytes : ∀ (l m : List Int), Bytes l → Bytes m → Bytes (xorl l m)
  | [], _, _, _ => fun z hz => by simp [xorl] at hz
  | _ :: _, [], _, _ => fun z hz => by simp [xorl] at hz
  | x :: l, y :: m, hl, hm => fun z hz => by
    rw [xorl, List.mem_cons] at hz
    rcases hz with rfl | hz
    · rw [← u8_num x y (hl x List.mem_cons_self) (hm y List.mem_cons_self)]
      have := crc_More.u8_range x y
      omega
    · exact xorl_bytes l m (fun q hq => hl q (List.mem_cons_of_mem _ hq)) (fun q hq => hm q (List.mem_cons_of_mem _ hq)) z hz
theorem xorl_snoc : ∀ (l m : List Int) (x y : Int), l.length = m.length → xorl (l ++ [x]) (m ++ [y]) = xorl l m ++ [num (bv x ^^^ bv y)]
  | [], [], x, y, _ => rfl
  | a :: l, b :: m, x, y, h => by
    rw [List.cons_append, List.cons_append, xorl, xorl, xorl_snoc l m x y (by simpa using h), List.cons_append]
  | [], _ :: _, _, _, h => by simp at h
  | _ :: _, [], _, _, h => by simp at h
theorem take_snoc (l : List Int) (i : Nat) (h : i < l.length) : l.take (i + 1) = l.take i ++ [rd l i] := by
  have : rd l i = l[i] := by
    unfold rd
    rw [Int.toNat_natCast, List.getD_eq_getElem?_getD, List.getElem?_eq_getElem h, Option.getD_some]
  rw [this, List.take_append_getElem]
theorem rd_byte (l : List Int) (hl : Bytes l) (i : Nat) (h : i < l.length) : 0 ≤ rd l i ∧ rd l i ≤ 255 := by
  have : rd l i = l[i] := by
    unfold rd
    rw [Int.toNat_natCast, List.getD_eq_getElem?_getD, List.getElem?_eq_getElem h, Option.getD_some]
  rw [this]
  exact hl _ (List.getElem_mem h)
theorem lin_l0 (a b c : List Int) (ha : Bytes a) (hb : Bytes b) (hc : Bytes c) (n : Nat) (h1 : n ≤ a.length) (h2 : n ≤ b.length) (h3 : n ≤ c.length) (hn : n ≤ 5000) (d : Nat) : ∀ (k i : Nat), d < k → i + d = n →
    manteletlaw02_CrcLinear.l0 k a b c true n (xorl (xorl (a.take i) (b.take i)) (c.take i)) i = some true := by
  have hlen : ∀ i, i ≤ n → (xorl (a.take i) (b.take i)).length = i ∧ (xorl (xorl (a.take i) (b.take i)) (c.take i)).length = i := fun i hi => by
    have e1 : (xorl (a.take i) (b.take i)).length = i := by rw [xorl_len _ _ (by rw [List.length_take, List.length_take]; omega), List.length_take]; omega
    exact ⟨e1, by rw [xorl_len _ _ (by rw [e1, List.length_take]; omega), e1]⟩
  induction d with
  | zero =>
    intro k i hk hi
    obtain ⟨k, rfl⟩ : ∃ m, k = m + 1 := ⟨k - 1, by omega⟩
    obtain rfl : i = n := by omega
    have hx := xorl_bytes _ _ (xorl_bytes _ _ (bytes_take ha i) (bytes_take hb i)) (bytes_take hc i)
    have hF : F ones (xorl (xorl (a.take i) (b.take i)) (c.take i)) = F ones (a.take i) ^^^ F ones (b.take i) ^^^ F ones (c.take i) := by
      rw [← F_xor _ _ _ _ (by rw [List.length_take, List.length_take]; omega), ← F_xor _ _ _ _ (by rw [(hlen i (Nat.le_refl _)).1, List.length_take]; omega)]
      congr 1
    rw [manteletlaw02_CrcLinear.l0, if_neg (by omega), if_pos rfl, of_f _ hx, Option.bind_some, if_pos (by omega), if_pos (by omega), Int.toNat_natCast, of_f _ (bytes_take ha i), Option.bind_some, if_pos (by omega), of_f _ (bytes_take hb i), Option.bind_some, if_pos (by omega), of_f _ (bytes_take hc i), Option.bind_some, hF]
    simp only [xor_num, bv_num]
    congr 1
    rw [beq_iff_eq]
    congr 1
    generalize F ones (a.take i) = A
    generalize F ones (b.take i) = B
    generalize F ones (c.take i) = C
    have e : (ones ^^^ A) ^^^ (ones ^^^ B) = A ^^^ B := by rw [x4, BitVec.xor_self, BitVec.zero_xor]
    rw [e, ← BitVec.xor_assoc (A ^^^ B), BitVec.xor_comm (A ^^^ B) ones]
    simp only [BitVec.xor_assoc]
  | succ d ih =>
    intro k i hk hi
    obtain ⟨k, rfl⟩ : ∃ m, k = m + 1 := ⟨k - 1, by omega⟩
    have hw : wrap64 ((i : Int) + 1) = ((i + 1 : Nat) : Int) := by unfold wrap64; omega
    have ra := rd_byte a ha i (by omega)
    have rb := rd_byte b hb i (by omega)
    have rc := rd_byte c hc i (by omega)
    have hl := hlen i (by omega)
    have hr := crc_More.u8_range (rd a i) (rd b i)
    have ihh := ih k (i + 1) (by omega) (by omega)
    rw [take_snoc a i (by omega), take_snoc b i (by omega), take_snoc c i (by omega), xorl_snoc _ _ _ _ (by rw [List.length_take, List.length_take]; omega), xorl_snoc _ _ _ _ (by rw [hl.1, List.length_take]; omega), ← u8_num _ _ ra rb, ← u8_num _ _ (by omega) rc] at ihh
    rw [manteletlaw02_CrcLinear.l0, if_pos (by omega), if_pos (by omega), if_pos (by omega), if_pos (by omega), if_pos (by omega), if_pos (by rw [hl.2]; omega), hw]
    exact ihh
theorem CrcLinear : manteletlaw02_CrcLinear.Pure := by
  intro a b c _ ha1 ha _ hb1 hb _ hc1 hc
  replace ha : Bytes a := fun x hx => wf_byte (ha x hx)
  replace hb : Bytes b := fun x hx => wf_byte (hb x hx)
  replace hc : Bytes c := fun x hx => wf_byte (hc x hx)
  have hm : ∃ n : Nat, mn (a.length : Int) (mn (b.length : Int) (c.length : Int)) = n ∧ n ≤ a.length ∧ n ≤ b.length ∧ n ≤ c.length := by
    refine ⟨min a.length (min b.length c.length), ?_, by omega, by omega, by omega⟩
    unfold mn
    omega
  obtain ⟨n, hn, h1, h2, h3⟩ := hm
  refine ⟨6000, ?_⟩
  unfold manteletlaw02_CrcLinear.f
  rw [shown_f, Option.bind_some, hn]
  by_cases hlong : (n : Int) > 5000
  · rw [if_pos hlong]
  · rw [if_neg hlong]
    exact lin_l0 a b c ha hb hc n h1 h2 h3 (by omega) n 6000 0 (by omega) (by omega)
end Go.Proofs.Ytlodjdghccejcaa.Pure
