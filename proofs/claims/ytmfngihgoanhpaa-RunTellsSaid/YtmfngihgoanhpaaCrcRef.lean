/- The reference's sum is the program's. -/
import Derived.Test.YtmfngihgoanhpaaCrcLib
import Derived.Test.YtmfngihgoanhpaaPRunx8
namespace Go.Proofs.Ytmfngihgoanhpaa.CrcLib
open Go.RowKit Go.Proofs.Ytmfngihgoanhpaa.PRun Go.Proofs.YtmfngihgoanhpaaW.PrintWords Go.Proofs.YtmfngihgoanhpaaW.PrintLast

theorem flip_num (c : BitVec 32) : (4294967295 - num c) % 4294967296 = num (ones ^^^ c) := by
  have hc := c.isLt
  have e : ones = BitVec.allOnes 32 := by decide
  unfold num
  rw [e, BitVec.xor_comm, BitVec.xor_allOnes, BitVec.toNat_not]
  omega
theorem ref_s1 (c : BitVec 32) : (if Int.tmod (num c) 2 = 1 then Go.bits .xor .u32 ((Int.tdiv (num c) 2) % 4294967296) 3988292384 else (Int.tdiv (num c) 2) % 4294967296) = num (S1 c) := by
  have hc := num_lt c
  have e1 : Int.tdiv (num c) 2 % 4294967296 = num c / 2 := by rw [Int.tdiv_eq_ediv_of_nonneg hc.1]; omega
  rw [Int.tmod_eq_emod_of_nonneg hc.1, e1, ← s1_num, crc_More.s1, and_one _ hc.1]
theorem it_front (d : Nat) (c : BitVec 32) : it d (S1 c) = it (d + 1) c := by
  induction d with
  | zero => rfl
  | succ d ih => rw [it, ih, it, it, it]
theorem ref_l1 (l : List Int) (i : Nat) (hi : i ≤ 100000000) (d : Nat) : ∀ (k : Nat) (c : BitVec 32), d ≤ 8 → manteletref02_More.l1 (k + d + 1) (num c) l i ((8 - d : Nat) : Int) = manteletref02_More.l0 k (num (it d c)) l ((i + 1 : Nat) : Int) := by
  have hw : wrap64 ((i : Int) + 1) = ((i + 1 : Nat) : Int) := by unfold wrap64; omega
  induction d with
  | zero =>
    intro k c hd
    rw [manteletref02_More.l1, if_neg (by omega), hw]
    rfl
  | succ d ih =>
    intro k c hd
    have hw2 : wrap64 (((8 - (d + 1) : Nat) : Int) + 1) = ((8 - d : Nat) : Int) := by unfold wrap64; omega
    have hs := ref_s1 c
    have ihh := ih k (S1 c) (by omega)
    rw [it_front] at ihh
    rw [← hs] at ihh
    rw [show k + (d + 1) + 1 = (k + d + 1) + 1 by omega, manteletref02_More.l1, if_pos (by omega), hw2]
    by_cases h : Int.tmod (num c) 2 = 1
    · rw [if_pos h] at ihh ⊢
      exact ihh
    · rw [if_neg h] at ihh ⊢
      exact ihh
theorem ref_l0 (l : List Int) (hl : Bytes l) (hlen : l.length ≤ 1000000) (d : Nat) : ∀ (k i : Nat) (c : BitVec 32), 10 * d < k → i + d = l.length → manteletref02_More.l0 k (num c) l i = some (num (ones ^^^ F c (l.drop i))) := by
  induction d with
  | zero =>
    intro k i c hk hi
    obtain ⟨k, rfl⟩ : ∃ m, k = m + 1 := ⟨k - 1, by omega⟩
    rw [manteletref02_More.l0, if_neg (by omega), flip_num, List.drop_eq_nil_of_le (by omega), F_nil]
  | succ d ih =>
    intro k i c hk hi
    obtain ⟨k, rfl⟩ : ∃ m, k = m + 8 + 1 + 1 := ⟨k - 10, by omega⟩
    have hx : rd l i = l[i]'(by omega) := by
      unfold rd
      rw [Int.toNat_natCast, List.getD_eq_getElem?_getD, List.getElem?_eq_getElem (by omega), Option.getD_some]
    have hb := hl _ (List.getElem_mem (show i < l.length by omega))
    rw [← hx] at hb
    have e : rd l i % 4294967296 = rd l i := by omega
    have h8 := ref_l1 l i (by omega) 8 k (c ^^^ bv (rd l i)) (Nat.le_refl _)
    rw [manteletref02_More.l0, if_pos (by omega), if_pos (by omega), e, xor_num, bv_num]
    rw [show ((8 - 8 : Nat) : Int) = 0 from rfl] at h8
    rw [h8, ih k (i + 1) _ (by omega) (by omega), List.drop_eq_getElem_cons (show i < l.length by omega), F_cons, hx]
theorem ref_more (c : Int) (l : List Int) (hc : 0 ≤ c ∧ c < 4294967296) (hl : Bytes l) (hlen : l.length ≤ 1000000) (k : Nat) (hk : 10 * l.length < k) : manteletref02_More.f k c l = some (num (ones ^^^ F (ones ^^^ bv c) l)) := by
  unfold manteletref02_More.f
  have e : (4294967295 - c) % 4294967296 = num (ones ^^^ bv c) := by rw [← flip_num, num_bv c hc.1 hc.2]
  have := ref_l0 l hl hlen l.length k 0 (ones ^^^ bv c) hk (by omega)
  rw [e]
  rw [Int.natCast_zero, List.drop_zero] at this
  exact this
theorem ref_of (l : List Int) (hl : Bytes l) (hlen : l.length ≤ 1000000) (k : Nat) (hk : 10 * l.length < k) : manteletref02_Of.f k l = some (num (ones ^^^ F ones l)) := by
  unfold manteletref02_Of.f
  have : bv 0 = 0#32 := rfl
  rw [ref_more 0 l (by omega) hl hlen k hk, Option.bind_some, this, BitVec.xor_zero]
end Go.Proofs.Ytmfngihgoanhpaa.CrcLib
