/- As many bytes 0 as unlike numbers (below 5000) have unlike sums: for all numbers. -/
import Derived.Test.YtlodjdghccejcaaCrcLib
import Derived.Test.YtlodjdghccejcaaPCrcx
namespace Go.Proofs.Ytlodjdghccejcaa.Pure
open Go.RowKit Go.Proofs.Ytlodjdghccejcaa.PCrc Go.Proofs.Ytlodjdghccejcaa.CrcLib Go.Proofs.YtlodjdghccejcaaW.PrintWords Go.Proofs.YtlodjdghccejcaaW.PrintLast

/-- One step, in plain numbers. -/
def n1 (c : Nat) : Nat := Nat.xor (c / 2) (c % 2 * 3988292384)
def n8 (c : Nat) : Nat := n1 (n1 (n1 (n1 (n1 (n1 (n1 (n1 c)))))))
/-- The register does not come back within k bytes 0. -/
def away : Nat → Nat → Bool
  | 0, _ => true
  | k + 1, c => !(Nat.beq (n8 c) 4294967295) && away k (n8 c)
theorem n1_toNat (c : BitVec 32) : n1 c.toNat = (S1 c).toNat := by
  have hl := lsb_num c
  have hs : (c >>> 1).toNat = c.toNat / 2 := by rw [BitVec.toNat_ushiftRight, Nat.shiftRight_eq_div_pow]
  unfold n1 S1
  have hx : ∀ p : Nat, Nat.xor (c.toNat / 2) p = (c >>> 1).toNat ^^^ p := fun p => by rw [hs]; rfl
  rw [hx, BitVec.toNat_xor]
  congr 1
  cases hb : c.getLsbD 0 with
  | true =>
    rw [hb] at hl
    have : num c % 2 = 1 := of_decide_eq_true hl.symm
    unfold num at this
    rw [show c.toNat % 2 = 1 by omega]
    rfl
  | false =>
    rw [hb] at hl
    have : ¬ num c % 2 = 1 := of_decide_eq_false hl.symm
    unfold num at this
    rw [show c.toNat % 2 = 0 by omega]
    rfl
theorem n8_toNat (c : BitVec 32) : n8 c.toNat = (S8 c).toNat := by
  unfold n8
  rw [n1_toNat, n1_toNat, n1_toNat, n1_toNat, n1_toNat, n1_toNat, n1_toNat, n1_toNat]
  rfl
theorem it_add (a b : Nat) (c : BitVec 32) : it (a + b) c = it b (it a c) := by
  induction b with
  | zero => rfl
  | succ b ih => rw [← Nat.add_assoc, it, ih, it]
theorem away_it : ∀ (k : Nat) (c : BitVec 32), away k c.toNat = true → ∀ d, 1 ≤ d → d ≤ k → it (8 * d) c ≠ ones
  | 0, c, _, d, h1, h2 => by omega
  | k + 1, c, h, d, h1, h2 => by
    rw [away, n8_toNat, Bool.and_eq_true] at h
    obtain ⟨ha, hb⟩ := h
    by_cases hd : d = 1
    · subst hd
      intro e
      rw [Nat.mul_one] at e
      have ha : (!(Nat.beq (it 8 c).toNat 4294967295)) = true := ha
      rw [e] at ha
      exact absurd ha (by decide)
    · obtain ⟨d', rfl⟩ : ∃ m, d = m + 1 := ⟨d - 1, by omega⟩
      rw [Nat.mul_add, Nat.mul_one, Nat.add_comm, it_add]
      exact away_it k (S8 c) hb d' (by omega) (by omega)
set_option maxRecDepth 100000 in
theorem away_all : away 4999 4294967295 = true := by decide +kernel
theorem F_zeros : ∀ (n : Nat) (s : BitVec 32), F s (List.replicate n 0) = it (8 * n) s
  | 0, s => rfl
  | n + 1, s => by
    have e : bv 0 = 0#32 := rfl
    rw [List.replicate_succ, F_cons, F_zeros n, e, BitVec.xor_zero, Nat.mul_add, Nat.mul_one, Nat.add_comm, it_add]
theorem unlike (a b : Nat) (ha : a < b) (hb : b < 5000) : it (8 * a) ones ≠ it (8 * b) ones := by
  intro h
  have e : 8 * b = 8 * (b - a) + 8 * a := by omega
  rw [e, it_add] at h
  exact away_it 4999 ones away_all (b - a) (by omega) (by omega) (it_inj _ h).symm
theorem CrcZeros : manteletlaw02_CrcZeros.Pure := by
  intro a b ha hb
  replace ha := wf_u16 ha
  replace hb := wf_u16 hb
  have hz : ∀ n, Bytes (List.replicate n 0) := fun n x hx => by
    have := List.eq_of_mem_replicate hx
    omega
  have e : ∀ x : Int, 0 ≤ x → x < 65536 → wrap64 (Int.tmod x 5000) = ((x % 5000).toNat : Int) := fun x h0 h1 => by
    rw [Int.tmod_eq_emod_of_nonneg h0]
    unfold wrap64
    omega
  have h1 : (a % 5000).toNat < 5000 := by omega
  have h2 : (b % 5000).toNat < 5000 := by omega
  unfold manteletlaw02_CrcZeros.f
  rw [shown_f, Option.bind_some, e a ha.1 ha.2, e b hb.1 hb.2]
  generalize (a % 5000).toNat = m at *
  generalize (b % 5000).toNat = n at *
  rw [if_pos rfl, if_pos (by omega), Int.toNat_natCast, if_pos (by omega), of_f _ (hz m), Option.bind_some, if_pos (by omega), Int.toNat_natCast, if_pos (by omega), of_f _ (hz n), Option.bind_some, F_zeros, F_zeros]
  congr 1
  rw [beq_iff_eq, Bool.eq_iff_iff, beq_iff_eq, beq_iff_eq]
  constructor
  · intro h
    have h := num_inj h
    have h3 : it (8 * m) ones = it (8 * n) ones := by rw [← ones_twice (it (8 * m) ones), h, ones_twice]
    have : m < n ∨ m = n ∨ n < m := by omega
    rcases this with q | q | q
    · exact absurd h3 (unlike m n q h2)
    · omega
    · exact absurd h3.symm (unlike n m q h1)
  · intro h
    rw [show m = n by omega]
end Go.Proofs.Ytlodjdghccejcaa.Pure
