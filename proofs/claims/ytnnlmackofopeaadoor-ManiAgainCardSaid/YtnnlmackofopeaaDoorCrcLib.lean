/- Plain laws of the sum: what the program's table does to a byte is eight steps of a shift register, which is linear and loses nothing. -/
import Derived.Test.YtnnlmackofopeaaDoorPFrx
namespace Go.Proofs.YtnnlmackofopeaaDoor.CrcLib
open Go.RowKit Go.Proofs.YtnnlmackofopeaaDoor.PFr Go.Proofs.YtnnlmackofopeaaDoorW.PrintWords Go.Proofs.YtnnlmackofopeaaDoorW.PrintLast

def Bytes (l : List Int) : Prop := ∀ x ∈ l, 0 ≤ x ∧ x ≤ 255
theorem wf_byte {x : Int} (h : (Lit.int .u8 x).wf = true) : 0 ≤ x ∧ x ≤ 255 := by simp [Lit.wf, IntKind.min, IntKind.max, IntKind.bits, IntKind.signed] at h; omega
theorem wf_u32 {x : Int} (h : (Lit.int .u32 x).wf = true) : 0 ≤ x ∧ x < 4294967296 := by simp [Lit.wf, IntKind.min, IntKind.max, IntKind.bits, IntKind.signed] at h; omega
theorem wf_u16 {x : Int} (h : (Lit.int .u16 x).wf = true) : 0 ≤ x ∧ x < 65536 := by simp [Lit.wf, IntKind.min, IntKind.max, IntKind.bits, IntKind.signed] at h; omega
abbrev bv (x : Int) : BitVec 32 := BitVec.ofInt 32 x
/-- A word as a number. -/
def num (b : BitVec 32) : Int := (b.toNat : Int)
theorem num_lt (b : BitVec 32) : 0 ≤ num b ∧ num b < 4294967296 := by
  have := b.isLt
  unfold num
  omega
theorem bv_num (b : BitVec 32) : bv (num b) = b := by
  apply BitVec.eq_of_toNat_eq
  unfold num bv
  rw [BitVec.ofInt_natCast, BitVec.toNat_ofNat, Nat.mod_eq_of_lt b.isLt]
theorem num_bv (x : Int) (h0 : 0 ≤ x) (h1 : x < 4294967296) : num (bv x) = x := by
  obtain ⟨n, rfl⟩ := Int.eq_ofNat_of_zero_le h0
  unfold num bv
  rw [BitVec.ofInt_natCast, BitVec.toNat_ofNat, Nat.mod_eq_of_lt (by omega)]
theorem num_inj {a b : BitVec 32} (h : num a = num b) : a = b := by rw [← bv_num a, h, bv_num]
theorem xor_num (a b : Int) : Go.bits .xor .u32 a b = num (bv a ^^^ bv b) := by
  have h := (bv a ^^^ bv b).isLt
  show IntKind.u32.wrap (((bv a ^^^ bv b).toNat : Nat) : Int) = num (bv a ^^^ bv b)
  unfold num
  generalize (bv a ^^^ bv b).toNat = q at *
  rw [IntKind.wrap_u32]
  omega
theorem and_one (c : Int) (h0 : 0 ≤ c) : Go.bits .and .u32 c 1 = c % 2 := by
  obtain ⟨n, rfl⟩ := Int.eq_ofNat_of_zero_le h0
  show IntKind.u32.wrap (((BitVec.ofInt 32 (n : Int) &&& BitVec.ofInt 32 (1 : Int)).toNat : Nat) : Int) = _
  have e1 : BitVec.ofInt 32 (1 : Int) = 1#32 := rfl
  rw [IntKind.wrap_u32, e1, BitVec.ofInt_natCast, BitVec.toNat_and, BitVec.toNat_ofNat, BitVec.toNat_ofNat, show 1 % 2 ^ 32 = 1 from rfl, Nat.and_one_is_mod]
  omega
def P : BitVec 32 := 3988292384#32
/-- One step. -/
def S1 (c : BitVec 32) : BitVec 32 := (c >>> 1) ^^^ (if c.getLsbD 0 then P else 0#32)
theorem x4 (a p b q : BitVec 32) : (a ^^^ p) ^^^ (b ^^^ q) = (a ^^^ b) ^^^ (p ^^^ q) := by
  rw [BitVec.xor_assoc, BitVec.xor_assoc]
  congr 1
  rw [← BitVec.xor_assoc, BitVec.xor_comm p b, BitVec.xor_assoc]
theorem S1_xor (a b : BitVec 32) : S1 (a ^^^ b) = S1 a ^^^ S1 b := by
  unfold S1
  rw [x4, BitVec.ushiftRight_xor_distrib, BitVec.getLsbD_xor]
  congr 1
  cases a.getLsbD 0 <;> cases b.getLsbD 0 <;> simp
theorem lsb_num (c : BitVec 32) : c.getLsbD 0 = decide (num c % 2 = 1) := by
  rw [BitVec.getLsbD, Nat.testBit_zero]
  unfold num
  congr 1
  exact propext ⟨fun h => by omega, fun h => by omega⟩
theorem shr_num (c : BitVec 32) : num (c >>> 1) = num c / 2 := by
  unfold num
  rw [BitVec.toNat_ushiftRight, Nat.shiftRight_eq_div_pow]
  omega
theorem s1_num (c : BitVec 32) : crc_More.s1 (num c) = num (S1 c) := by
  have hc := num_lt c
  unfold crc_More.s1 S1
  rw [and_one _ hc.1, lsb_num]
  by_cases h : num c % 2 = 1
  · rw [if_pos h, if_pos (decide_eq_true h), xor_num, ← shr_num, bv_num]
    rfl
  · rw [if_neg h, if_neg (by simpa using h), BitVec.xor_zero, shr_num]
def it : Nat → BitVec 32 → BitVec 32
  | 0, c => c
  | k + 1, c => S1 (it k c)
theorem it_num (k : Nat) (c : BitVec 32) : crc_More.it k (num c) = num (it k c) := by
  induction k with
  | zero => rfl
  | succ k ih => rw [crc_More.it, ih, s1_num, it]
theorem it_xor (k : Nat) (a b : BitVec 32) : it k (a ^^^ b) = it k a ^^^ it k b := by
  induction k with
  | zero => rfl
  | succ k ih => rw [it, ih, S1_xor, it, it]
/-- What a byte does. -/
abbrev S8 (c : BitVec 32) : BitVec 32 := it 8 c
theorem S1_zero (c : BitVec 32) (h : S1 c = 0#32) : c = 0#32 := by
  unfold S1 at h
  cases hb : c.getLsbD 0 with
  | true =>
    rw [hb, if_pos rfl] at h
    have h31 := congrArg (fun b : BitVec 32 => b.getLsbD 31) h
    simp only [BitVec.getLsbD_xor, BitVec.getLsbD_ushiftRight] at h31
    have e1 : c.getLsbD (1 + 31) = false := BitVec.getLsbD_of_ge c 32 (Nat.le_refl _)
    rw [e1] at h31
    exact absurd h31 (by decide)
  | false =>
    rw [hb, if_neg (by decide), BitVec.xor_zero] at h
    have h2 := congrArg num h
    rw [shr_num] at h2
    have hl := lsb_num c
    rw [hb] at hl
    have : ¬ num c % 2 = 1 := by
      intro q
      rw [decide_eq_true q] at hl
      exact absurd hl (by decide)
    have hz : num c = num (0#32) := by
      have hz0 : num (0#32) = 0 := rfl
      rw [hz0] at h2 ⊢
      have := num_lt c
      omega
    exact num_inj hz
theorem it_zero (k : Nat) (c : BitVec 32) (h : it k c = 0#32) : c = 0#32 := by
  induction k with
  | zero => exact h
  | succ k ih => exact ih (S1_zero _ h)
theorem it_of_zero (k : Nat) : it k 0#32 = 0#32 := by
  induction k with
  | zero => rfl
  | succ k ih => rw [it, ih]; decide
theorem xor_eq_zero {a b : BitVec 32} (h : a ^^^ b = 0#32) : a = b := by
  have : a ^^^ b ^^^ b = 0#32 ^^^ b := by rw [h]
  rw [BitVec.xor_assoc, BitVec.xor_self, BitVec.xor_zero, BitVec.zero_xor] at this
  exact this
theorem it_inj (k : Nat) {a b : BitVec 32} (h : it k a = it k b) : a = b := by
  apply xor_eq_zero
  apply it_zero k
  rw [it_xor, h, BitVec.xor_self]
/-- Eight steps of what has no low byte only move it. -/
theorem it_shift : ∀ (k : Nat) (m : Int), 0 ≤ m → crc_More.it k (2 ^ k * m) = m
  | 0, m, _ => by simp [crc_More.it]
  | k + 1, m, h => by
    have hk := it_shift k (2 * m) (by omega)
    have e : (2 : Int) ^ (k + 1) * m = 2 ^ k * (2 * m) := by rw [Int.pow_succ, Int.mul_assoc]
    rw [crc_More.it, e, hk, crc_More.s1, and_one _ (by omega), if_neg (by omega)]
    omega
theorem byte_xor (a b : Int) (ha : 0 ≤ a ∧ a < 256) (hb : 0 ≤ b ∧ b < 256) : bv (Go.bits .xor .u8 a b) = bv a ^^^ bv b := by
  obtain ⟨m, rfl⟩ := Int.eq_ofNat_of_zero_le ha.1
  obtain ⟨n, rfl⟩ := Int.eq_ofNat_of_zero_le hb.1
  have hm : m < 2 ^ 8 := by omega
  have hn : n < 2 ^ 8 := by omega
  have hx : m ^^^ n < 2 ^ 8 := Nat.xor_lt_two_pow hm hn
  have e : Go.bits .xor .u8 m n = ((m ^^^ n : Nat) : Int) := by
    show IntKind.u8.wrap (((BitVec.ofInt 8 (m : Int) ^^^ BitVec.ofInt 8 (n : Int)).toNat : Nat) : Int) = _
    rw [IntKind.wrap_u8, BitVec.ofInt_natCast, BitVec.ofInt_natCast, BitVec.toNat_xor, BitVec.toNat_ofNat, BitVec.toNat_ofNat, Nat.mod_eq_of_lt hm, Nat.mod_eq_of_lt hn]
    generalize m ^^^ n = q at *
    omega
  rw [e]
  unfold bv
  apply BitVec.eq_of_toNat_eq
  rw [BitVec.ofInt_natCast, BitVec.ofInt_natCast, BitVec.ofInt_natCast, BitVec.toNat_xor, BitVec.toNat_ofNat, BitVec.toNat_ofNat, BitVec.toNat_ofNat, Nat.mod_eq_of_lt (by omega), Nat.mod_eq_of_lt (by omega), Nat.mod_eq_of_lt (by omega)]
theorem tab_at (j : Nat) (hj : j < 256) : (crc_More.tab 256).getD j 0 = num (S8 (bv j)) := by
  unfold crc_More.tab
  rw [List.getD_eq_getElem?_getD, List.getElem?_append_left (by simp; omega), List.getElem?_map, List.getElem?_range hj, Option.map_some, Option.getD_some]
  have : (j : Int) = num (bv j) := (num_bv j (by omega) (by omega)).symm
  rw [this, it_num, ← this]
theorem split (c : Int) (h0 : 0 ≤ c) (h1 : c < 4294967296) : bv c = bv (256 * (c / 256)) ^^^ bv (c % 256) := by
  obtain ⟨n, rfl⟩ := Int.eq_ofNat_of_zero_le h0
  have e1 : (256 : Int) * ((n : Int) / 256) = ((2 ^ 8 * (n / 2 ^ 8) : Nat) : Int) := by omega
  have e2 : (n : Int) % 256 = ((n % 2 ^ 8 : Nat) : Int) := by omega
  rw [e1, e2]
  unfold bv
  apply BitVec.eq_of_toNat_eq
  rw [BitVec.ofInt_natCast, BitVec.ofInt_natCast, BitVec.ofInt_natCast, BitVec.toNat_xor, BitVec.toNat_ofNat, BitVec.toNat_ofNat, BitVec.toNat_ofNat, Nat.mod_eq_of_lt (by omega), Nat.mod_eq_of_lt (by omega), Nat.mod_eq_of_lt (by omega)]
  have hl : n % 2 ^ 8 < 2 ^ 8 := Nat.mod_lt _ (by decide)
  have hz : 2 ^ 8 * (n / 2 ^ 8) &&& n % 2 ^ 8 = 0 := by
    apply Nat.eq_of_testBit_eq
    intro i
    rw [Nat.testBit_and, Nat.zero_testBit, Nat.testBit_two_pow_mul, Nat.testBit_mod_two_pow]
    by_cases h : i < 8
    · rw [decide_eq_false (show ¬ i ≥ 8 by omega), Bool.false_and, Bool.false_and]
    · rw [decide_eq_false h, Bool.false_and, Bool.and_false]
  have hor : 2 ^ 8 * (n / 2 ^ 8) ||| n % 2 ^ 8 = n := by
    rw [← Nat.two_pow_add_eq_or_of_lt hl]
    omega
  have hx : 2 ^ 8 * (n / 2 ^ 8) ^^^ n % 2 ^ 8 = 2 ^ 8 * (n / 2 ^ 8) ||| n % 2 ^ 8 := by
    apply Nat.eq_of_testBit_eq
    intro i
    have hi := congrArg (fun q => q.testBit i) hz
    simp only [Nat.testBit_and, Nat.zero_testBit] at hi
    rw [Nat.testBit_xor, Nat.testBit_or]
    cases h1 : (2 ^ 8 * (n / 2 ^ 8)).testBit i <;> cases h2 : (n % 2 ^ 8).testBit i <;> simp_all
  rw [hx, hor]
/-- The program's step is eight steps of the register. -/
theorem step_num (c : BitVec 32) (x : Int) (hx : 0 ≤ x ∧ x ≤ 255) : crc_More.step (num c) x = num (S8 (c ^^^ bv x)) := by
  have hc := num_lt c
  have hr := crc_More.u8_range (num c % 256) x
  unfold crc_More.step
  rw [tab_at _ (by omega), xor_num, bv_num]
  congr 1
  have ej : ((Go.bits .xor .u8 (num c % 256) x).toNat : Int) = Go.bits .xor .u8 (num c % 256) x := Int.toNat_of_nonneg hr.1
  rw [ej, byte_xor _ _ (by omega) (by omega)]
  have eh : bv (num c / 256) = S8 (bv (256 * (num c / 256))) := by
    apply num_inj
    rw [← it_num, num_bv _ (by omega) (by omega), num_bv _ (by omega) (by omega)]
    exact (it_shift 8 (num c / 256) (by omega)).symm
  rw [eh, ← it_xor]
  congr 1
  rw [BitVec.xor_assoc, BitVec.xor_comm (bv x), ← BitVec.xor_assoc, BitVec.xor_comm (bv (num c % 256)), ← split _ hc.1 hc.2, bv_num]
/-- What bytes do. -/
def F (s : BitVec 32) (l : List Int) : BitVec 32 := l.foldl (fun s x => S8 (s ^^^ bv x)) s
theorem F_nil (s : BitVec 32) : F s [] = s := rfl
theorem F_cons (s : BitVec 32) (x : Int) (l : List Int) : F s (x :: l) = F (S8 (s ^^^ bv x)) l := rfl
theorem F_append (s : BitVec 32) (l m : List Int) : F s (l ++ m) = F (F s l) m := by unfold F; rw [List.foldl_append]
theorem fold_num : ∀ (l : List Int) (s : BitVec 32), Bytes l → l.foldl crc_More.step (num s) = num (F s l)
  | [], s, _ => rfl
  | x :: l, s, h => by
    rw [List.foldl_cons, step_num s x (h x List.mem_cons_self), fold_num l _ (fun y hy => h y (List.mem_cons_of_mem _ hy)), F_cons]
abbrev ones : BitVec 32 := bv 4294967295
theorem ones_twice (b : BitVec 32) : ones ^^^ (ones ^^^ b) = b := by rw [← BitVec.xor_assoc, BitVec.xor_self, BitVec.zero_xor]
/-- What the program tells. -/
theorem more_f (c : Int) (l : List Int) (hl : Bytes l) : crc_More.f c l = some (num (ones ^^^ F (ones ^^^ bv c) l)) := by
  unfold crc_More.f crc_More.raw
  rw [xor_num 4294967295 c, fold_num l _ hl, xor_num, bv_num]
theorem of_f (l : List Int) (hl : Bytes l) : crc_Of.f l = some (num (ones ^^^ F ones l)) := by
  unfold crc_Of.f
  rw [more_f 0 l hl, Option.bind_some]
  have : bv 0 = 0#32 := rfl
  rw [this, BitVec.xor_zero]
/-- Linear: two registers, two texts. -/
def xorl : List Int → List Int → List Int
  | x :: l, y :: m => num (bv x ^^^ bv y) :: xorl l m
  | _, _ => []
theorem F_xor : ∀ (l m : List Int) (a b : BitVec 32), l.length = m.length → F (a ^^^ b) (xorl l m) = F a l ^^^ F b m
  | [], [], a, b, _ => rfl
  | x :: l, y :: m, a, b, h => by
    rw [xorl, F_cons, F_cons, F_cons, ← F_xor l m _ _ (by simpa using h), bv_num, ← it_xor]
    congr 2
    rw [BitVec.xor_assoc, BitVec.xor_assoc]
    congr 1
    rw [← BitVec.xor_assoc, BitVec.xor_comm b, BitVec.xor_assoc]
  | [], _ :: _, _, _, h => by simp at h
  | _ :: _, [], _, _, h => by simp at h
/-- Bytes lose nothing of the register. -/
theorem F_inj : ∀ (l : List Int) (a b : BitVec 32), F a l = F b l → a = b
  | [], a, b, h => h
  | x :: l, a, b, h => by
    rw [F_cons, F_cons] at h
    have h1 := it_inj 8 (F_inj l _ _ h)
    apply xor_eq_zero
    have h2 : a ^^^ bv x ^^^ (b ^^^ bv x) = 0#32 := by rw [h1, BitVec.xor_self]
    rw [BitVec.xor_comm b, BitVec.xor_assoc, ← BitVec.xor_assoc (bv x), BitVec.xor_self, BitVec.zero_xor] at h2
    exact h2
theorem bytes_take {a : List Int} (ha : Bytes a) (k : Nat) : Bytes (a.take k) := fun x hx => ha x (List.mem_of_mem_take hx)
theorem bytes_drop {a : List Int} (ha : Bytes a) (k : Nat) : Bytes (a.drop k) := fun x hx => ha x (List.mem_of_mem_drop hx)

end Go.Proofs.YtnnlmackofopeaaDoor.CrcLib
