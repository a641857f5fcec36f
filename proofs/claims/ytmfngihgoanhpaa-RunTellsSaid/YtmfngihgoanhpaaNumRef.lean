/- The reference's numbers are the program's. -/
import Derived.Test.YtmfngihgoanhpaaNumLib
import Derived.Test.YtmfngihgoanhpaaPRunx9
namespace Go.Proofs.Ytmfngihgoanhpaa.NumLib
open Go.RowKit Go.Proofs.Ytmfngihgoanhpaa.PRun Go.Proofs.YtmfngihgoanhpaaW.PrintWords Go.Proofs.YtmfngihgoanhpaaW.PrintLast

/-- The reference puts so. -/
theorem ref_put_l0 : ∀ (j k : Nat) (n : Int) (l : List Int), j < k → 0 ≤ n → n < 128 ^ (j + 1) → n < 18446744073709551616 → l.length + j < 140737488355328 → manteletref01_Put.l0 k n l = some (l ++ put j n)
  | j, 0, n, l, hk, _, _, _, _ => by omega
  | 0, k + 1, n, l, hk, h0, h1, _, hl => by
    simp at h1
    rw [manteletref01_Put.l0, if_neg (by omega), if_pos (by omega), put]
    congr 2
    simp
    omega
  | j + 1, k + 1, n, l, hk, h0, h1, h3, hl => by
    rw [manteletref01_Put.l0, put]
    by_cases hn : n ≥ 128
    · have h2 : n / 128 < 128 ^ (j + 1) := by
        rw [Int.pow_succ] at h1
        generalize (128 : Int) ^ (j + 1) = p at *
        omega
      have e1 : IntKind.u64.wrap (Int.tdiv n 128) = n / 128 := by
        rw [u64_wrap, Int.tdiv_eq_ediv_of_nonneg h0]
        omega
      have e2 : IntKind.u64.wrap (128 + Int.tmod n 128) % 256 = n % 128 + 128 := by
        rw [u64_wrap, Int.tmod_eq_emod_of_nonneg h0]
        omega
      rw [if_pos (by omega), if_pos (by omega), if_pos hn, e1, e2, ref_put_l0 j k _ _ (by omega) (by omega) h2 (by omega) (by simp; omega)]
      simp
    · rw [if_neg (by omega), if_pos (by omega), if_neg hn]
      congr 3
      omega
theorem ref_put_f (k : Nat) (n : Int) (l : List Int) (hk : 9 < k) (h0 : 0 ≤ n) (h1 : n < 18446744073709551616) (hl : l.length + 10 < 140737488355328) : manteletref01_Put.f k l n = some (l ++ putn n) := by
  unfold manteletref01_Put.f
  rw [Option.bind_some, if_pos (by simp; omega)]
  exact ref_put_l0 9 k n l hk h0 (by omega) h1 (by omega)
/-- 128 to the s, not looked into. -/
structure Pw (s : Nat) (p : Int) : Prop where
  eq : p = 128 ^ s
theorem Pw.pos {s : Nat} {p : Int} (h : Pw s p) : 0 < p := by rw [h.eq]; exact Int.pow_pos (by decide)
theorem Pw.next {s : Nat} {p : Int} (h : Pw s p) : Pw (s + 1) (p * 128) := ⟨by rw [h.eq, Int.pow_succ]⟩
theorem Pw.le {s : Nat} {p : Int} (h : Pw s p) (hs : s ≤ 8) : p ≤ 72057594037927936 := by
  have := Nat.pow_le_pow_right (n := 128) (by decide) hs
  have h2 : (128 : Int) ^ s ≤ 128 ^ 8 := by exact_mod_cast this
  rw [h.eq]
  exact Int.le_trans h2 (by decide)
theorem Pw.nine {p : Int} (h : Pw 9 p) : p = 9223372036854775808 := by rw [h.eq]; decide
/-- What is answered, s numbers having been read that say n, where the end is found in t at o. -/
def fin (l : List Int) (s : Nat) (n p : Int) (t : List Int) : Option Nat → Int × Int × Int
  | none => (0, 0, 3)
  | some c => if s + c = 10 ∨ (s + c = 9 ∧ rd l (s + c : Nat) > 1) ∨ (0 < s + c ∧ rd l (s + c : Nat) = 0) then (0, 0, 2) else (n + p * valL (c + 1) t, ((s + c : Nat) : Int) + 1, 0)
theorem valL0 (t : List Int) : valL 0 t = 0 := by cases t <;> rfl
/-- The tenth number. -/
theorem ref_get_nine (l t : List Int) (k : Nat) (n p : Int) (hlt : 9 < l.length) (hx : 0 ≤ rd l (9 : Nat) ∧ rd l (9 : Nat) ≤ 255) (hp : Pw 9 p) (h0 : 0 ≤ n) (h1 : n < p) (b : Bool) (hbb : b = decide (rd l (9 : Nat) > 1)) :
    manteletref01_Get.j1 (k + 1) l n (p % 18446744073709551616) (9 : Nat) (rd l (9 : Nat) % 128) b = some (fin l 9 n p (rd l (9 : Nat) :: t) (scanL (0 + 1) (rd l (9 : Nat) :: t))) := by
  have hp9 := hp.nine
  rw [manteletref01_Get.j1, scanL]
  by_cases hg : rd l (9 : Nat) > 1
  · rw [if_pos (by rw [hbb]; simpa using hg)]
    by_cases h128 : rd l (9 : Nat) < 128
    · rw [if_pos h128, fin, if_pos (.inr (.inl ⟨rfl, hg⟩))]
    · rw [if_neg h128, scanL]
      rfl
  · rw [if_neg (by rw [hbb]; simpa using hg), if_pos (show (0 : Int) ≤ (9 : Nat) by decide), if_pos (show ((9 : Nat) : Int) < (l.length : Int) by omega), if_pos (show rd l (9 : Nat) < 128 by omega), if_pos (show ((9 : Nat) : Int) > 0 by decide), if_pos (show rd l (9 : Nat) < 128 by omega), fin]
    by_cases hz : rd l (9 : Nat) = 0
    · rw [if_pos hz, if_pos (.inr (.inr ⟨by decide, hz⟩))]
    · rw [if_neg hz, if_neg (by
        rintro (q | ⟨_, q⟩ | ⟨_, q⟩)
        · omega
        · exact hg q
        · exact hz q)]
      have e1 : rd l (9 : Nat) = 1 := by omega
      rw [valL, valL0, e1, u64_wrap, u64_wrap]
      have : wrap64 ((9 : Nat) + 1) = (9 : Nat) + 1 := by unfold wrap64; omega
      rw [this]
      congr 2
      omega
theorem ref_unit (n x p : Int) (hp0 : 0 < p) (hp8 : p ≤ 72057594037927936) (h0 : 0 ≤ n) (h1 : n < p) : IntKind.u64.wrap (n + IntKind.u64.wrap (x % 128 * (p % 18446744073709551616))) = n + p * (x % 128) ∧ IntKind.u64.wrap (p % 18446744073709551616 * 128) = p * 128 % 18446744073709551616 ∧ 0 ≤ n + p * (x % 128) ∧ n + p * (x % 128) < p * 128 := by
  have em : p % 18446744073709551616 = p := Int.emod_eq_of_lt (by omega) (by omega)
  have hm0 : 0 ≤ x % 128 * p := Int.mul_nonneg (by omega) (by omega)
  have hm1 : x % 128 * p ≤ 127 * p := Int.mul_le_mul_of_nonneg_right (by omega) (by omega)
  rw [em, u64_wrap, u64_wrap, u64_wrap, Int.mul_comm p (x % 128)]
  generalize x % 128 * p = m at *
  refine ⟨?_, rfl, ?_, ?_⟩ <;> omega
/-- The reference reads so: s numbers have been read, n is what they say. -/
theorem ref_get_l0 (l : List Int) (hb : Bytes l) (hlen : l.length < 140737488355328) : ∀ (d k s : Nat) (n p : Int), Pw s p → s + d = 10 → 2 * d < k → s ≤ l.length → 0 ≤ n → n < p → manteletref01_Get.l0 k l n (p % 18446744073709551616) s =
    some (fin l s n p (l.drop s) (scanL d (l.drop s)))
  | 0, k, s, n, p, _, h, hk, hs, h0, h1 => by
    obtain ⟨k, rfl⟩ : ∃ m, k = m + 1 := ⟨k - 1, by omega⟩
    obtain rfl : s = 10 := by omega
    rw [manteletref01_Get.l0, if_neg (by decide)]
    rfl
  | d + 1, k0, s, n, p, hp, h, hk, hs, h0, h1 => by
    obtain ⟨k, rfl⟩ : ∃ m, k0 = m + 2 := ⟨k0 - 2, by omega⟩
    rw [manteletref01_Get.l0, if_pos (show (s : Int) < 10 by omega)]
    by_cases he : s = l.length
    · rw [if_pos (show (s : Int) = (l.length : Int) by omega), he, List.drop_length]
      rfl
    · have hlt : s < l.length := by omega
      have hx : 0 ≤ rd l s ∧ rd l s ≤ 255 := by
        unfold rd
        rw [Int.toNat_natCast, List.getD_eq_getElem?_getD, List.getElem?_eq_getElem hlt, Option.getD_some]
        exact hb _ (List.getElem_mem hlt)
      have ed : IntKind.u64.wrap (Int.tmod (rd l s) 128) = rd l s % 128 := by
        rw [u64_wrap, Int.tmod_eq_emod_of_nonneg hx.1]
        omega
      rw [if_neg (show ¬ (s : Int) = (l.length : Int) by omega), if_pos (show (0 : Int) ≤ s by omega), if_pos (show (s : Int) < (l.length : Int) by omega), ed, rd_drop l s hlt]
      by_cases h9 : s = 9
      · subst h9
        obtain rfl : d = 0 := by omega
        rw [if_pos (show ((9 : Nat) : Int) = 9 from rfl)]
        by_cases hg : rd l (9 : Nat) % 128 > 1
        · rw [if_pos hg]
          exact ref_get_nine l _ k n p hlt hx hp h0 h1 true (decide_eq_true (show rd l (9 : Nat) > 1 by omega)).symm
        · rw [if_neg hg]
          exact ref_get_nine l _ k n p hlt hx hp h0 h1 _ (decide_eq_decide.mpr ⟨fun _ => by omega, fun _ => by omega⟩)
      · have hs8 : s ≤ 8 := by omega
        have ei : wrap64 ((s : Int) + 1) = ((s + 1 : Nat) : Int) := by unfold wrap64; omega
        have g1 : ¬ (s : Int) = 9 := by omega
        have g2 : (0 : Int) ≤ s := by omega
        have g3 : (s : Int) < (l.length : Int) := by omega
        have g4 : ¬ (false = true) := by decide
        obtain ⟨ew, eu, hn0, hn2⟩ := ref_unit n (rd l s) p hp.pos (hp.le hs8) h0 h1
        rw [if_neg g1, manteletref01_Get.j1, if_neg g4, if_pos g2, if_pos g3, scanL, ei, ew]
        clear h0 h1 ew
        by_cases h128 : rd l s < 128
        · rw [if_pos h128, if_pos h128, fin]
          simp only [Nat.add_zero]
          rw [valL, valL0]
          have er : rd l s % 128 + 128 * 0 = rd l s % 128 := by omega
          have ec : ((s + 1 : Nat) : Int) = (s : Int) + 1 := by omega
          rw [er, ec]
          by_cases hz : 0 < s ∧ rd l s = 0
          · rw [if_pos (show (s : Int) > 0 by omega), if_pos hz.2, if_pos (.inr (.inr hz))]
          · rw [if_neg (show ¬ (s = 10 ∨ (s = 9 ∧ rd l s > 1) ∨ (0 < s ∧ rd l s = 0)) from by
              rintro (q | ⟨q, _⟩ | q)
              · exact absurd q (by omega)
              · exact absurd q (by omega)
              · exact hz q)]
            by_cases h0s : (s : Int) > 0
            · rw [if_pos h0s, if_neg (fun q => hz ⟨by omega, q⟩)]
            · rw [if_neg h0s]
        · rw [if_neg h128, if_neg h128, eu, ref_get_l0 l hb hlen d k (s + 1) _ (p * 128) hp.next (by omega) (by omega) (by omega) hn0 hn2]
          cases hsc : scanL d (l.drop (s + 1)) with
          | none => rfl
          | some c =>
            have ec : s + 1 + c = s + (c + 1) := by omega
            rw [Option.map_some, fin, fin, ec]
            by_cases hbad : s + (c + 1) = 10 ∨ (s + (c + 1) = 9 ∧ rd l (s + (c + 1) : Nat) > 1) ∨ (0 < s + (c + 1) ∧ rd l (s + (c + 1) : Nat) = 0)
            · rw [if_pos hbad, if_pos hbad]
            · rw [if_neg hbad, if_neg hbad, valL, Int.mul_add, Int.mul_assoc, Int.add_assoc]
theorem ref_get_f (l : List Int) (hb : Bytes l) (hlen : l.length < 140737488355328) (k : Nat) (hk : 20 < k) : manteletref01_Get.f k l = some (get l) := by
  unfold manteletref01_Get.f
  have := ref_get_l0 l hb hlen 10 k 0 0 1 ⟨rfl⟩ rfl (by omega) (by omega) (by omega) (by decide)
  have e : (1 : Int) % 18446744073709551616 = 1 := by decide
  rw [e] at this
  have e0 : ((0 : Nat) : Int) = 0 := rfl
  rw [e0] at this
  rw [this]
  unfold get
  rw [List.drop_zero]
  cases scanL 10 l with
  | none => rfl
  | some c =>
    rw [fin, Nat.zero_add, Int.zero_add, Int.one_mul]
end Go.Proofs.Ytmfngihgoanhpaa.NumLib
