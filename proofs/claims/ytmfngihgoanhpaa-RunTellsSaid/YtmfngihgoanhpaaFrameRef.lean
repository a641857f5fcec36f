/- Plain laws of records: the reference's are the program's. -/
import Derived.Test.YtmfngihgoanhpaaFrameScan
import Derived.Test.YtmfngihgoanhpaaNumRef
import Derived.Test.YtmfngihgoanhpaaCrcRef
import Derived.Test.YtmfngihgoanhpaaPRunx10
namespace Go.Proofs.Ytmfngihgoanhpaa.FrameLib
open Go.RowKit Go.Proofs.Ytmfngihgoanhpaa.PRun Go.Proofs.YtmfngihgoanhpaaW.PrintWords Go.Proofs.YtmfngihgoanhpaaW.PrintLast Go.Proofs.Ytmfngihgoanhpaa.NumLib
theorem ref_put_f (k : Nat) (b p : List Int) (hp : Bytes p) (hb : b.length ≤ 100000000) (h : p.length ≤ 1000000) (hk : 10 * p.length + 20 < k) : manteletref03_Put.f k b p = some (b ++ recL p, 0) := by
  have hw : IntKind.u64.wrap ((p.length : Int)) = p.length := by rw [u64_wrap]; omega
  have hl := putn_len p.length (by omega) (by omega)
  have e1 : (b ++ putn p.length).length + p.length < 140737488355328 := by rw [List.length_append]; omega
  have hc : 0 ≤ crcN p ∧ crcN p < 4294967296 := CrcLib.num_lt _
  have e4 : [(Int.tmod (crcN p) 256) % 256, ((Int.tdiv (crcN p) 256) % 4294967296) % 256, ((Int.tdiv (crcN p) 65536) % 4294967296) % 256, ((Int.tdiv (crcN p) 16777216) % 4294967296) % 256] = sumL p := by
    unfold sumL four
    generalize crcN p = c at *
    rw [Int.tmod_eq_emod_of_nonneg hc.1, Int.tdiv_eq_ediv_of_nonneg hc.1, Int.tdiv_eq_ediv_of_nonneg hc.1, Int.tdiv_eq_ediv_of_nonneg hc.1]
    have a1 : c % 256 % 256 = c % 256 := by omega
    have a2 : c / 256 % 4294967296 % 256 = c / 256 % 256 := by omega
    have a3 : c / 65536 % 4294967296 % 256 = c / 65536 % 256 := by omega
    have a4 : c / 16777216 % 4294967296 % 256 = c / 16777216 % 256 := by omega
    rw [a1, a2, a3, a4]
  have e2 : (b ++ putn p.length ++ p).length + (sumL p).length < 140737488355328 := by rw [List.length_append, List.length_append, sum_len]; omega
  unfold manteletref03_Put.f
  rw [if_neg (by omega), hw, NumLib.ref_put_f k p.length b (by omega) (by omega) (by omega) (by omega), Option.bind_some, if_pos e1, Option.bind_some, CrcLib.ref_of p (crc_bytes hp) (by omega) k (by omega), Option.bind_some]
  rw [show CrcLib.num (CrcLib.ones ^^^ CrcLib.F CrcLib.ones p) = crcN p from rfl, e4, Option.bind_some, if_pos e2]
  unfold recL
  simp
theorem ref_get_f (k : Nat) (l : List Int) (hl : Bytes l) (hlen : l.length ≤ 1000000) (hk : 10 * l.length + 40 < k) : manteletref03_Get.f k l = some (getR l) := by
  unfold manteletref03_Get.f getR
  rw [NumLib.ref_get_f l hl (by omega) k (by omega), Option.bind_some]
  rcases hg : NumLib.get l with ⟨n, i, e⟩
  simp only
  by_cases he : e = 0
  · subst he
    obtain ⟨i1, i2, n0, n1, hput⟩ := NumLib.get_ok l hl n i hg
    rw [if_pos rfl, if_neg (show ¬ ((0 : Int) ≠ 0) by simp)]
    by_cases hn : n > 1048576
    · rw [if_pos hn, if_pos hn]
    · have w1 : wrap64 n = n := by unfold wrap64; omega
      have w2 : wrap64 (i + n) = i + n := by unfold wrap64; omega
      have w3 : wrap64 (i + n + 4) = i + n + 4 := by unfold wrap64; omega
      have w4 : wrap64 (i + n + 4 - 4) = i + n := by unfold wrap64; omega
      rw [if_neg hn, if_neg hn, w1, w2, w3, w4]
      by_cases hs : (l.length : Int) < i + n + 4
      · rw [if_pos (by omega), if_pos hs]
      · have hpl : ((l.take (i + n).toNat).drop i.toNat).length = n.toNat := by rw [List.length_drop, List.length_take]; omega
        have hp : Bytes ((l.take (i + n).toNat).drop i.toNat) := bytes_drop (bytes_take hl _) _
        have c1 : ([] : List Int).length + ((l.take (i + n).toNat).drop i.toNat).length < 140737488355328 := by rw [hpl, List.length_nil]; omega
        have hr : Bytes (recL ((l.take (i + n).toNat).drop i.toNat)) := rec_bytes _ hp (by omega)
        have hq : Bytes (l.take (i + n + 4).toNat) := bytes_take hl _
        rw [if_neg (by omega), if_neg hs, Option.bind_some, if_pos (by omega), if_pos (by omega), if_pos (by omega), if_pos c1, Option.bind_some, List.nil_append, FrameLib.ref_put_f k [] _ hp (by simp) (by omega) (by omega), Option.bind_some, List.nil_append, if_pos (by omega), if_pos (by omega)]
        have hiff := str_inj hr hq
        have a1 : (l.take (i + n).toNat).take i.toNat = l.take i.toNat := by rw [List.take_take, Nat.min_eq_left (by omega)]
        have a2 : (l.take (i + n + 4).toNat).take (i + n).toNat = l.take (i + n).toNat := by rw [List.take_take, Nat.min_eq_left (by omega)]
        have hpre : putn (((l.take (i + n).toNat).drop i.toNat).length : Nat) ++ (l.take (i + n).toNat).drop i.toNat = l.take (i + n).toNat := by
          rw [hpl, Int.toNat_of_nonneg n0, hput, ← a1, List.take_append_drop]
        have hall : l.take (i + n + 4).toNat = l.take (i + n).toNat ++ (l.take (i + n + 4).toNat).drop (i + n).toNat := by
          rw [← a2, List.take_append_drop]
        have hsame : recL ((l.take (i + n).toNat).drop i.toNat) = l.take (i + n + 4).toNat ↔ (l.take (i + n + 4).toNat).drop (i + n).toNat = sumL ((l.take (i + n).toNat).drop i.toNat) := by
          unfold recL
          rw [hpre, hall]
          constructor
          · intro q
            have := List.append_cancel_left q
            rw [← hall]
            exact this.symm
          · intro q
            rw [← hall] at q
            rw [q]
        by_cases heq : (l.take (i + n + 4).toNat).drop (i + n).toNat = sumL ((l.take (i + n).toNat).drop i.toNat)
        · rw [if_pos (hiff.2 (hsame.2 heq)), if_pos heq]
        · rw [if_neg (fun q => heq (hsame.1 (hiff.1 q))), if_neg heq]
  · rw [if_neg he, if_pos he]
theorem ref_scan_l0 (l : List Int) (hl : Bytes l) (hlen : l.length ≤ 100000) (d : Nat) : ∀ (k i : Nat) (acc : List (List Int)), d + 1100000 < k → i ≤ l.length → l.length - i < d → acc.length + d ≤ 1000000000 →
    manteletref03_Scan.l0 k l (getR (l.drop i)).1 (getR (l.drop i)).2.1 (getR (l.drop i)).2.2 i acc = some (acc ++ (scanN d (l.drop i)).1, ((i + (scanN d (l.drop i)).2 : Nat) : Int)) := by
  induction d with
  | zero => intro k i acc _ _ h _; omega
  | succ d ih =>
    intro k i acc hk hi hd hacc
    obtain ⟨k, rfl⟩ : ∃ m, k = m + 1 := ⟨k - 1, by omega⟩
    have hb : Bytes (l.drop i) := bytes_drop hl i
    rw [manteletref03_Scan.l0, scanN]
    rcases hg : getR (l.drop i) with ⟨p, n, e⟩
    simp only
    by_cases he : e = 0
    · subst he
      obtain ⟨h1, h2, h3, h4, h5, h6⟩ := getR_ok _ hb p n hg
      rw [List.length_drop] at h4
      obtain ⟨m, rfl⟩ := Int.eq_ofNat_of_zero_le (show 0 ≤ n by omega)
      have hw : wrap64 ((i : Int) + (m : Int)) = ((i + m : Nat) : Int) := by unfold wrap64; omega
      have hacc2 : acc.length < 5864062014805 := by omega
      have ihh := ih k (i + m) (acc ++ [p]) (by omega) (by omega) (by omega) (by rw [List.length_append, List.length_singleton]; omega)
      rw [if_pos rfl, if_pos rfl, if_pos hacc2, hw, if_pos (by omega), if_pos (by omega), Int.toNat_natCast, ref_get_f k _ (bytes_drop hl _) (by rw [List.length_drop]; omega) (by rw [List.length_drop]; omega), Option.bind_some, ihh, Int.toNat_natCast, List.drop_drop]
      simp only [List.append_assoc, List.singleton_append, Nat.add_assoc]
    · rw [if_neg he, if_neg he]
      simp
theorem ref_scan_f (l : List Int) (hl : Bytes l) (hlen : l.length ≤ 100000) (k : Nat) (hk : 1300000 < k) : manteletref03_Scan.f k l = some ((scanN (l.length + 1) l).1, ((scanN (l.length + 1) l).2 : Int)) := by
  unfold manteletref03_Scan.f
  have := ref_scan_l0 l hl hlen (l.length + 1) k 0 [] (by omega) (by omega) (by omega) (by simp; omega)
  rw [List.drop_zero, List.nil_append, Nat.zero_add, Int.natCast_zero] at this
  rw [ref_get_f k l hl (by omega) (by omega), Option.bind_some]
  exact this
end Go.Proofs.Ytmfngihgoanhpaa.FrameLib
