/- Plain laws of records: what is put, what is got of bytes, and what the records' bytes say. -/
import Derived.Test.YtnnlmackofopeaaDoorNumLib
import Derived.Test.YtnnlmackofopeaaDoorCrcLib
namespace Go.Proofs.YtnnlmackofopeaaDoor.FrameLib
open Go.RowKit Go.Proofs.YtnnlmackofopeaaDoor.PFr Go.Proofs.YtnnlmackofopeaaDoorW.PrintWords Go.Proofs.YtnnlmackofopeaaDoorW.PrintLast Go.Proofs.YtnnlmackofopeaaDoor.NumLib

theorem crc_bytes {l : List Int} (h : Bytes l) : CrcLib.Bytes l := h
/-- A payload's sum, its least byte first. -/
def crcN (l : List Int) : Int := CrcLib.num (CrcLib.ones ^^^ CrcLib.F CrcLib.ones l)
def four (c : Int) : List Int := [c % 256, c / 256 % 256, c / 65536 % 256, c / 16777216 % 256]
def sumL (l : List Int) : List Int := four (crcN l)
theorem sum_len (l : List Int) : (sumL l).length = 4 := rfl
theorem sum_bytes (l : List Int) : Bytes (sumL l) := fun x hx => by
  unfold sumL four at hx
  simp only [List.mem_cons, List.not_mem_nil, or_false] at hx
  omega
theorem shr32 (c : Int) (i : Nat) (hi : i < 4) : shr .u32 c (wrap64 (8 * (i : Int))) = c / 2 ^ (8 * i) := by
  have hw : wrap64 (8 * (i : Int)) = ((8 * i : Nat) : Int) := by unfold wrap64; omega
  unfold shr
  rw [hw, Int.toNat_natCast, Nat.min_eq_left (show 8 * i ≤ IntKind.u32.bits by show 8 * i ≤ 32; omega)]
theorem sum_f (k : Nat) (hk : 5 < k) (l : List Int) (hl : Bytes l) : frame_sum.f k l = some (sumL l) := by
  obtain ⟨k, rfl⟩ : ∃ m, k = m + 5 := ⟨k - 5, by omega⟩
  unfold frame_sum.f
  rw [CrcLib.of_f l (crc_bytes hl), Option.bind_some]
  show frame_sum.l0 (k + 4 + 1) (crcN l) [] 0 = some (four (crcN l))
  generalize crcN l = c at *
  have h0 : wrap64 (8 * 0) = 0 := by unfold wrap64; omega
  have h1 : wrap64 (0 + 1) = 1 := by unfold wrap64; omega
  have h2 : wrap64 (1 + 1) = 2 := by unfold wrap64; omega
  have h3 : wrap64 (2 + 1) = 3 := by unfold wrap64; omega
  have h4 : wrap64 (3 + 1) = 4 := by unfold wrap64; omega
  have s0 : shr .u32 c (wrap64 (8 * 0)) = c := by have := shr32 c 0 (by decide); simpa using this
  have s1 : shr .u32 c (wrap64 (8 * 1)) = c / 256 := shr32 c 1 (by decide)
  have s2 : shr .u32 c (wrap64 (8 * 2)) = c / 65536 := shr32 c 2 (by decide)
  have s3 : shr .u32 c (wrap64 (8 * 3)) = c / 16777216 := shr32 c 3 (by decide)
  have p1 : (0 : Int) ≤ wrap64 (8 * 1) := by unfold wrap64; omega
  have p2 : (0 : Int) ≤ wrap64 (8 * 2) := by unfold wrap64; omega
  have p3 : (0 : Int) ≤ wrap64 (8 * 3) := by unfold wrap64; omega
  rw [frame_sum.l0, if_pos (by decide), if_pos (by rw [h0]; decide), if_pos (by decide), s0, h1]
  rw [frame_sum.l0, if_pos (by decide), if_pos p1, if_pos (by simp only [List.length_append, List.length_cons, List.length_nil]; decide), s1, h2]
  rw [frame_sum.l0, if_pos (by decide), if_pos p2, if_pos (by simp only [List.length_append, List.length_cons, List.length_nil]; decide), s2, h3]
  rw [frame_sum.l0, if_pos (by decide), if_pos p3, if_pos (by simp only [List.length_append, List.length_cons, List.length_nil]; decide), s3, h4]
  rw [frame_sum.l0, if_neg (by decide)]
  rfl
/-- A record's bytes. -/
def recL (p : List Int) : List Int := putn p.length ++ p ++ sumL p
def Fits (p : List Int) : Prop := p.length ≤ 1048576
theorem put_f (k : Nat) (hk : 20 < k) (b p : List Int) (hp : Bytes p) (hb : b.length ≤ 100000000) (h : p.length ≤ 1048576) : frame_Put.f k b p = some (b ++ recL p, 0) := by
  have hw : IntKind.u64.wrap ((p.length : Int)) = p.length := by rw [u64_wrap]; omega
  have hl := putn_len p.length (by omega) (by omega)
  have e1 : (b ++ putn p.length).length + p.length < 140737488355328 := by rw [List.length_append]; omega
  have e2 : (b ++ putn p.length ++ p).length + (sumL p).length < 140737488355328 := by rw [List.length_append, List.length_append, sum_len]; omega
  unfold frame_Put.f
  rw [if_neg (by omega), hw, NumLib.put_f k p.length b (by omega) (by omega) (by omega) (by omega), Option.bind_some, if_pos e1, Option.bind_some, sum_f k (by omega) p hp, Option.bind_some, if_pos e2]
  unfold recL
  simp
theorem put_full (k : Nat) (b p : List Int) (h : ¬ p.length ≤ 1048576) : frame_Put.f k b p = some ([], 6) := by
  unfold frame_Put.f
  rw [if_pos (by omega)]
/-- What is got of bytes. -/
def getR (l : List Int) : List Int × Int × Int :=
  if (get l).2.2 ≠ 0 then ([], 0, (get l).2.2)
  else if (get l).1 > 1048576 then ([], 0, 2)
  else if (l.length : Int) < (get l).2.1 + (get l).1 + 4 then ([], 0, 3)
  else if (l.take ((get l).2.1 + (get l).1 + 4).toNat).drop ((get l).2.1 + (get l).1).toNat = sumL ((l.take ((get l).2.1 + (get l).1).toNat).drop (get l).2.1.toNat)
    then ((l.take ((get l).2.1 + (get l).1).toNat).drop (get l).2.1.toNat, (get l).2.1 + (get l).1 + 4, 0)
  else ([], 0, 4)
theorem map_inj : ∀ a b : List Int, Bytes a → Bytes b → (a.map fun n => UInt8.ofNat n.toNat) = (b.map fun n => UInt8.ofNat n.toNat) → a = b
  | [], [], _, _, _ => rfl
  | [], y :: b, _, _, h => by simp at h
  | x :: a, [], _, _, h => by simp at h
  | x :: a, y :: b, ha, hb, h => by
    rw [List.map_cons, List.map_cons] at h
    injection h with h1 h2
    have hx := ha x List.mem_cons_self
    have hy := hb y List.mem_cons_self
    have h3 := congrArg UInt8.toNat h1
    rw [UInt8.toNat_ofNat', UInt8.toNat_ofNat'] at h3
    rw [map_inj a b (fun z hz => ha z (List.mem_cons_of_mem _ hz)) (fun z hz => hb z (List.mem_cons_of_mem _ hz)) h2]
    congr 1
    omega
theorem str_inj {a b : List Int} (ha : Bytes a) (hb : Bytes b) : (strOfNums a).toList = (strOfNums b).toList ↔ a = b := by
  have key : ∀ l : List Int, (strOfNums l).toList = l.map fun n => UInt8.ofNat n.toNat := fun l => by
    unfold strOfNums
    exact ByteArray.toList_mk _
  rw [key, key]
  exact ⟨map_inj a b ha hb, fun h => by rw [h]⟩
theorem clone_f (l : List Int) (h : l.length < 140737488355328) : bytes_Clone.f l = some l := by
  unfold bytes_Clone.f
  rw [if_pos h]
theorem get_f (k : Nat) (hk : 5 < k) (l : List Int) (hl : Bytes l) (hlen : l.length ≤ 100000000) : frame_Get.f k l = some (getR l) := by
  unfold frame_Get.f getR
  rw [NumLib.get_f l hl, Option.bind_some]
  rcases hg : NumLib.get l with ⟨n, i, e⟩
  simp only
  by_cases he : e = 0
  · subst he
    obtain ⟨i1, i2, n0, n1, _⟩ := NumLib.get_ok l hl n i hg
    rw [if_pos rfl, if_neg (show ¬ ((0 : Int) ≠ 0) by simp)]
    by_cases hn : n > 1048576
    · rw [if_pos hn, if_pos hn]
    · have w1 : wrap64 n = n := by unfold wrap64; omega
      have w2 : wrap64 (i + n) = i + n := by unfold wrap64; omega
      have w3 : wrap64 (i + n + 4) = i + n + 4 := by unfold wrap64; omega
      rw [if_neg hn, if_neg hn, w1, w2, w3]
      by_cases hs : (l.length : Int) < i + n + 4
      · rw [if_pos hs, if_pos hs]
      · have c1 : ((l.take (i + n).toNat).drop i.toNat).length < 140737488355328 := by rw [List.length_drop, List.length_take]; omega
        have hp : Bytes ((l.take (i + n).toNat).drop i.toNat) := bytes_drop (bytes_take hl _) _
        have hq : Bytes ((l.take (i + n + 4).toNat).drop (i + n).toNat) := bytes_drop (bytes_take hl _) _
        rw [if_neg hs, if_neg hs, if_pos (by omega), if_pos (by omega), if_pos (by omega), clone_f _ c1, Option.bind_some, if_pos (by omega), if_pos (by omega), if_pos (by omega), sum_f k hk _ hp, Option.bind_some]
        unfold bytes_Equal.f
        rw [Option.bind_some]
        have hiff := str_inj hq (sum_bytes ((l.take (i + n).toNat).drop i.toNat))
        by_cases heq : (l.take (i + n + 4).toNat).drop (i + n).toNat = sumL ((l.take (i + n).toNat).drop i.toNat)
        · rw [if_pos (beq_iff_eq.mpr (hiff.2 heq)), if_pos heq]
        · rw [if_neg (fun q => heq (hiff.1 (beq_iff_eq.mp q))), if_neg heq]
  · rw [if_neg he, if_pos he]
end Go.Proofs.YtnnlmackofopeaaDoor.FrameLib
