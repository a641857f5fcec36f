/- Parts of the proof, merged by a program of this session. -/
import Derived.Deep.Slices
import Derived.OpenShut
import Derived.Test.YtnabhfegbnfabaaPkReaderPlaysa
import Derived.Test.YtnabhfegbnfabaaPkReaderPlaysd
section
namespace Go.Proofs.Ytnabhfegbnfabaa.RunLib
open Go.RowKit Go.Proofs.Ytnabhfegbnfabaa.PRd Go.Proofs.YtnabhfegbnfabaaW.PrintWords Go.Proofs.YtnabhfegbnfabaaW.PrintLast Go.Proofs.YtnabhfegbnfabaaW.PrintMore Go.Proofs.Ytnabhfegbnfabaa.NumLib Go.Proofs.Ytnabhfegbnfabaa.FrameLib
set_option linter.unusedVariables false
set_option linter.unusedSimpArgs false
theorem ref_may_l1 (l : List S36) (hl : l.length < 1000000000) (d : Nat) : ∀ (k i : Nat), d < k → 1 ≤ i → i + d = max 1 l.length → r09_May.l1 k l i = some (if rises (l.drop (i - 1)) = true then 0 else 9) := by
 induction d with
 | zero =>
  intro k i hk h1 hi
  obtain ⟨k, rfl⟩ : ∃ m, k = m + 1 := ⟨k - 1, by omega⟩
  rw [r09_May.l1, if_neg (by omega)]
  have : rises (l.drop (i - 1)) = true := by
   have hlen : (l.drop (i - 1)).length ≤ 1 := by rw [List.length_drop]; omega
   match l.drop (i - 1), hlen with
   | [], _ => rfl
   | [_], _ => rfl
  rw [if_pos this]
 | succ d ih =>
  intro k i hk h1 hi
  obtain ⟨k, rfl⟩ : ∃ m, k = m + 1 := ⟨k - 1, by omega⟩
  have hw : wrap64 ((i : Int) + 1) = ((i + 1 : Nat) : Int) := by unfold wrap64; omega
  have hv : wrap64 ((i : Int) - 1) = ((i - 1 : Nat) : Int) := by unfold wrap64; omega
  have hlt : i < l.length := by omega
  rw [r09_May.l1, if_pos (by omega), hv, if_pos (by omega), if_pos (by omega), if_pos (by omega), rdT_eq l i hlt, rdT_eq l (i - 1) (by omega), hw]
  have e : l.drop (i - 1) = l[i - 1] :: l[i] :: l.drop (i + 1) := by
   rw [List.drop_eq_getElem_cons (by omega)]
   congr 1
   rw [show i - 1 + 1 = i by omega, List.drop_eq_getElem_cons hlt]
  have e2 : l.drop (i + 1 - 1) = l[i] :: l.drop (i + 1) := by
   rw [show i + 1 - 1 = i by omega, List.drop_eq_getElem_cons hlt]
  have := ih k (i + 1) (by omega) (by omega) (by omega)
  rw [e2] at this
  rw [e, rises, this]
  unfold less
  by_cases hb : Op.bytesLess l[i - 1].f0.toList l[i].f0.toList = true
  ·rw [if_pos hb, hb, Bool.true_and]
  ·rw [if_neg hb]
   simp [hb]
theorem ref_may_l0 (l : List S36) (hl : l.length < 1000000000) (d : Nat) : ∀ (k i : Nat), d + l.length + 3 < k → i + d = l.length → r09_May.l0 k l i = some (if ∀ x ∈ l.drop i, fineS x then (if rises l = true then 0 else 9) else 1) := by
 induction d with
 | zero =>
  intro k i hk hi
  obtain ⟨k, rfl⟩ : ∃ m, k = m + 1 := ⟨k - 1, by omega⟩
  rw [r09_May.l0, if_neg (by omega), List.drop_of_length_le (by omega), if_pos (by simp)]
  have := ref_may_l1 l hl (max 1 l.length - 1) k 1 (by omega) (by omega) (by omega)
  exact this
 | succ d ih =>
  intro k i hk hi
  obtain ⟨k, rfl⟩ : ∃ m, k = m + 1 := ⟨k - 1, by omega⟩
  have hw : wrap64 ((i : Int) + 1) = ((i + 1 : Nat) : Int) := by unfold wrap64; omega
  have hlt : i < l.length := by omega
  rw [r09_May.l0, if_pos (by omega), if_pos (by omega), rdT_eq l i hlt, hw, List.drop_eq_getElem_cons hlt]
  have ih' := ih k (i + 1) (by omega) (by omega)
  by_cases hf : fineS l[i]
  ·have hf' := hf
   unfold fineS at hf'
   rw [if_neg (by omega), if_neg (by omega), if_neg (by omega), if_neg (by omega), ih']
   congr 1
   by_cases hr : ∀ x ∈ l.drop (i + 1), fineS x
   ·rw [if_pos hr, if_pos (List.forall_mem_cons.2 ⟨hf, hr⟩)]
   ·rw [if_neg hr, if_neg (fun h => hr (fun x hx => h x (List.mem_cons_of_mem _ hx)))]
  ·rw [if_neg (show ¬ ∀ x ∈ l[i] :: l.drop (i + 1), fineS x from fun h => hf (h _ List.mem_cons_self))]
   unfold fineS at hf
   by_cases a1 : (l[i].f0.size : Int) < 1
   ·rw [if_pos a1]
   ·rw [if_neg a1]
    by_cases a2 : (l[i].f0.size : Int) > 255
    ·rw [if_pos a2]
    ·rw [if_neg a2]
     by_cases a3 : l[i].f1 < 1
     ·rw [if_pos a3]
     ·rw [if_neg a3, if_pos (by omega)]
theorem ref_may_f (k : Nat) (l : List S36) (hl : l.length < 1000000000) (hk : 2 * l.length + 5 < k) : r09_May.f k l = some (mayS l) := by
 unfold r09_May.f mayS
 have := ref_may_l0 l hl l.length k 0 (by omega) (by omega)
 rw [Int.natCast_zero, List.drop_zero] at this
 exact this
theorem alike_l0 (a b : ByteArray) (ha : a.size < 1000000000) (d : Nat) : ∀ (k i : Nat), d < k → i + d = min a.size b.size → r09_Alike.l0 k a b i = some ((i + sh ((bytesOf a).drop i) ((bytesOf b).drop i) : Nat) : Int) := by
 induction d with
 | zero =>
  intro k i hk hi
  obtain ⟨k, rfl⟩ : ∃ m, k = m + 1 := ⟨k - 1, by omega⟩
  have : sh ((bytesOf a).drop i) ((bytesOf b).drop i) = 0 := by
   have h1 := (sh_le ((bytesOf a).drop i) ((bytesOf b).drop i))
   rw [List.length_drop, List.length_drop, bytesOf_len, bytesOf_len] at h1
   omega
  rw [this, Nat.add_zero, r09_Alike.l0]
  by_cases h : (i : Int) < (a.size : Int)
  ·rw [if_pos h, if_neg (by omega)]; rfl
  ·rw [if_neg h]; rfl
 | succ d ih =>
  intro k i hk hi
  obtain ⟨k, rfl⟩ : ∃ m, k = m + 1 := ⟨k - 1, by omega⟩
  have hw : wrap64 ((i : Int) + 1) = ((i + 1 : Nat) : Int) := by unfold wrap64; omega
  rw [r09_Alike.l0, if_pos (by omega), if_pos (by omega), if_pos (by omega), bt_eq a i (by omega), bt_eq b i (by omega), hw, rd_bytes a i (by omega), rd_bytes b i (by omega), sh]
  by_cases h : rd (bytesOf a) i = rd (bytesOf b) i
  ·rw [if_pos h, if_pos h, ih k (i + 1) (by omega) (by omega)]
   congr 2
   omega
  ·rw [if_neg h, if_neg h, Nat.add_zero]
theorem alike_f (a b : ByteArray) (ha : a.size < 1000000000) (k : Nat) (hk : a.size < k) : r09_Alike.f k a b = some ((sh (bytesOf a) (bytesOf b) : Nat) : Int) := by
 unfold r09_Alike.f
 have := alike_l0 a b ha (min a.size b.size) k 0 (by omega) (by omega)
 rw [List.drop_zero, List.drop_zero, Nat.zero_add] at this
 exact this
def prevW (l : List S36) : Nat → List Int
 | 0 => []
 | j + 1 => wd (l.getD j z36)
theorem prevW_succ (l : List S36) (i : Nat) (h : i < l.length) : prevW l (i + 1) = wd l[i] := by
 show wd (l.getD i z36) = wd l[i]
 rw [List.getD_eq_getElem?_getD, List.getElem?_eq_getElem h, Option.getD_some]
theorem len_two {a b c : List Int} (h1 : b.length ≤ 10) (h2 : c.length ≤ 10) : (a ++ b ++ c).length ≤ a.length + 20 := by rw [List.length_append, List.length_append]; omega
theorem len_more {a d : List Int} {n : Nat} (h1 : a.length ≤ n + 20) (h2 : d.length ≤ 255) : (a ++ d).length ≤ n + 275 := by rw [List.length_append]; omega
theorem ref_step0 (k : Nat) (hk : 300 < k) (x : S36) (hx : fineS x) (acc : List Int) (hacc : acc.length ≤ 99999700) (F : List Int → Option (List Int)) :
  ((r01_Put.f k acc 0).bind fun t272 => (if (0 : Int) ≤ ((0 : Nat) : Int) then ((r01_Put.f k t272 (IntKind.u64.wrap (wrap64 ((x.f0.size : Int))))).bind fun t276 => (if 0 ≤ (x.f0.size : Int) then (if t276.length + x.f0.size < 140737488355328 then ((r01_Put.f k (t276 ++ bytesOf x.f0) x.f1).bind F) else none) else none)) else none)) = F (acc ++ entB [] x) := by
 have hwl := wd_len hx
 have hxs : x.f0.size = (wd x).length := (bytesOf_len _).symm
 have hc := hx.2.2
 have hent : entB [] x = putn 0 ++ putn ((wd x).length : Int) ++ wd x ++ putn x.f1 := by
  have e0 : sh ([] : List Int) (wd x) = 0 := rfl
  unfold entB
  rw [e0, Nat.sub_zero, List.drop_zero, Int.natCast_zero]
 rw [hent, hxs, show bytesOf x.f0 = wd x from rfl]
 generalize wd x = w at hwl
 obtain ⟨c1, c2⟩ := hc
 generalize x.f1 = c at c1 c2
 clear hx hxs hent
 have p1 := putn_len 0 (by omega) (by omega)
 have p2 := putn_len (w.length : Int) (by omega) (by omega)
 have hput0 := NumLib.ref_put_f k 0 acc (by omega) (by omega) (by omega) (by omega)
 generalize putn 0 = z0 at p1 hput0
 have l0 : (acc ++ z0).length ≤ acc.length + 10 := by rw [List.length_append]; omega
 have hput1 := NumLib.ref_put_f k (w.length : Int) (acc ++ z0) (by omega) (by omega) (by omega) (by omega)
 generalize putn (w.length : Int) = z1 at p2 hput1
 have l1 : (acc ++ z0 ++ z1).length ≤ acc.length + 20 := len_two p1.2 p2.2
 have l2 : (acc ++ z0 ++ z1 ++ w).length ≤ acc.length + 275 := len_more l1 hwl.2
 have hput2 := NumLib.ref_put_f k c (acc ++ z0 ++ z1 ++ w) (by omega) (by omega) (by omega) (by omega)
 have e2 : IntKind.u64.wrap (wrap64 ((w.length : Int))) = (w.length : Int) := by
  rw [show wrap64 (w.length : Int) = (w.length : Int) by unfold wrap64; omega, u64_small _ (by omega)]
 have q0 : (0 : Int) ≤ ((0 : Nat) : Int) := by decide
 have q1 : (0 : Int) ≤ (w.length : Int) := by omega
 have q2 : (acc ++ z0 ++ z1).length + w.length < 140737488355328 := by omega
 rw [hput0, Option.bind_some, if_pos q0, e2, hput1, Option.bind_some, if_pos q1, if_pos q2, hput2, Option.bind_some]
 simp only [List.append_assoc]
theorem ref_step1 (k : Nat) (hk : 300 < k) (y x : S36) (hy : fineS y) (hx : fineS x) (acc : List Int) (hacc : acc.length ≤ 99999700) (F : List Int → Option (List Int)) :
  ((r09_Alike.f k y.f0 x.f0).bind fun t256 => ((r01_Put.f k acc (IntKind.u64.wrap (t256))).bind fun t257 => ((r01_Put.f k t257 (IntKind.u64.wrap (wrap64 ((x.f0.size : Int) - t256)))).bind fun t261 => (if 0 ≤ t256 then (if t256 ≤ (x.f0.size : Int) then (if t261.length + (x.f0.extract (t256 : Int).toNat x.f0.size).size < 140737488355328 then ((r01_Put.f k (t261 ++ bytesOf (x.f0.extract (t256 : Int).toNat x.f0.size)) x.f1).bind F) else none) else none) else none)))) = F (acc ++ entB (wd y) x) := by
 have hwl := wd_len hx
 have hyl := hy.2.1
 have hxs : x.f0.size = (wd x).length := (bytesOf_len _).symm
 have hc := hx.2.2
 have hs := (sh_le (wd y) (wd x)).2
 have hal := alike_f y.f0 x.f0 (by omega) k (by omega)
 have htl : ∀ n, (x.f0.extract n x.f0.size).size = (wd x).length - n := fun n => by rw [tail_size, hxs]
 have hbt : ∀ n, bytesOf (x.f0.extract n x.f0.size) = (wd x).drop n := fun n => bytesOf_tail _ _
 rw [hal, Option.bind_some]
 unfold entB
 simp only [Int.toNat_natCast, htl, hbt]
 simp only [hxs, show bytesOf y.f0 = wd y from rfl, show bytesOf x.f0 = wd x from rfl]
 generalize sh (wd y) (wd x) = n at hs
 generalize wd x = w at hwl hs
 obtain ⟨c1, c2⟩ := hc
 generalize x.f1 = c at c1 c2
 clear hx hy hxs hal htl hbt hyl
 have p1 := putn_len (n : Int) (by omega) (by omega)
 have p2 := putn_len ((w.length - n : Nat) : Int) (by omega) (by omega)
 have hput0 := NumLib.ref_put_f k (n : Int) acc (by omega) (by omega) (by omega) (by omega)
 generalize putn (n : Int) = z0 at p1 hput0
 have l0 : (acc ++ z0).length ≤ acc.length + 10 := by rw [List.length_append]; omega
 have hput1 := NumLib.ref_put_f k ((w.length - n : Nat) : Int) (acc ++ z0) (by omega) (by omega) (by omega) (by omega)
 generalize putn ((w.length - n : Nat) : Int) = z1 at p2 hput1
 have l1 : (acc ++ z0 ++ z1).length ≤ acc.length + 20 := len_two p1.2 p2.2
 have hd : (w.drop n).length ≤ 255 := by rw [List.length_drop]; omega
 have l2 : (acc ++ z0 ++ z1 ++ w.drop n).length ≤ acc.length + 275 := len_more l1 hd
 have hput2 := NumLib.ref_put_f k c (acc ++ z0 ++ z1 ++ w.drop n) (by omega) (by omega) (by omega) (by omega)
 have e1 : IntKind.u64.wrap ((n : Nat) : Int) = (n : Int) := u64_small _ (by omega)
 have e2 : IntKind.u64.wrap (wrap64 ((w.length : Int) - (n : Int))) = ((w.length - n : Nat) : Int) := by
  rw [show (w.length : Int) - (n : Int) = ((w.length - n : Nat) : Int) by omega, show wrap64 ((w.length - n : Nat) : Int) = ((w.length - n : Nat) : Int) by unfold wrap64; omega, u64_small _ (by omega)]
 have q0 : (0 : Int) ≤ (n : Int) := by omega
 have q1 : (n : Int) ≤ (w.length : Int) := by omega
 have q2 : (acc ++ z0 ++ z1).length + (w.length - n) < 140737488355328 := by omega
 rw [e1, hput0, Option.bind_some, e2, hput1, Option.bind_some, if_pos q0, if_pos q1, if_pos q2, hput2, Option.bind_some]
 simp only [List.append_assoc]
theorem ref_block_l0 (l : List S36) (h : ∀ x ∈ l, fineS x) (hl : l.length ≤ 100000) (d : Nat) : ∀ (k i : Nat) (acc : List Int), d + 300 < k → i + d = l.length → acc.length + 300 * d ≤ 99999900 →
  r09_Block.l0 k l acc i = some (acc ++ entsB (prevW l i) (l.drop i)) := by
 induction d with
 | zero =>
  intro k i acc hk hi _
  obtain ⟨k, rfl⟩ : ∃ m, k = m + 1 := ⟨k - 1, by omega⟩
  rw [r09_Block.l0, if_neg (by omega), List.drop_of_length_le (by omega), entsB, List.append_nil]
 | succ d ih =>
  intro k i acc hk hi hacc
  obtain ⟨k, rfl⟩ : ∃ m, k = m + 1 := ⟨k - 1, by omega⟩
  have hwr : wrap64 ((i : Int) + 1) = ((i + 1 : Nat) : Int) := by unfold wrap64; omega
  have hlt : i < l.length := by omega
  have hx := h l[i] (List.getElem_mem hlt)
  have hpn := prevW_succ l i hlt
  have hel : ∀ was, (entB was l[i]).length ≤ 285 := fun was => entB_len was hx
  have hstep : ∀ was, (acc ++ entB was l[i]).length + 300 * d ≤ 99999900 := fun was => by have := hel was; rw [List.length_append]; omega
  have ihx : ∀ was, r09_Block.l0 k l (acc ++ entB was l[i]) ((i + 1 : Nat) : Int) = some (acc ++ entB was l[i] ++ entsB (wd l[i]) (l.drop (i + 1))) := fun was => by
   have := ih k (i + 1) (acc ++ entB was l[i]) (by omega) (by omega) (hstep was)
   rw [hpn] at this
   exact this
  have hk3 : 300 < k := by omega
  have ha3 : acc.length ≤ 99999700 := by omega
  have q : (i : Int) < (l.length : Int) := by omega
  rw [r09_Block.l0, if_pos q, rdT_eq l i hlt, hwr, List.drop_eq_getElem_cons hlt, entsB]
  by_cases h0 : i = 0
  ·subst h0
   have hng : ¬ ((0 : Nat) : Int) > 0 := by decide
   have hs := ref_step0 k hk3 l[0] hx acc ha3 (fun t => r09_Block.l0 k l t ((0 + 1 : Nat) : Int))
   rw [if_neg hng]
   refine hs.trans ((ihx []).trans ?_)
   rw [List.append_assoc]
   rfl
  ·obtain ⟨j, rfl⟩ : ∃ j, i = j + 1 := ⟨i - 1, by omega⟩
   have hv : wrap64 (((j + 1 : Nat) : Int) - 1) = ((j : Nat) : Int) := by unfold wrap64; omega
   have hj : j < l.length := by omega
   have hy := h l[j] (List.getElem_mem hj)
   have hs := ref_step1 k hk3 l[j] l[j + 1] hy hx acc ha3 (fun t => r09_Block.l0 k l t ((j + 1 + 1 : Nat) : Int))
   have g0 : ((j + 1 : Nat) : Int) > 0 := by omega
   have g1 : (0 : Int) ≤ ((j : Nat) : Int) := by omega
   have g2 : ((j : Nat) : Int) < (l.length : Int) := by omega
   have g3 : (0 : Int) ≤ ((j + 1 : Nat) : Int) := by omega
   rw [if_pos g0, hv, if_pos g1, if_pos g2, if_pos g3, rdT_eq l j hj, prevW_succ l j hj]
   refine hs.trans ((ihx (wd l[j])).trans ?_)
   rw [List.append_assoc]
theorem ref_block_f (k : Nat) (l : List S36) (h : ∀ x ∈ l, fineS x) (hl : l.length ≤ 100000) (hk : l.length + 300 < k) : r09_Block.f k l = some (blockB l) := by
 unfold r09_Block.f
 have p1 := putn_len (l.length : Int) (by omega) (by omega)
 rw [u64_small _ (by omega), NumLib.ref_put_f k _ [] (by omega) (by omega) (by omega) (by simp), Option.bind_some]
 have := ref_block_l0 l h hl l.length k 0 ([] ++ putn (l.length : Int)) hk (by omega) (by rw [List.nil_append]; omega)
 rw [List.drop_zero] at this
 exact this
def endR (l : List S36) : List Int := putn 0 ++ putn (l.length : Int)
theorem endR_len (l : List S36) (hl : l.length ≤ 100000) : (endR l).length ≤ 20 ∧ Bytes (endR l) := by
 have p1 := putn_len 0 (by omega) (by omega)
 have p2 := putn_len (l.length : Int) (by omega) (by omega)
 exact ⟨by unfold endR; rw [List.length_append]; omega, bytes_append (putn_bytes _ (by omega) (by omega)) (putn_bytes _ (by omega) (by omega))⟩
theorem cut_eq (l : List S36) (i hi2 size : Nat) (h : hi2 = min (i + size) l.length) (hi : i < l.length) : (l.take hi2).drop i = (l.drop i).take size := by
 subst h
 rw [List.drop_take]
 by_cases hs : i + size ≤ l.length
 ·rw [Nat.min_eq_left hs, Nat.add_sub_cancel_left]
 ·rw [Nat.min_eq_right (by omega), List.take_of_length_le (by rw [List.length_drop]; exact Nat.le_refl _), List.take_of_length_le (by rw [List.length_drop]; omega)]
theorem ref_fin (k : Nat) (l : List S36) (hl : l.length ≤ 30000) (size : Int) (i : Nat) (acc : List Int) (hk : 800000 < k) (hi : ¬ i < l.length) (ha : acc.length ≤ 99999900) : r09_Encode.l0 (k + 1) l size acc i = some (acc ++ recs [endR l], 0) := by
 have he := endR_len l (by omega)
 have hng : ¬ (i : Int) < (l.length : Int) := by omega
 have hend : endR l = putn 0 ++ putn (l.length : Int) := rfl
 have hl64 : (l.length : Int) < 18446744073709551616 := by omega
 have hu : IntKind.u64.wrap (l.length : Int) = (l.length : Int) := u64_small _ (by omega)
 generalize endR l = E at he hend
 have hp := FrameLib.ref_put_f k acc E he.2 (by omega) (by omega) (by omega)
 have p1 := putn_len 0 (by omega) (by omega)
 have hput0 := NumLib.ref_put_f k 0 [] (by omega) (by omega) (by omega) (by simp)
 generalize putn 0 = z0 at p1 hput0 hend
 rw [List.nil_append] at hput0
 have hput1 := NumLib.ref_put_f k (l.length : Int) z0 (by omega) (by omega) hl64 (by omega)
 rw [r09_Encode.l0, if_neg hng, hput0, Option.bind_some, hu, hput1, Option.bind_some, ← hend, hp, Option.bind_some, recs, recs, List.append_nil]
theorem ref_blk (k : Nat) (c : List S36) (h : ∀ x ∈ c, fineS x) (hl : c.length ≤ 255) (acc : List Int) (hk : 900000 < k) (ha : acc.length ≤ 99000000) (F : List Int × Int → Option (List Int × Int)) :
  ((r09_Block.f k c).bind fun t => (r03_Put.f k acc t).bind F) = F (acc ++ recL (blockB c), 0) ∧ (acc ++ recL (blockB c)).length ≤ acc.length + 24 + 285 * c.length := by
 have hb := ref_block_f k c h (by omega) (by omega)
 have h1 := blockB_len h (by omega)
 have h2 := blockB_bytes h (by omega)
 generalize blockB c = B at hb h1 h2
 have h3 := (recL_le (p := B) (by omega)).1
 have hput := FrameLib.ref_put_f k acc B h2 (by omega) (by omega) (by omega)
 rw [hb, Option.bind_some, hput, Option.bind_some]
 exact ⟨rfl, by rw [List.length_append]; omega⟩
theorem ref_enc_l0 (l : List S36) (h : ∀ x ∈ l, fineS x) (hl : l.length ≤ 30000) (size : Nat) (h1 : 1 ≤ size) (hs : size ≤ 255) (d : Nat) : ∀ (k i : Nat) (acc : List Int), 2 * d + 1000000 < k → l.length - i ≤ d → i ≤ 40000 → acc.length + 309 * (l.length - i) ≤ 98000000 →
  r09_Encode.l0 k l size acc i = some (acc ++ recs ((chunks size d (l.drop i)).map blockB ++ [endR l]), 0) := by
 induction d with
 | zero =>
  intro k i acc hk hd hi ha
  obtain ⟨k, rfl⟩ : ∃ m, k = m + 1 := ⟨k - 1, by omega⟩
  rw [chunks, List.map_nil, List.nil_append]
  exact ref_fin k l hl size i acc (by omega) (by omega) (by omega)
 | succ d ih =>
  intro k i acc hk hd hi ha
  obtain ⟨k, rfl⟩ : ∃ m, k = m + 2 := ⟨k - 2, by omega⟩
  by_cases hlt : i < l.length
  ·have hne : l.drop i ≠ [] := fun e => by
    have := congrArg List.length e
    rw [List.length_drop, List.length_nil] at this
    omega
   have hpl : ((l.drop i).take size).length = min size (l.length - i) := by rw [List.length_take, List.length_drop]
   have hpf : ∀ x ∈ (l.drop i).take size, fineS x := fun x hx => h x (List.mem_of_mem_drop (List.mem_of_mem_take hx))
   have hw : wrap64 ((i : Int) + (size : Int)) = ((i + size : Nat) : Int) := by unfold wrap64; omega
   have hk9 : 900000 < k := by omega
   have ha9 : acc.length ≤ 99000000 := by omega
   have hc255 : ((l.drop i).take size).length ≤ 255 := by omega
   have hblk := ref_blk k _ hpf hc255 acc hk9 ha9 (fun r => if r.2 = 0 then r09_Encode.l0 k l size r.1 (wrap64 ((i : Int) + (size : Int))) else some ([], r.2))
   have hchunk : chunks size (d + 1) (l.drop i) = (l.drop i).take size :: chunks size d (l.drop (i + size)) := by rw [chunks, if_neg hne, List.drop_drop]
   have hcut := fun hi2 hto => cut_eq l i hi2 size hto hlt
   have hnext := ih k (i + size) (acc ++ recL (blockB ((l.drop i).take size))) (by omega) (by omega) (by omega) (by have := hblk.2; omega)
   rw [hchunk, List.map_cons, List.cons_append, recs]
   rw [hw] at hblk
   generalize (l.drop i).take size = c at hpl hpf hc255 hblk hcut hnext
   have hres := hblk.1.trans ((if_pos rfl).trans hnext)
   have hj : ∀ hi2 : Nat, hi2 = min (i + size) l.length → r09_Encode.j2 (k + 1) l size acc i hi2 = some (acc ++ (recL (blockB c) ++ recs ((chunks size d (l.drop (i + size))).map blockB ++ [endR l])), 0) := by
    intro hi2 hto
    have q1 : (0 : Int) ≤ (i : Int) := by omega
    have q2 : (i : Int) ≤ (hi2 : Int) := by omega
    have q3 : (hi2 : Int) ≤ (l.length : Int) := by omega
    rw [r09_Encode.j2, if_pos q1, if_pos q2, if_pos q3, Int.toNat_natCast, Int.toNat_natCast, hcut hi2 hto, hw, ← List.append_assoc]
    exact hres
   have q : (i : Int) < (l.length : Int) := by omega
   rw [r09_Encode.l0, if_pos q, hw]
   by_cases hc : ((i + size : Nat) : Int) > (l.length : Int)
   ·rw [if_pos hc]
    exact hj _ (by omega)
   ·rw [if_neg hc]
    exact hj _ (by omega)
  ·have e : l.drop i = [] := List.drop_of_length_le (by omega)
   rw [e, chunks_nil, List.map_nil, List.nil_append]
   exact ref_fin (k + 1) l hl size i acc (by omega) hlt (by omega)
theorem ref_enc_ok (k : Nat) (l : List S36) (size : Nat) (hm : mayS l = 0) (hl : l.length ≤ 30000) (h1 : 1 ≤ size) (hs : size ≤ 255) (hk : 1090000 < k) :
  ((r01_Put.f k ([] : List Int) (IntKind.u64.wrap ((size : Nat) : Int))).bind fun t288 => ((r03_Put.f k ([] : List Int) t288).bind fun bt291 => (r09_Encode.l0 k l size bt291.1 0))) = some (encB l size, 0) := by
 have hf := (mayS_zero hm).1
 have p1 := putn_len (size : Int) (by omega) (by omega)
 have hby := putn_bytes (size : Int) (by omega) (by omega)
 have hput0 := NumLib.ref_put_f k (size : Int) [] (by omega) (by omega) (by omega) (by simp)
 have hE : encB l size = recL (putn (size : Int)) ++ recs ((chunks size l.length l).map blockB ++ [endR l]) := by
  unfold encB encR
  rw [List.cons_append, recs]
  rfl
 rw [List.nil_append] at hput0
 generalize putn (size : Int) = z at p1 hby hput0 hE
 have r1 := (recL_le (p := z) (by omega)).1
 have hput := FrameLib.ref_put_f k [] z hby (by simp) (by omega) (by omega)
 rw [List.nil_append] at hput
 have hl0 := ref_enc_l0 l hf hl size h1 hs l.length k 0 (recL z) (by omega) (by omega) (by omega) (by omega)
 rw [Int.natCast_zero, List.drop_zero] at hl0
 rw [u64_small size (by omega), hput0, Option.bind_some, hput, Option.bind_some, hE]
 exact hl0
theorem ref_enc_f (k : Nat) (l : List S36) (a : Int) (hl : l.length ≤ 30000) (hk : 1100000 < k) : r09_Encode.f k l a = some (encS l a) := by
 obtain ⟨k, rfl⟩ : ∃ m, k = m + 1 := ⟨k - 1, by omega⟩
 unfold r09_Encode.f encS
 by_cases h1 : a < 1
 ·rw [if_pos h1, if_pos (.inl h1), r09_Encode.j0, if_pos rfl]
 ·rw [if_neg h1]
  by_cases h2 : a > 255
  ·have hd : decide (a > 255) = true := by simpa using h2
   rw [hd, if_pos (.inr h2), r09_Encode.j0, if_pos rfl]
  ·have hd : decide (a > 255) = false := by simpa using h2
   have hn : ¬ (a < 1 ∨ a > 255) := by omega
   rw [hd, if_neg hn, r09_Encode.j0, if_neg (show ¬ (false = true) by simp), ref_may_f k l (by omega) (by omega), Option.bind_some]
   by_cases h3 : mayS l = 0
   ·obtain ⟨size, rfl⟩ := Int.eq_ofNat_of_zero_le (show 0 ≤ a by omega)
    have hres := ref_enc_ok k l size h3 hl (by omega) (by omega) (by omega)
    rw [if_pos h3, if_pos h3, Int.toNat_natCast]
    exact hres
   ·rw [if_neg h3, if_neg h3]
def takeS (l : List Int) (r : ByteArray × Int × List Int × Bool) : ByteArray × Int × Int := if r.2.2.2 = true then (r.1, r.2.1, ((l.length - r.2.2.1.length : Nat) : Int)) else (⟨#[]⟩, 0, 0)
theorem take_j1_true (k : Nat) (was : ByteArray) (l : List Int) (a b c : Int) : r09_take.j1 (k + 1) was l a b c true = some (⟨#[]⟩, 0, 0) := by rw [r09_take.j1, if_pos rfl]
theorem take_j0_true (k : Nat) (was : ByteArray) (l : List Int) (a b : Int) : r09_take.j0 (k + 1) was l a b true = some (⟨#[]⟩, 0, 0) := by rw [r09_take.j0, if_pos rfl]
theorem tk_w1 (a b n : Nat) (h : a + b ≤ n) (hn : n ≤ 100000000) : wrap64 ((a : Int) + (b : Int)) = ((a + b : Nat) : Int) := by unfold wrap64; omega
theorem tk_w2 (n a : Nat) (h : a ≤ n) (hn : n ≤ 100000000) : IntKind.u64.wrap (wrap64 ((n : Int) - (a : Int))) = ((n - a : Nat) : Int) := by
 rw [show (n : Int) - (a : Int) = ((n - a : Nat) : Int) by omega, show wrap64 ((n - a : Nat) : Int) = ((n - a : Nat) : Int) by unfold wrap64; omega]
 exact u64_small _ (by omega)
theorem tk_w3 (a n : Nat) (h : a ≤ n) (hn : n ≤ 100000000) : wrap64 ((a : Nat) : Int) = (a : Int) := by unfold wrap64; omega
theorem tk_head (s : ByteArray) (n : Nat) (h : n ≤ s.size) : (s.extract 0 n).size = n := by
 rw [← bytesOf_len, bytesOf_head, List.length_take, bytesOf_len]
 omega
theorem tk_str (l : List Int) (hb : Bytes l) (n : Nat) (h : n ≤ l.length) : (strOfNums (l.take n)).size = n := by
 rw [← bytesOf_len, bytesOf_str _ (bytes_take hb _), List.length_take]
 omega
theorem tk_sub (n a m : Nat) (h1 : a ≤ n) (h2 : m ≤ n - a) : a + m ≤ n := by omega
theorem tk_sum (a m s n : Nat) (h : s + n ≤ 100000000) (h1 : a ≤ s) (h2 : m ≤ n) : a + m ≤ 9223372036854775807 := by omega
theorem tk_i3 (n a p : Nat) (h : ((p : Nat) : Int) ≤ ((n - a : Nat) : Int)) (h1 : a ≤ n) : a + p ≤ n ∧ n - (n - (a + p)) = a + p := by omega
theorem take_eq (was : ByteArray) (l : List Int) (hb : Bytes l) (h : was.size + l.length ≤ 100000000) (k : Nat) (hk : 30 < k) : ∃ r, run_entry.f was l = some r ∧ r09_take.f (k + 1 + 1) was l = some (takeS l r) := by
 have hg1 := NumLib.ref_get_f l hb (by omega) (k + 1 + 1) (by omega)
 unfold run_entry.f r09_take.f
 rw [NumLib.get_f _ hb, hg1, Option.bind_some, Option.bind_some]
 rcases h1 : get l with ⟨n1, n2, n3⟩
 simp only
 have g1 := get_bounds l hb n1 n2 n3 h1
 clear hg1 h1
 obtain ⟨i1, rfl⟩ := Int.eq_ofNat_of_zero_le g1.2.2.1
 simp only [Int.toNat_natCast]
 have hb1 := bytes_drop hb i1
 have hg2 := NumLib.ref_get_f _ hb1 (by rw [List.length_drop]; omega) (k + 1) (by omega)
 rw [NumLib.get_f _ hb1, Option.bind_some]
 rcases h2 : get (l.drop i1) with ⟨m1, m2, m3⟩
 rw [h2] at hg2
 simp only
 have g2 := get_bounds _ hb1 m1 m2 m3 h2
 clear h2
 obtain ⟨i2, rfl⟩ := Int.eq_ofNat_of_zero_le g2.2.2.1
 simp only [Int.toNat_natCast]
 have hl1 : (l.drop i1).length = l.length - i1 := List.length_drop
 have hdd : (l.drop i1).drop i2 = l.drop (i1 + i2) := List.drop_drop
 rw [hdd]
 rw [hl1] at g2
 have hb2 := bytes_drop hb (i1 + i2)
 have hl2 : (l.drop (i1 + i2)).length = l.length - (i1 + i2) := List.length_drop
 obtain ⟨a1, rfl⟩ := Int.eq_ofNat_of_zero_le g1.1
 obtain ⟨a2, rfl⟩ := Int.eq_ofNat_of_zero_le g2.1
 simp only [Int.toNat_natCast]
 have hi12 : i1 + i2 ≤ l.length := by omega
 have hlen8 : l.length ≤ 100000000 := by omega
 have hi1 : i1 ≤ l.length := by omega
 have hws : IntKind.u64.wrap (was.size : Int) = (was.size : Int) := u64_small _ (by omega)
 have hwl : IntKind.u64.wrap ((l.drop (i1 + i2)).length : Int) = ((l.length - (i1 + i2) : Nat) : Int) := by rw [hl2]; exact u64_small _ (by omega)
 rw [hws, hwl]
 clear hws hwl
 by_cases c1 : n3 = 0
 ·subst c1
  rw [if_pos rfl]
  by_cases c2 : (a1 : Int) > (was.size : Int)
  ·have hd : decide ((a1 : Int) > (was.size : Int)) = true := by simpa using c2
   rw [hd, take_j0_true]
   by_cases c3 : ((0 : Int) == 0 && m3 == 0) = false
   ·rw [if_pos c3]; exact ⟨_, rfl, rfl⟩
   ·rw [if_neg c3, if_pos c2]; exact ⟨_, rfl, rfl⟩
  ·have hd : decide ((a1 : Int) > (was.size : Int)) = false := by simpa using c2
   have q1 : (0 : Int) ≤ (i1 : Int) := Int.natCast_nonneg _
   have q2 : (i1 : Int) ≤ (l.length : Int) := Int.ofNat_le.2 hi1
   have hw := tk_w1 i1 i2 _ hi12 hlen8
   have hw2 := tk_w2 l.length (i1 + i2) hi12 hlen8
   rw [hd, r09_take.j0, if_neg (show ¬ (false = true) by simp), if_pos q1, if_pos q2, show ((i1 : Nat) : Int).toNat = i1 from rfl, hg2, Option.bind_some]
   simp only
   rw [hw, hw2]
   by_cases c3 : m3 = 0
   ·subst c3
    rw [if_pos rfl, if_neg (show ¬ (((0 : Int) == 0 && (0 : Int) == 0) = false) by simp), if_neg c2]
    by_cases c4 : (a2 : Int) > ((l.length - (i1 + i2) : Nat) : Int)
    ·have hd4 : decide ((a2 : Int) > ((l.length - (i1 + i2) : Nat) : Int)) = true := by simpa using c4
     rw [hd4, take_j1_true, if_pos c4]
     exact ⟨_, rfl, rfl⟩
    ·have hd4 : decide ((a2 : Int) > ((l.length - (i1 + i2) : Nat) : Int)) = false := by simpa using c4
     have z1 : (0 : Int) ≤ (a1 : Int) := Int.natCast_nonneg _
     have z2 : (a1 : Int) ≤ (was.size : Int) := Int.not_lt.1 c2
     have z3 : (0 : Int) ≤ (a2 : Int) := Int.natCast_nonneg _
     have z4 : (a2 : Int) ≤ ((l.length - (i1 + i2) : Nat) : Int) := Int.not_lt.1 c4
     have hm := Int.ofNat_le.1 z4
     have hn := tk_sub _ _ _ hi12 hm
     have hh := tk_head was a1 (Int.ofNat_le.1 z2)
     have ht := tk_str (l.drop (i1 + i2)) hb2 a2 (by rw [hl2]; exact hm)
     have hb3 := bytes_drop hb2 a2
     have hd3 : (l.drop (i1 + i2)).drop a2 = l.drop (i1 + i2 + a2) := List.drop_drop
     have hcut : (l.take (i1 + i2 + a2)).drop (i1 + i2) = (l.drop (i1 + i2)).take a2 := by rw [List.drop_take, Nat.add_sub_cancel_left]
     have hl3 : (l.drop (i1 + i2 + a2)).length = l.length - (i1 + i2 + a2) := List.length_drop
     rw [hd3] at hb3
     have hg3 := NumLib.ref_get_f _ hb3 (by rw [hl3]; exact Nat.lt_of_le_of_lt (Nat.le_trans (Nat.sub_le _ _) hlen8) (by decide)) k (Nat.lt_of_lt_of_le (by decide) (Nat.le_of_lt hk))
     have hw3 := tk_w3 a2 _ (Nat.le_trans (Nat.le_add_left a2 (i1 + i2)) hn) hlen8
     have hw4 := tk_w1 (i1 + i2) a2 _ hn hlen8
     have z5 : (was.extract 0 a1).size + (strOfNums ((l.drop (i1 + i2)).take a2)).size ≤ 9223372036854775807 := by
      rw [hh, ht]
      exact tk_sum _ _ _ _ h (Int.ofNat_le.1 z2) (Nat.le_trans hm (Nat.sub_le _ _))
     have y1 : (0 : Int) ≤ ((i1 + i2 : Nat) : Int) := Int.natCast_nonneg _
     have y2 : ((i1 + i2 : Nat) : Int) ≤ ((i1 + i2 + a2 : Nat) : Int) := Int.ofNat_le.2 (Nat.le_add_right _ _)
     have y3 : ((i1 + i2 + a2 : Nat) : Int) ≤ (l.length : Int) := Int.ofNat_le.2 hn
     have y4 : (0 : Int) ≤ ((i1 + i2 + a2 : Nat) : Int) := Int.natCast_nonneg _
     rw [hd4, if_neg c4, if_pos ⟨z1, z2, z3, by rw [hl2]; exact z4, z5⟩, r09_take.j1, if_neg (show ¬ (false = true) by simp), if_pos z1, if_pos z2, if_pos y1, hw3, hw4, if_pos y2, if_pos y3, show ((i1 + i2 + a2 : Nat) : Int).toNat = i1 + i2 + a2 from rfl, show ((i1 + i2 : Nat) : Int).toNat = i1 + i2 from rfl, show ((a1 : Nat) : Int).toNat = a1 from rfl, hcut, if_pos z5, if_pos y4, hd3, hg3, NumLib.get_f _ hb3, Option.bind_some, Option.bind_some]
     rcases h3 : get (l.drop (i1 + i2 + a2)) with ⟨p1, p2, p3⟩
     simp only
     have g3 := get_bounds _ hb3 p1 p2 p3 h3
     clear h3 hg3 hg2
     rw [hl3] at g3
     obtain ⟨i3, rfl⟩ := Int.eq_ofNat_of_zero_le g3.2.2.1
     refine ⟨_, rfl, ?_⟩
     unfold takeS
     by_cases c5 : p3 = 0
     ·subst c5
      have h3 := tk_i3 l.length (i1 + i2 + a2) i3 g3.2.2.2.1 hn
      have hw5 := tk_w1 (i1 + i2 + a2) i3 _ h3.1 hlen8
      have hl4 : ((l.drop (i1 + i2 + a2)).drop i3).length = l.length - (i1 + i2 + a2 + i3) := by rw [List.drop_drop, List.length_drop]
      have hn := h3.2
      simp only [Int.toNat_natCast]
      rw [if_pos trivial, hw5, hl4, hn]
      rfl
     ·have hf : (p3 == 0) = false := by simpa using c5
      simp only [hf]
      rw [if_neg c5]
      rfl
   ·have hm3 : (m3 == 0) = false := by simpa using c3
    rw [if_neg c3, take_j1_true, if_pos (by rw [hm3]; rfl)]
    exact ⟨_, rfl, rfl⟩
 ·have hn3 : (n3 == 0) = false := by simpa using c1
  rw [if_neg c1, take_j0_true, if_pos (by rw [hn3]; rfl)]
  exact ⟨_, rfl, rfl⟩
theorem wr1 (i : Nat) (h : i ≤ 100000000) : wrap64 ((i : Int) + 1) = ((i + 1 : Nat) : Int) := by unfold wrap64; omega
theorem l1_stop (b : List Int) (R : List (List Int)) (m : Int) (acc : List S36) (i n o c : Nat) (was : ByteArray) (k : Nat) (hi : i ≤ 100000000) (hn : n ≤ 100000000) (h : ¬ c < n) :
  r09_Decode.l1 (k + 1) b R m acc (i : Int) (n : Int) (o : Int) was (c : Int) = r09_Decode.l0 k b R m acc ((i + 1 : Nat) : Int) := by
 rw [r09_Decode.l1, tk_w3 n n (Nat.le_refl _) hn, if_neg (show ¬ (c : Int) < (n : Int) by omega), wr1 i hi]
theorem l1_step (b : List Int) (R : List (List Int)) (m : Int) (acc : List S36) (i n o c : Nat) (was : ByteArray) (k : Nat) (hi : i < R.length) (hn : n ≤ 100000000) (h : c < n) (ho : o ≤ R[i].length) (hacc : acc.length ≤ 1000000) (hp : Bytes R[i]) (hs : was.size + R[i].length ≤ 1000000) (hk : 40 < k) :
  ∃ r, run_entry.f was (R[i].drop o) = some r ∧ r09_Decode.l1 (k + 1 + 1 + 1) b R m acc (i : Int) (n : Int) (o : Int) was (c : Int) =
   (if (takeS (R[i].drop o) r).2.2 = 0 then some ([], 2) else r09_Decode.l1 (k + 1 + 1) b R m (acc ++ [⟨(takeS (R[i].drop o) r).1, (takeS (R[i].drop o) r).2.1⟩]) (i : Int) (n : Int) (wrap64 ((o : Int) + (takeS (R[i].drop o) r).2.2)) (takeS (R[i].drop o) r).1 ((c + 1 : Nat) : Int)) := by
 have hl : (R[i].drop o).length ≤ R[i].length := by rw [List.length_drop]; exact Nat.sub_le _ _
 obtain ⟨r, hr, ht⟩ := take_eq was (R[i].drop o) (bytes_drop hp _) (by omega) k (by omega)
 refine ⟨r, hr, ?_⟩
 have q1 : (c : Int) < (n : Int) := by omega
 have q2 : (0 : Int) ≤ (i : Int) := by omega
 have q3 : (i : Int) < (R.length : Int) := by omega
 have q4 : (0 : Int) ≤ (o : Int) := by omega
 have q5 : (o : Int) ≤ (R[i].length : Int) := by omega
 have q6 : acc.length < 5864062014805 := by omega
 rw [r09_Decode.l1, tk_w3 n n (Nat.le_refl _) hn, if_pos q1, if_pos q2, if_pos q3, if_pos q4, rdL_eq R i hi, if_pos q5, Int.toNat_natCast, ht, Option.bind_some, if_pos q6, wr1 c (by omega)]
theorem takeS_ok (l : List Int) (r : ByteArray × Int × List Int × Bool) (h : r.2.2.2 = true) : takeS l r = (r.1, r.2.1, ((l.length - r.2.2.1.length : Nat) : Int)) := by unfold takeS; rw [if_pos h]
theorem takeS_bad (l : List Int) (r : ByteArray × Int × List Int × Bool) (h : r.2.2.2 = false) : takeS l r = (⟨#[]⟩, 0, 0) := by unfold takeS; rw [h, if_neg (by simp)]
theorem l1_arith (P o e t w s : Nat) (ho : o ≤ P) (h1 : e + t ≤ w + (P - o)) (h2 : t + 3 ≤ P - o) (h : w + (P - o) ≤ s) : o + (P - o - t) ≤ P ∧ e + (P - (o + (P - o - t))) ≤ s ∧ P - o - t ≠ 0 ∧ (P - (o + (P - o - t))) + 3 ≤ P - o := by omega
theorem l1_total (b : List Int) (R : List (List Int)) (m : Int) (i : Nat) (hi : i < R.length) (hR : R.length ≤ 1000000) (n : Nat) (hn : n ≤ 255) (hp : Bytes R[i]) (hpl : R[i].length ≤ 100000) : ∀ (d k c o : Nat) (was : ByteArray) (acc : List S36), c + d = n → d + 50 < k → o ≤ R[i].length → was.size + (R[i].length - o) ≤ 100000 → acc.length + d ≤ 1000000 →
  r09_Decode.l1 k b R m acc (i : Int) (n : Int) (o : Int) was (c : Int) = some ([], 2) ∨ ∃ (k' : Nat) (es : List S36), k ≤ k' + d + 1 ∧ 3 * es.length ≤ R[i].length - o ∧ r09_Decode.l1 k b R m acc (i : Int) (n : Int) (o : Int) was (c : Int) = r09_Decode.l0 k' b R m (acc ++ es) ((i + 1 : Nat) : Int)
 | 0, k, c, o, was, acc, hc, hk, ho, hs, ha => by
  obtain ⟨k, rfl⟩ : ∃ m, k = m + 1 := ⟨k - 1, by omega⟩
  refine .inr ⟨k, [], by omega, by simp, ?_⟩
  rw [List.append_nil]
  exact l1_stop b R m acc i n o c was k (by omega) (by omega) (by omega)
 | d + 1, k, c, o, was, acc, hc, hk, ho, hs, ha => by
  obtain ⟨k, rfl⟩ : ∃ m, k = m + 1 + 1 + 1 := ⟨k - 3, by omega⟩
  obtain ⟨r, hr, hst⟩ := l1_step b R m acc i n o c was k hi (by omega) (by omega) ho (by omega) hp (by omega) (by omega)
  have hld : (R[i].drop o).length = R[i].length - o := List.length_drop
  obtain ⟨r', hr', h3⟩ := entry_total was (R[i].drop o) (bytes_drop hp _) (by omega)
  obtain rfl : r = r' := Option.some.inj (hr.symm.trans hr')
  rw [hst]
  cases hq : r.2.2.2 with
  | false =>
   rw [takeS_bad _ r hq, if_pos rfl]
   exact .inl rfl
  | true =>
   obtain ⟨g1, g2, g3⟩ := h3 hq
   rw [takeS_ok _ r hq, hld]
   rw [hld] at g1 g2
   simp only
   generalize r.2.2.1.length = t at g1 g2 ⊢
   obtain ⟨a1, a2, a3, a4⟩ := l1_arith R[i].length o r.1.size t was.size 100000 ho g1 g2 hs
   have hz : ¬ ((R[i].length - o - t : Nat) : Int) = 0 := by omega
   rw [if_neg hz, tk_w1 o _ _ a1 (by omega)]
   rcases l1_total b R m i hi hR n hn hp hpl d (k + 1 + 1) (c + 1) (o + (R[i].length - o - t)) r.1 (acc ++ [⟨r.1, r.2.1⟩]) (by omega) (by omega) a1 a2 (by rw [List.length_append, List.length_singleton]; omega) with h | ⟨k', es, h1, h2, h⟩
   ·exact .inl h
   ·refine .inr ⟨k', ⟨r.1, r.2.1⟩ :: es, by omega, by rw [List.length_cons]; omega, ?_⟩
    rw [h, List.append_assoc]
    rfl
theorem l1_exact (b : List Int) (R : List (List Int)) (m : Int) (i : Nat) (hi : i < R.length) (hR : R.length ≤ 1000000) (n : Nat) (hn : n ≤ 255) (hp : Bytes R[i]) (hpl : R[i].length ≤ 100000) : ∀ (es : List S36) (k c o : Nat) (was : ByteArray) (acc : List S36), c + es.length = n → es.length + 50 < k → o ≤ R[i].length → was.size ≤ 255 → acc.length + es.length ≤ 1000000 → (∀ x ∈ es, fineS x) → R[i].drop o = entsB (bytesOf was) es →
  ∃ (k' : Nat), k ≤ k' + es.length + 1 ∧ r09_Decode.l1 k b R m acc (i : Int) (n : Int) (o : Int) was (c : Int) = r09_Decode.l0 k' b R m (acc ++ es) ((i + 1 : Nat) : Int)
 | [], k, c, o, was, acc, hc, hk, ho, hs, ha, hf, he => by
  obtain ⟨k, rfl⟩ : ∃ m, k = m + 1 := ⟨k - 1, by omega⟩
  rw [List.length_nil] at hc
  refine ⟨k, by omega, ?_⟩
  rw [List.append_nil]
  exact l1_stop b R m acc i n o c was k (by omega) (by omega) (by omega)
 | x :: es, k, c, o, was, acc, hc, hk, ho, hs, ha, hf, he => by
  rw [List.length_cons] at hc hk ha
  obtain ⟨k, rfl⟩ : ∃ m, k = m + 1 + 1 + 1 := ⟨k - 3, by omega⟩
  obtain ⟨r, hr, hst⟩ := l1_step b R m acc i n o c was k hi (by omega) (by omega) ho (by omega) hp (by omega) (by omega)
  have hx := hf x List.mem_cons_self
  have hf' : ∀ y ∈ es, fineS y := fun y hy => hf y (List.mem_cons_of_mem _ hy)
  have hld : (R[i].drop o).length = R[i].length - o := List.length_drop
  rw [entsB] at he
  have hbr := entsB_bytes es (wd x) hf'
  have hlen := congrArg List.length he
  rw [List.length_append, hld] at hlen
  rw [he, entry_f was x hx _ hbr (by omega) hs] at hr
  obtain rfl := Option.some.inj hr
  have hent : 1 ≤ (entB (bytesOf was) x).length := by
   unfold entB
   have := putn_len x.f1 (by have := hx.2.2; omega) (by have := hx.2.2; omega)
   rw [List.length_append]
   omega
  rw [hst, takeS_ok _ _ rfl, hld]
  simp only
  have hlt : R[i].length - o - (entsB (wd x) es).length = (entB (bytesOf was) x).length := by omega
  rw [hlt]
  generalize he1 : (entB (bytesOf was) x).length = t at hlen hlt hent ⊢
  have a1 : o + t ≤ R[i].length := by omega
  have hz : ¬ ((t : Nat) : Int) = 0 := by omega
  rw [if_neg hz, tk_w1 o _ _ a1 (by omega)]
  have hd : R[i].drop (o + t) = entsB (wd x) es := by rw [← List.drop_drop, he, ← he1, List.drop_left]
  obtain ⟨k', h1, h⟩ := l1_exact b R m i hi hR n hn hp hpl es (k + 1 + 1) (c + 1) (o + t) x.f0 (acc ++ [⟨x.f0, x.f1⟩]) (by omega) (by omega) a1 hx.2.1 (by rw [List.length_append, List.length_singleton]; omega) hf' hd
  refine ⟨k', by rw [List.length_cons]; omega, ?_⟩
  rw [h, List.append_assoc]
  rfl
theorem wl1 (r : Nat) (h2 : 2 ≤ r) (h : r ≤ 1000000) : wrap64 ((r : Int) - 1) = ((r - 1 : Nat) : Int) := by unfold wrap64; omega
theorem ref_dec_end (k : Nat) (b : List Int) (hb : Bytes b) (n : Int) (acc : List S36) (R : List (List Int)) (h2 : 2 ≤ R.length) (hR : R.length ≤ 1000000) (hk : 1100000 < k) (hacc : acc.length ≤ 30000) (i : Nat) (hi : ¬ i < R.length - 1) :
  r09_Decode.l0 (k + 1) b R n acc (i : Int) = some (endS acc (wrap64 n) b) := by
 have q1 : ¬ (i : Int) < ((R.length - 1 : Nat) : Int) := by omega
 rw [r09_Decode.l0, wl1 _ h2 hR, if_neg q1, ref_enc_f k acc _ hacc hk, Option.bind_some]
 have hB := encS_bytes acc (wrap64 n) (Nat.le_trans hacc (by decide))
 unfold endS
 by_cases h : (encS acc (wrap64 n)).2 = 0
 ·rw [if_pos h, if_pos h]
  by_cases h3 : (encS acc (wrap64 n)).1 = b
  ·rw [if_pos h3, if_pos ((str_inj hB hb).2 h3)]
  ·rw [if_neg h3, if_neg (fun e => h3 ((str_inj hB hb).1 e))]
 ·rw [if_neg h, if_neg h]
theorem ref_l0_step (k : Nat) (b : List Int) (n : Int) (acc : List S36) (R : List (List Int)) (h2 : 2 ≤ R.length) (hR : R.length ≤ 1000000) (hk : 20 < k) (i : Nat) (hi : i < R.length - 1) (hlt : i < R.length) (hp : Bytes R[i]) (hpl : R[i].length ≤ 1000000) :
  r09_Decode.l0 (k + 1 + 1) b R n acc (i : Int) = (if (get R[i]).2.2 = 0 ∧ ¬ (get R[i]).1 > 255 then r09_Decode.l1 k b R n acc (i : Int) (get R[i]).1 (get R[i]).2.1 ⟨#[]⟩ 0 else some ([], 2)) := by
 have q1 : (i : Int) < ((R.length - 1 : Nat) : Int) := by omega
 have q2 : (0 : Int) ≤ (i : Int) := by omega
 have q3 : (i : Int) < (R.length : Int) := by omega
 rw [r09_Decode.l0, wl1 _ h2 hR, if_pos q1, if_pos q2, if_pos q3, rdL_eq R i hlt, NumLib.ref_get_f _ hp (by omega) (k + 1) (by omega), Option.bind_some]
 rcases get R[i] with ⟨n1, n2, n3⟩
 simp only
 by_cases c1 : n3 = 0
 ·rw [if_pos c1]
  by_cases c2 : n1 > 255
  ·rw [if_neg (fun h => h.2 c2), decide_eq_true c2, r09_Decode.j2, if_pos rfl]
  ·rw [if_pos ⟨c1, c2⟩, decide_eq_false c2, r09_Decode.j2, if_neg (by simp)]
 ·rw [if_neg c1, if_neg (fun h => c1 h.1), r09_Decode.j2, if_pos rfl]
theorem ref_l0_total (b : List Int) (hb : Bytes b) (n : Int) (R : List (List Int)) (hRb : ∀ p ∈ R, Bytes p) (h2 : 2 ≤ R.length) (hR : R.length ≤ 1000000) (hbl : b.length ≤ 30000) (d : Nat) : ∀ (k i : Nat) (acc : List S36), 300 * d + 1200000 < k → i + d = R.length - 1 → 3 * acc.length + sumLen (R.drop i) ≤ b.length →
  ∃ r, r09_Decode.l0 k b R n acc (i : Int) = some r ∧ (r = ([], 2) ∨ ∃ x, x.length ≤ b.length ∧ r = endS x (wrap64 n) b) := by
 induction d with
 | zero =>
  intro k i acc hk hi hs
  obtain ⟨k, rfl⟩ : ∃ m, k = m + 1 := ⟨k - 1, by omega⟩
  exact ⟨_, ref_dec_end k b hb n acc R h2 hR (by omega) (by omega) i (by omega), .inr ⟨acc, by omega, rfl⟩⟩
 | succ d ih =>
  intro k i acc hk hi hs
  obtain ⟨k, rfl⟩ : ∃ m, k = m + 1 + 1 := ⟨k - 2, by omega⟩
  have hlt : i < R.length := by omega
  rw [sumLen_drop R i hlt] at hs
  have hp := hRb _ (List.getElem_mem hlt)
  rw [ref_l0_step k b n acc R h2 hR (by omega) i (by omega) hlt hp (by omega)]
  rcases hg : get R[i] with ⟨n1, n2, n3⟩
  have g1 := get_bounds _ hp n1 n2 n3 hg
  clear hg
  simp only
  by_cases c : n3 = 0 ∧ ¬ n1 > 255
  ·rw [if_pos c]
   obtain ⟨a, rfl⟩ := Int.eq_ofNat_of_zero_le g1.1
   obtain ⟨o, rfl⟩ := Int.eq_ofNat_of_zero_le g1.2.2.1
   have ha : a ≤ 255 := by have := c.2; omega
   have ho : o ≤ R[i].length := by omega
   have hz : (⟨#[]⟩ : ByteArray).size = 0 := rfl
   rcases l1_total b R n i hlt hR a ha hp (by omega) a k 0 o ⟨#[]⟩ acc (Nat.zero_add a) (by omega) ho (by rw [hz]; omega) (by omega) with h | ⟨k', es, e1, e2, h⟩
   ·exact ⟨_, h, .inl rfl⟩
   ·rw [show ((0 : Nat) : Int) = (0 : Int) from rfl] at h
    rw [h]
    exact ih k' (i + 1) (acc ++ es) (by omega) (by omega) (by rw [List.length_append]; omega)
  ·rw [if_neg c]
   exact ⟨_, rfl, .inl rfl⟩
theorem ref_l0_chunks (b : List Int) (hb : Bytes b) (n : Int) (R : List (List Int)) (h2 : 2 ≤ R.length) (hR : R.length ≤ 1000000) (z : List Int) : ∀ (cs : List (List S36)) (k i : Nat) (acc : List S36), (∀ c ∈ cs, (∀ x ∈ c, fineS x) ∧ c.length ≤ 255) → 300 * cs.length + 1200000 < k → i < R.length → R.drop i = cs.map blockB ++ [z] → acc.length + cs.flatten.length ≤ 30000 →
  r09_Decode.l0 k b R n acc (i : Int) = some (endS (acc ++ cs.flatten) (wrap64 n) b)
 | [], k, i, acc, _, hk, hi, hy, ha => by
  obtain ⟨k, rfl⟩ : ∃ m, k = m + 1 := ⟨k - 1, by omega⟩
  have hlen := congrArg List.length hy
  rw [List.length_drop, List.map_nil, List.nil_append, List.length_singleton] at hlen
  rw [List.flatten_nil] at ha ⊢
  rw [List.append_nil]
  rw [List.length_nil] at ha
  exact ref_dec_end k b hb n acc R h2 hR (by omega) (by omega) i (by omega)
 | c :: cs, k, i, acc, hc, hk, hi, hy, ha => by
  obtain ⟨k, rfl⟩ : ∃ m, k = m + 1 + 1 := ⟨k - 2, by omega⟩
  have hlen := congrArg List.length hy
  rw [List.length_drop, List.map_cons, List.length_append, List.length_cons, List.length_map, List.length_singleton] at hlen
  rw [List.drop_eq_getElem_cons hi, List.map_cons, List.cons_append] at hy
  injection hy with hy1 hy2
  rw [List.length_cons] at hk
  rw [List.flatten_cons, List.length_append] at ha
  have hc0 := hc c List.mem_cons_self
  have hbb := blockB_bytes hc0.1 (Nat.le_trans hc0.2 (by decide))
  have hbl := blockB_len hc0.1 (Nat.le_trans hc0.2 (by decide))
  have hp : Bytes R[i] := by rw [hy1]; exact hbb
  have hpl : R[i].length ≤ 100000 := by
   rw [hy1]
   refine Nat.le_trans hbl ?_
   have := hc0.2
   generalize c.length = q at this ⊢
   omega
  have hgp : get R[i] = ((c.length : Int), ((putn (c.length : Int)).length : Int), 0) := by
   rw [hy1]
   unfold blockB
   rw [get_put _ (by have := hc0.2; omega) (by have := hc0.2; omega)]
  have hdr : R[i].drop (putn (c.length : Int)).length = entsB (bytesOf ⟨#[]⟩) c := by
   rw [hy1]
   unfold blockB
   rw [List.drop_left]
   rfl
  have hpo : (putn (c.length : Int)).length ≤ R[i].length := by
   rw [hy1]
   unfold blockB
   rw [List.length_append]
   exact Nat.le_add_right _ _
  have hpos : i < R.length - 1 := by omega
  rw [ref_l0_step k b n acc R h2 hR (by omega) i hpos hi hp (Nat.le_trans hpl (by decide)), hgp]
  simp only
  have hn : ¬ ((c.length : Nat) : Int) > 255 := by have := hc0.2; omega
  rw [if_pos ⟨trivial, hn⟩]
  generalize (putn (c.length : Int)).length = o at hdr hpo ⊢
  obtain ⟨k', e1, h⟩ := l1_exact b R n i hi hR c.length hc0.2 hp hpl c k 0 o ⟨#[]⟩ acc (Nat.zero_add _) (by have := hc0.2; omega) hpo (by decide) (by omega) hc0.1 hdr
  rw [show ((0 : Nat) : Int) = (0 : Int) from rfl] at h
  rw [h, ref_l0_chunks b hb n R h2 hR z cs k' (i + 1) (acc ++ c) (fun c' h' => hc c' (List.mem_cons_of_mem _ h')) (by have := hc0.2; omega) (by omega) hy2 (by rw [List.length_append]; omega), List.flatten_cons, List.append_assoc]
theorem ref_dec_total (b : List Int) (hb : Bytes b) (hlen : b.length ≤ 30000) (k : Nat) (hk : 300 * b.length + 1400000 < k) : ∃ r, r09_Decode.f k b = some r ∧ Read b r := by
 have hsl := scanN_len (b.length + 1) b hb
 have hsr := scanN_rows (b.length + 1) b hb
 unfold r09_Decode.f
 rw [ref_scan_f b hb (by omega) k (by omega), Option.bind_some]
 simp only
 generalize (scanN (b.length + 1) b).1 = R at hsl hsr ⊢
 generalize (scanN (b.length + 1) b).2 = q at hsl
 by_cases h2 : (R.length : Int) < 2
 ·rw [if_pos h2]; exact ⟨_, rfl, .inl rfl⟩
 have h0 : 0 < R.length := by omega
 have h0' : (0 : Int) < (R.length : Int) := by omega
 rw [if_neg h2, if_pos h0']
 have hR0 : Bytes R[0] := hsr.1 _ (List.getElem_mem h0)
 have e0 : rd_L4 R 0 = R[0] := rdL_eq R 0 h0
 have hd0 := sumLen_drop R 0 h0
 rw [List.drop_zero] at hd0
 have hd1 : sumLen (R.drop 1) ≤ sumLen R := sumLen_sub (List.drop_sublist _ _)
 rw [e0, NumLib.ref_get_f _ hR0 (by omega) k (by omega), Option.bind_some]
 rcases hg : get R[0] with ⟨n1, n2, n3⟩
 simp only
 have j0 : ∀ q, ∃ r, r09_Decode.j0 k b R n1 q = some r ∧ Read b r := by
  intro q
  obtain ⟨k, rfl⟩ : ∃ m, k = m + 1 := ⟨k - 1, by omega⟩
  rw [r09_Decode.j0]
  cases q with
  | true => rw [if_pos rfl]; exact ⟨_, rfl, .inl rfl⟩
  | false =>
   rw [if_neg (by simp)]
   obtain ⟨r, hr, h3⟩ := ref_l0_total b hb n1 R hsr.1 (by omega) (by omega) hlen (R.length - 2) k 1 [] (by omega) (by omega) (by rw [List.length_nil]; omega)
   refine ⟨r, hr, ?_⟩
   rcases h3 with h3 | ⟨x, hx, h3⟩
   ·exact .inl h3
   ·rw [h3]; exact read_end hx
 by_cases h3 : n3 = 0
 ·rw [if_pos h3]; exact j0 _
 ·rw [if_neg h3]; exact j0 _
theorem endS_enc (l : List S36) (hm : mayS l = 0) (size : Nat) (h1 : 1 ≤ size) (hs : size ≤ 255) : endS l (wrap64 (size : Int)) (encB l size) = (l, 0) := by
 have hw2 : wrap64 (size : Int) = size := by unfold wrap64; omega
 have hn : ¬ ((size : Int) < 1 ∨ (size : Int) > 255) := by omega
 have hE : encS l (size : Int) = (encB l size, 0) := by
  unfold encS
  rw [if_neg hn, if_pos hm, Int.toNat_natCast]
 unfold endS
 rw [hw2, hE, if_pos rfl, if_pos rfl]
theorem ref_dec_fin (l : List S36) (size : Nat) (h1 : 1 ≤ size) (hs : size ≤ 255) (B : List Int) (R : List (List Int)) (P : List Int) (hR2 : 2 ≤ R.length) (hR3 : R.length ≤ 1000000) (e0 : rd_L4 R 0 = P) (hp : Bytes P) (hgp : get P = ((size : Int), (P.length : Int), 0)) (hpl : 1 ≤ P.length ∧ P.length ≤ 10) (k : Nat) (hk : 300 * l.length + 1400000 < k)
  (hch : ∀ k', 300 * l.length + 1399990 < k' → r09_Decode.l0 k' B R (size : Int) [] 1 = some (l, 0)) :
  (if (R.length : Int) < 2 then (some (([] : List (S36)), 2)) else (if 0 < (R.length : Int) then ((r01_Get.f k (rd_L4 R 0)).bind fun bt367 => (if bt367.2.2 = 0 then (r09_Decode.j0 k B R bt367.1 (decide (bt367.1 > 255))) else (r09_Decode.j0 k B R bt367.1 true))) else (none))) = some (l, 0) := by
 have h3 : ¬ ((R.length : Nat) : Int) < 2 := by omega
 have h0' : (0 : Int) < (R.length : Int) := by omega
 have hde : decide ((size : Int) > 255) = false := decide_eq_false (by omega)
 rw [if_neg h3, if_pos h0', e0, NumLib.ref_get_f _ hp (by omega) k (by omega), hgp, Option.bind_some]
 simp only
 obtain ⟨k, rfl⟩ : ∃ m, k = m + 1 := ⟨k - 1, by omega⟩
 rw [if_pos trivial, hde, r09_Decode.j0, if_neg (show ¬ (false = true) by simp)]
 exact hch k (by omega)
theorem ref_dec_enc (l : List S36) (hm : mayS l = 0) (hl : l.length ≤ 30000) (size : Nat) (h1 : 1 ≤ size) (hs : size ≤ 255) (hbl : (encB l size).length ≤ 100000) (k : Nat) (hk : 300 * l.length + 1400000 < k) : r09_Decode.f k (encB l size) = some (l, 0) := by
 have hf := (mayS_zero hm).1
 have hok := encR_ok l hf (by omega) size hs h1
 have hb : Bytes (encB l size) := recs_bytes _ hok
 have hsc := scan_recs _ hok
 have hcn := chunks_count size h1 l.length l (Nat.le_refl _)
 have hcl : (chunks size l.length l).length ≤ l.length + 255 := by
  rw [hcn]
  exact Nat.le_trans (Nat.div_le_self _ _) (by omega)
 have hj := chunks_join size h1 l.length l (Nat.le_refl _)
 have hcs : ∀ c ∈ chunks size l.length l, (∀ x ∈ c, fineS x) ∧ c.length ≤ 255 := by
  intro c hc
  refine ⟨chunks_fine size _ l hf c hc, ?_⟩
  rcases chunks_mem size _ l c hc with h | h
  ·exact Nat.le_trans h.1 hs
  ·omega
 have hRl : (encR l size).length = (chunks size l.length l).length + 2 := by
  unfold encR
  rw [List.length_append, List.length_cons, List.length_map, List.length_singleton]
 have hR2 : 2 ≤ (encR l size).length := by rw [hRl]; exact Nat.le_add_left 2 _
 have hR3 : (encR l size).length ≤ 1000000 := by rw [hRl]; generalize (chunks size l.length l).length = q at hcl; omega
 have hdrop : (encR l size).drop 1 = (chunks size l.length l).map blockB ++ [putn 0 ++ putn (l.length : Int)] := rfl
 have he := endS_enc l hm size h1 hs
 have e0 : rd_L4 (encR l size) 0 = putn (size : Int) := rfl
 have hp := putn_bytes (size : Int) (by omega) (by omega)
 have hgp := get_put (size : Int) (by omega) (by omega) []
 rw [List.append_nil] at hgp
 have hpl := putn_len (size : Int) (by omega) (by omega)
 unfold r09_Decode.f
 rw [ref_scan_f _ hb hbl k (by omega), Option.bind_some, show scanN ((encB l size).length + 1) (encB l size) = (encR l size, (encB l size).length) from hsc]
 simp only
 exact ref_dec_fin l size h1 hs _ _ _ hR2 hR3 e0 hp hgp hpl k hk (fun k' hk' => by
  have h300 : 300 * (chunks size l.length l).length ≤ 300 * l.length + 76500 := by generalize (chunks size l.length l).length = q at hcl; omega
  have := ref_l0_chunks (encB l size) hb (size : Int) (encR l size) hR2 hR3 (putn 0 ++ putn (l.length : Int)) (chunks size l.length l) k' 1 [] hcs (by generalize (chunks size l.length l).length = q at h300; omega) (by generalize (encR l size).length = q at hR2; omega) hdrop (by rw [hj, List.length_nil]; omega)
  rw [hj, List.nil_append, he] at this
  exact this)
end Go.Proofs.Ytnabhfegbnfabaa.RunLib
end
section
namespace Go.Proofs.Ytnabhfegbnfabaa.RowKd
open Go.RowKit Go.ChangeShapes Go.WideShapes Go.Proofs.YtnabhfegbnfabaaW.PrintWords
structure Tells {α : Type} (P : Program) (t : TypeId) (d : Kd α) (wf : α → Prop) : Prop where
 cells : P.cellsOf t = d.sz
 down : ∀ {H : Type} {enc : TypeId × Value → H} {w : World} {base : Nat} {held : Bool} {fuel : Nat} {cs : List Value} {x : DataW H × List MemPlace},
  DataW.trod enc P w base (fun _ => true) held fuel t cs = some x → ∃ y, d.K w y cs ∧ wf y
theorem tells_int {P : Program} {t : TypeId} {k : IntKind} (ht : P.underlying t = some (.int k)) (hc : P.cellsOf t = 1) : Tells P t (Kd.int k) (fun n => (Lit.int k n).wf = true) := by
 refine ⟨hc, fun h => ?_⟩
 obtain ⟨n, rfl, _, hw⟩ := DataW.trod_int ht h
 exact ⟨n, rfl, hw⟩
theorem tells_bool {P : Program} {t : TypeId} (ht : P.underlying t = some .bool) (hc : P.cellsOf t = 1) : Tells P t Kd.bool (fun _ => True) := by
 refine ⟨hc, fun h => ?_⟩
 obtain ⟨n, rfl, _⟩ := DataW.trod_bool ht h
 exact ⟨n, rfl, trivial⟩
theorem tells_slice {α : Type} {P : Program} {t e : TypeId} {d : Kd α} {wf : α → Prop} (ht : P.underlying t = some (.slice e)) (hc : P.cellsOf t = 1) (he : Tells P e d wf) :
  Tells P t (Kd.slice e d) (fun xs => xs.length ≤ maxLen ∧ ∀ x ∈ xs, wf x) := by
 refine ⟨hc, @fun H enc w base held fuel cs x h => ?_⟩
 rcases Go.Deep.open_slice ht h with ⟨rfl, _⟩ | ⟨a, len, cap, m, n, D, Pl, rfl, hb, hl, hm, hmm, _, hx⟩
 ·exact ⟨[], ⟨none, 0, rfl, Nat.le_refl _, rfl, by simp, fun h => absurd h (Nat.lt_irrefl _)⟩, by simp, by simp⟩
 ·have hlm : len ≤ m := by rw [hmm]; simp only [if_true]; exact hl
  have one : ∀ i, i < len → ∃ y : Option α, ∃ z, y = some z ∧ (∃ c, c.length = d.sz ∧ d.K w z c ∧ ∀ j u, c[j]? = some u → w.cell? (a.add (i * d.sz + j)) = some u) ∧ wf z := by
   intro i hi
   obtain ⟨cs', h1, h2⟩ := hx i (Nat.lt_of_lt_of_le hi hlm)
   obtain ⟨z, hK, hw⟩ := he.down h2
   obtain ⟨_, hlen, hcell⟩ := World.cells?_some h1
   rw [he.cells] at hlen hcell
   refine ⟨some z, z, rfl, ⟨cs', hlen, hK, fun j u hj => ?_⟩, hw⟩
   have hj' : j < d.sz := by rw [← hlen]; exact (List.getElem?_eq_some_iff.1 hj).1
   rw [← Go.Deep.add_add, ← hj]
   exact hcell j hj'
  obtain ⟨f, hf⟩ := Go.Deep.choose_lt (α := Option α) one
  have key : ∃ xs : List α, xs.length = len ∧ ∀ i z, xs[i]? = some z → (∃ c, c.length = d.sz ∧ d.K w z c ∧ ∀ j u, c[j]? = some u → w.cell? (a.add (i * d.sz + j)) = some u) ∧ wf z := by
   refine ⟨(List.range len).pmap (fun i (hi : i < len) => (f i).get (by obtain ⟨z, hz, _⟩ := hf i hi; rw [hz]; rfl)) (fun i hi => List.mem_range.1 hi), by simp, fun i z hz => ?_⟩
   obtain ⟨hi, hz⟩ := List.getElem?_eq_some_iff.1 hz
   simp only [List.length_pmap, List.length_range] at hi
   obtain ⟨z', hz', h1, h2⟩ := hf i hi
   simp only [List.getElem_pmap, List.getElem_range, hz', Option.get_some] at hz
   subst hz
   exact ⟨h1, h2⟩
  obtain ⟨xs, hxl, hxs⟩ := key
  refine ⟨xs, ⟨some a, cap, by rw [hxl], by rw [hxl]; exact hl, rfl, ?_, fun _ => ⟨a, rfl, fun j p hj => (hxs j p hj).1⟩⟩, ?_, fun x hx => ?_⟩
  ·rw [hxl]; simp only [maxLen] at hm; omega
  ·rw [hxl]; exact Nat.le_trans hl hm
  ·obtain ⟨i, hi, rfl⟩ := List.getElem_of_mem hx
   exact (hxs i _ (List.getElem?_eq_getElem hi)).2
theorem tells_arg {α : Type} {H : Type} {enc : TypeId × Value → H} {P : Program} {t e : TypeId} {d : Kd α} {wf : List α → Prop} {w : World} {base : Nat} {held : Bool} {a : Option Addr} {len cap : Nat} {x : DataW H} {ps : List MemPlace}
  (h : Tells P t (Kd.slice e d) wf) (hd : DataW.Trod enc P w base (fun _ => true) held t (.slice a len cap) x ps) :
  ∃ xs : List α, len = xs.length ∧ xs.length ≤ cap ∧ d.C w a xs.length xs ∧ wf xs := by
 obtain ⟨fuel, hf⟩ := hd
 obtain ⟨xs, ⟨A, c, hcs, hl, hC⟩, hw⟩ := h.down hf
 simp [Value.cells] at hcs
 obtain ⟨rfl, rfl, rfl⟩ := hcs
 exact ⟨xs, rfl, hl, hC, hw⟩
end Go.Proofs.Ytnabhfegbnfabaa.RowKd
end
section
namespace Go.Proofs.Ytnabhfegbnfabaa.RowKd
open Go.RowKit Go.ChangeShapes Go.WideShapes Go.Proofs.YtnabhfegbnfabaaW.PrintWords Go.Proofs.Ytnabhfegbnfabaa.PRd
end Go.Proofs.Ytnabhfegbnfabaa.RowKd
end
section
namespace Go.Proofs.Ytnabhfegbnfabaa.RunLib
open Go.RowKit Go.Proofs.Ytnabhfegbnfabaa.PRd Go.Proofs.YtnabhfegbnfabaaW.PrintWords Go.Proofs.YtnabhfegbnfabaaW.PrintLast Go.Proofs.YtnabhfegbnfabaaW.PrintMore Go.Proofs.Ytnabhfegbnfabaa.NumLib Go.Proofs.Ytnabhfegbnfabaa.FrameLib
set_option linter.unusedVariables false
set_option linter.unusedSimpArgs false
theorem encS_ok (l : List S36) (hm : mayS l = 0) (n : Nat) (h1 : 1 ≤ n) (h2 : n ≤ 255) : encS l (n : Int) = (encB l n, 0) := by
 have hn : ¬ ((n : Int) < 1 ∨ (n : Int) > 255) := by omega
 unfold encS
 rw [if_neg hn, if_pos hm, Int.toNat_natCast]
theorem dec_both (b : List Int) (hb : Bytes b) (hl : b.length ≤ 20000) : ∃ r : List S36 × Int, (∀ k, 10000000 < k → run_Decode.f k b = some r) ∧ (∀ k, 10000000 < k → r09_Decode.f k b = some r) ∧ r.1.length ≤ 20000 := by
 obtain ⟨r1, e1, h1⟩ := dec_total b hb (by omega) 10000001 (by omega)
 obtain ⟨r2, e2, h2⟩ := ref_dec_total b hb (by omega) 10000001 (by omega)
 rcases h1 with rfl | ⟨x, n, rfl, n1, n2, hm, hx, he⟩
 ·rcases h2 with rfl | ⟨x, n, rfl, n1, n2, hm, hx, he⟩
  ·exact ⟨_, fun k hk => at_rounds (run_Decode.mono b) (by omega) e1, fun k hk => at_rounds (r09_Decode.mono b) (by omega) e2, Nat.zero_le _⟩
  ·have := dec_enc x hm (by omega) n n1 n2 10000001 (by rw [he]; omega)
   rw [he] at this
   exact ⟨_, fun k hk => at_rounds (run_Decode.mono b) (by omega) this, fun k hk => at_rounds (r09_Decode.mono b) (by omega) e2, by simp only; omega⟩
 ·have := ref_dec_enc x hm (by omega) n n1 n2 (by rw [he]; omega) 10000001 (by omega)
  rw [he] at this
  exact ⟨_, fun k hk => at_rounds (run_Decode.mono b) (by omega) e1, fun k hk => at_rounds (r09_Decode.mono b) (by omega) this, by simp only; omega⟩
theorem one_may : mayS [exOne] = 0 := by decide +kernel
theorem shown_f (k : Nat) (hk : 10000000 < k) : l10_shown.f k = some true := by
 have he : encS [exOne] 1 = (encB [exOne] 1, 0) := encS_ok [exOne] one_may 1 (by omega) (by omega)
 have hbl := encB_len [exOne] (mayS_zero one_may).1 (by simp) 1 (by omega) (by omega)
 rw [List.length_singleton] at hbl
 have hd := dec_enc [exOne] one_may (by simp) 1 (by omega) (by omega) k (by omega)
 unfold l10_shown.f
 rw [enc_f k [exOne] 1 (by simp) (by simp; omega), he, Option.bind_some]
 simp only
 rw [hd, Option.bind_some, if_pos]
 exact ⟨trivial, rfl, rfl, (by decide +kernel : (rhd [exOne]).f0.toList = [97]), rfl⟩
end Go.Proofs.Ytnabhfegbnfabaa.RunLib
end
section
namespace Go.Proofs.Ytnabhfegbnfabaa.Pure
open Go.RowKit Go.Proofs.Ytnabhfegbnfabaa.PRd Go.Proofs.YtnabhfegbnfabaaW.PrintWords Go.Proofs.YtnabhfegbnfabaaW.PrintLast Go.Proofs.YtnabhfegbnfabaaW.PrintMore Go.Proofs.Ytnabhfegbnfabaa.NumLib Go.Proofs.Ytnabhfegbnfabaa.FrameLib Go.Proofs.Ytnabhfegbnfabaa.RunLib
set_option linter.unusedVariables false
set_option linter.unusedSimpArgs false
theorem ReaderPlays (l0 : List Int) (l1 : List Bool) (w0 : l0.length ≤ maxLen ∧ ∀ x ∈ l0, (Lit.int .u8 x).wf = true) (w1 : l1.length ≤ maxLen ∧ ∀ x ∈ l1, True) : ∃ k, l10_ReaderPlays.f k l0 l1 = some true := by
 refine ⟨20000000, ?_⟩
 unfold l10_ReaderPlays.f
 rw [shown_f 20000000 (by omega), Option.bind_some]
 by_cases h : (l0.length : Int) > 20000
 ·rw [if_pos h]
 ·rw [if_neg h]
  obtain ⟨r, h1, h2, h3⟩ := dec_both l0 (fun x hx => wf_byte (w0.2 x hx)) (by omega)
  rw [h1 20000000 (by omega), Option.bind_some, h2 20000000 (by omega), Option.bind_some, if_pos ⟨rfl, eqS_refl _, by omega, rfl⟩]
end Go.Proofs.Ytnabhfegbnfabaa.Pure
end
