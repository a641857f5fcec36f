/- Plain laws of runs, on: what is read of bytes is what was encoded, and nothing else is. -/
import Derived.Test.YtmfngihgoanhpaaRunEnc
namespace Go.Proofs.Ytmfngihgoanhpaa.RunLib
open Go.RowKit Go.Proofs.Ytmfngihgoanhpaa.PRun Go.Proofs.YtmfngihgoanhpaaW.PrintWords Go.Proofs.YtmfngihgoanhpaaW.PrintLast Go.Proofs.YtmfngihgoanhpaaW.PrintMore Go.Proofs.Ytmfngihgoanhpaa.NumLib Go.Proofs.Ytmfngihgoanhpaa.FrameLib
set_option linter.unusedVariables false
set_option linter.unusedSimpArgs false

theorem entry_f (was : ByteArray) (x : S44) (hx : fineS x) (rest : List Int) (hr : Bytes rest) (hrl : rest.length ≤ 100000000) (hw : was.size ≤ 255) : run_entry.f was (entB (bytesOf was) x ++ rest) = some (x.f0, x.f1, rest, true) := by
  have hwl := wd_len hx
  have hs := sh_le (bytesOf was) (wd x)
  have ht := sh_take (bytesOf was) (wd x)
  rw [bytesOf_len] at hs
  unfold entB
  generalize sh (bytesOf was) (wd x) = n at hs ht ⊢
  have hc := hx.2.2
  have e : putn (n : Int) ++ putn (((wd x).length - n : Nat) : Int) ++ (wd x).drop n ++ putn x.f1 ++ rest = putn (n : Int) ++ (putn (((wd x).length - n : Nat) : Int) ++ ((wd x).drop n ++ (putn x.f1 ++ rest))) := by simp only [List.append_assoc]
  rw [e]
  have b1 : Bytes (putn x.f1 ++ rest) := bytes_append (putn_bytes _ (by omega) (by omega)) hr
  have b2 : Bytes ((wd x).drop n ++ (putn x.f1 ++ rest)) := bytes_append (bytes_drop (bytesOf_bytes _) _) b1
  have b3 : Bytes (putn (((wd x).length - n : Nat) : Int) ++ ((wd x).drop n ++ (putn x.f1 ++ rest))) := bytes_append (putn_bytes _ (by omega) (by omega)) b2
  have b4 : Bytes (putn (n : Int) ++ (putn (((wd x).length - n : Nat) : Int) ++ ((wd x).drop n ++ (putn x.f1 ++ rest)))) := bytes_append (putn_bytes _ (by omega) (by omega)) b3
  unfold run_entry.f
  rw [NumLib.get_f _ b4, get_put n (by omega) (by omega), Option.bind_some]
  simp only [Int.toNat_natCast, List.drop_left]
  rw [NumLib.get_f _ b3, get_put _ (by omega) (by omega), Option.bind_some]
  simp only [Int.toNat_natCast, List.drop_left]
  have hd : ((wd x).drop n).length = (wd x).length - n := List.length_drop
  have hlen : ((wd x).drop n ++ (putn x.f1 ++ rest)).length = (wd x).length - n + (putn x.f1 ++ rest).length := by rw [List.length_append, hd]
  have htk : ((wd x).drop n ++ (putn x.f1 ++ rest)).take ((wd x).length - n) = (wd x).drop n := by rw [← hd, List.take_left]
  have hdp : ((wd x).drop n ++ (putn x.f1 ++ rest)).drop ((wd x).length - n) = putn x.f1 ++ rest := by rw [← hd, List.drop_left]
  rw [if_neg (by simp), if_neg (by rw [u64_small _ (by omega)]; omega), if_neg (by
    have hp := putn_len x.f1 (by omega) (by omega)
    rw [hlen, List.length_append, u64_small _ (by omega)]
    omega), htk, hdp]
  rw [if_pos (by
    refine ⟨by omega, by omega, by omega, by rw [hlen]; omega, ?_⟩
    have h1 : (was.extract 0 n).size ≤ 255 := by rw [← bytesOf_len, bytesOf_head, List.length_take, bytesOf_len]; omega
    have h2 : (strOfNums ((wd x).drop n)).size ≤ 255 := by
      rw [← bytesOf_len, bytesOf_str _ (show Bytes ((wd x).drop n) from bytes_drop (bytesOf_bytes _) _), hd]
      omega
    omega), NumLib.get_f _ b1, get_put x.f1 (by omega) (by omega), Option.bind_some]
  simp only [Int.toNat_natCast, List.drop_left]
  have hword : was.extract 0 n ++ strOfNums ((wd x).drop n) = x.f0 := by
    apply bytesOf_inj
    rw [bytesOf_append, bytesOf_head, bytesOf_str _ (show Bytes ((wd x).drop n) from bytes_drop (bytesOf_bytes _) _), ht]
    exact List.take_append_drop n (wd x)
  rw [hword]
  simp
theorem unblock_go : ∀ (l : List S44) (was : ByteArray) (rest : List Int) (acc : List S44), (∀ x ∈ l, fineS x) → Bytes rest → was.size ≤ 255 → acc.length + l.length < 5864062014805 → l.length ≤ 100000 → rest.length ≤ 1000000 →
    run_unblock.go l.length was (entsB (bytesOf was) l ++ rest) acc = some (acc ++ l, rest.length == 0)
  | [], was, rest, acc, _, _, _, _, _, _ => by rw [List.length_nil, run_unblock.go, entsB, List.nil_append, List.append_nil]
  | x :: l, was, rest, acc, h, hr, hw, hacc, hl1, hrl => by
    have hx := h x List.mem_cons_self
    have hl : ∀ y ∈ l, fineS y := fun y hy => h y (List.mem_cons_of_mem _ hy)
    rw [List.length_cons] at hacc hl1
    have hel := entsB_len l (wd x) hl
    rw [List.length_cons, run_unblock.go, entsB, List.append_assoc, entry_f was x hx _ (bytes_append (entsB_bytes l (wd x) hl) hr) (by rw [List.length_append]; omega) hw, Option.bind_some]
    simp only
    rw [if_neg (by simp), if_pos (by omega)]
    have := unblock_go l x.f0 rest (acc ++ [x]) hl hr hx.2.1 (by rw [List.length_append, List.length_singleton]; omega) (by omega) hrl
    rw [show wd x = bytesOf x.f0 from rfl]
    rw [show ({ f0 := x.f0, f1 := x.f1 } : S44) = x from rfl, this, List.append_assoc, List.singleton_append]
theorem unblock_f (l : List S44) (h : ∀ x ∈ l, fineS x) (hl : l.length ≤ 255) : run_unblock.f (blockB l) = some (l, true) := by
  have hb := blockB_bytes h (by omega)
  unfold run_unblock.f
  rw [NumLib.get_f _ hb]
  unfold blockB
  rw [get_put _ (by omega) (by omega), Option.bind_some]
  simp only [Int.toNat_natCast, List.drop_left]
  rw [if_neg (by simp), if_neg (by omega), if_pos (by omega)]
  have := unblock_go l ⟨#[]⟩ [] [] h (by intro x hx; simp at hx) (by decide) (by simp; omega) (by omega) (by simp)
  rw [List.append_nil, List.nil_append] at this
  exact this

/-! ### Any bytes are read -/
theorem get_bounds (l : List Int) (hb : Bytes l) (x i e : Int) (h : get l = (x, i, e)) : 0 ≤ x ∧ x < 18446744073709551616 ∧ 0 ≤ i ∧ i ≤ l.length ∧ (e = 0 → 1 ≤ i) := by
  by_cases he : e = 0
  · subst he
    have := get_ok l hb x i h
    omega
  · have := get_bad l x i e h he
    omega
theorem entry_total (was : ByteArray) (l : List Int) (hb : Bytes l) (h : was.size + l.length ≤ 100000000) : ∃ r, run_entry.f was l = some r ∧ (r.2.2.2 = true → r.1.size + r.2.2.1.length ≤ was.size + l.length ∧ r.2.2.1.length + 3 ≤ l.length ∧ Bytes r.2.2.1) := by
  unfold run_entry.f
  rw [NumLib.get_f _ hb, Option.bind_some]
  rcases h1 : get l with ⟨n1, n2, n3⟩
  simp only
  have g1 := get_bounds l hb n1 n2 n3 h1
  obtain ⟨i1, rfl⟩ := Int.eq_ofNat_of_zero_le g1.2.2.1
  simp only [Int.toNat_natCast]
  have hb1 := bytes_drop hb i1
  rw [NumLib.get_f _ hb1, Option.bind_some]
  rcases h2 : get (l.drop i1) with ⟨m1, m2, m3⟩
  simp only
  have g2 := get_bounds _ hb1 m1 m2 m3 h2
  obtain ⟨i2, rfl⟩ := Int.eq_ofNat_of_zero_le g2.2.2.1
  simp only [Int.toNat_natCast]
  have hb2 := bytes_drop hb1 i2
  have hl1 : (l.drop i1).length = l.length - i1 := List.length_drop
  have hl2 : ((l.drop i1).drop i2).length = l.length - i1 - i2 := by rw [List.length_drop, hl1]
  by_cases c1 : (n3 == 0 && m3 == 0) = false
  · rw [if_pos c1]; exact ⟨_, rfl, fun h => by simp at h⟩
  rw [if_neg c1]
  by_cases c2 : n1 > IntKind.u64.wrap (was.size : Int)
  · rw [if_pos c2]; exact ⟨_, rfl, fun h => by simp at h⟩
  rw [if_neg c2]
  by_cases c3 : m1 > IntKind.u64.wrap (((l.drop i1).drop i2).length : Int)
  · rw [if_pos c3]; exact ⟨_, rfl, fun h => by simp at h⟩
  rw [if_neg c3]
  rw [u64_small _ (by omega)] at c2 c3
  obtain ⟨a1, rfl⟩ := Int.eq_ofNat_of_zero_le g1.1
  obtain ⟨a2, rfl⟩ := Int.eq_ofNat_of_zero_le g2.1
  have hn3 : n3 = 0 := by
    cases hq : (n3 == 0) with
    | true => simpa using hq
    | false => rw [hq] at c1; simp at c1
  have hm3 : m3 = 0 := by
    cases hq : (m3 == 0) with
    | true => simpa using hq
    | false => rw [hq] at c1; simp at c1
  have hi1 := g1.2.2.2.2 hn3
  have hi2 := g2.2.2.2.2 hm3
  simp only [Int.toNat_natCast]
  have hh : (was.extract 0 a1).size = a1 := by
    rw [← bytesOf_len, bytesOf_head, List.length_take, bytesOf_len]
    omega
  have ht : (strOfNums (((l.drop i1).drop i2).take a2)).size = a2 := by
    rw [← bytesOf_len, bytesOf_str _ (bytes_take hb2 _), List.length_take]
    omega
  have hb3 := bytes_drop hb2 a2
  rw [if_pos (by refine ⟨by omega, by omega, by omega, by omega, ?_⟩; rw [hh, ht]; omega), NumLib.get_f _ hb3, Option.bind_some]
  rcases h3 : get (((l.drop i1).drop i2).drop a2) with ⟨p1, p2, p3⟩
  simp only
  have g3 := get_bounds _ hb3 p1 p2 p3 h3
  obtain ⟨i3, rfl⟩ := Int.eq_ofNat_of_zero_le g3.2.2.1
  simp only [Int.toNat_natCast]
  refine ⟨_, rfl, fun hp => ?_⟩
  simp only at hp ⊢
  have hp3 : p3 = 0 := by simpa using hp
  have hi3 := g3.2.2.2.2 hp3
  have hsz : (was.extract 0 a1 ++ strOfNums (((l.drop i1).drop i2).take a2)).size = a1 + a2 := by
    rw [ByteArray.size_append, hh, ht]
  have hl3 : (((l.drop i1).drop i2).drop a2).length = l.length - i1 - i2 - a2 := by rw [List.length_drop, hl2]
  have hl4 : ((((l.drop i1).drop i2).drop a2).drop i3).length = l.length - i1 - i2 - a2 - i3 := by rw [List.length_drop, hl3]
  rw [hsz, hl4]
  refine ⟨by omega, by omega, bytes_drop hb3 _⟩
theorem unblock_go_total : ∀ (n : Nat) (was : ByteArray) (left : List Int) (acc : List S44), Bytes left → was.size + left.length ≤ 100000000 → acc.length + n < 5864062014805 → ∃ r, run_unblock.go n was left acc = some r ∧ (r.2 = true → 3 * r.1.length ≤ 3 * acc.length + left.length)
  | 0, was, left, acc, _, _, _ => ⟨_, rfl, fun _ => by simp⟩
  | n + 1, was, left, acc, hb, hw, hacc => by
    obtain ⟨⟨e1, e2, e3, e4⟩, he, h2⟩ := entry_total was left hb hw
    rw [run_unblock.go, he, Option.bind_some]
    simp only at h2 ⊢
    cases e4 with
    | false =>
      rw [if_pos rfl]
      exact ⟨_, rfl, fun h => by simp at h⟩
    | true =>
      obtain ⟨h3, h4, h5⟩ := h2 rfl
      rw [if_neg (by simp), if_pos (by omega)]
      obtain ⟨r, hr, h6⟩ := unblock_go_total n e1 e3 (acc ++ [⟨e1, e2⟩]) h5 (by omega) (by rw [List.length_append, List.length_singleton]; omega)
      refine ⟨r, hr, fun h => ?_⟩
      have := h6 h
      rw [List.length_append, List.length_singleton] at this
      omega
theorem unblock_total (l : List Int) (hb : Bytes l) (h : l.length ≤ 100000000) : ∃ r, run_unblock.f l = some r ∧ (r.2 = true → 3 * r.1.length ≤ l.length) := by
  unfold run_unblock.f
  rw [NumLib.get_f _ hb, Option.bind_some]
  rcases h1 : get l with ⟨n1, n2, n3⟩
  simp only
  have g1 := get_bounds l hb n1 n2 n3 h1
  by_cases c1 : n3 ≠ 0
  · rw [if_pos c1]; exact ⟨_, rfl, fun h => by simp at h⟩
  rw [if_neg c1]
  by_cases c2 : n1 > 255
  · rw [if_pos c2]; exact ⟨_, rfl, fun h => by simp at h⟩
  rw [if_neg c2, if_pos (by omega)]
  have hle : (l.drop n2.toNat).length ≤ l.length := by rw [List.length_drop]; omega
  obtain ⟨r, hr, h2⟩ := unblock_go_total n1.toNat ⟨#[]⟩ (l.drop n2.toNat) [] (bytes_drop hb _) (by
    have : (⟨#[]⟩ : ByteArray).size = 0 := rfl
    omega) (by simp; omega)
  refine ⟨r, hr, fun h => ?_⟩
  have := h2 h
  rw [List.length_nil] at this
  omega

/-! ### The whole -/
theorem rdL_eq (y : List (List Int)) (i : Nat) (h : i < y.length) : rd_L4 y i = y[i] := by
  unfold rd_L4
  rw [Int.toNat_natCast, List.getD_eq_getElem?_getD, List.getElem?_eq_getElem h, Option.getD_some]
def sumLen (y : List (List Int)) : Nat := (y.map List.length).sum
theorem sumLen_drop (y : List (List Int)) (i : Nat) (h : i < y.length) : sumLen (y.drop i) = y[i].length + sumLen (y.drop (i + 1)) := by
  unfold sumLen
  rw [List.drop_eq_getElem_cons h, List.map_cons, List.sum_cons]
theorem sumLen_sub {a b : List (List Int)} (h : a.Sublist b) : sumLen a ≤ sumLen b := by
  induction h with
  | slnil => exact Nat.le_refl _
  | cons x _ ih =>
    unfold sumLen at ih ⊢
    rw [List.map_cons, List.sum_cons]
    omega
  | cons_cons x _ ih =>
    unfold sumLen at ih ⊢
    rw [List.map_cons, List.map_cons, List.sum_cons, List.sum_cons]
    omega
theorem scanN_rows : ∀ (d : Nat) (l : List Int), Bytes l → (∀ p ∈ (scanN d l).1, Bytes p) ∧ sumLen (scanN d l).1 ≤ l.length
  | 0, l, _ => by simp [scanN, sumLen]
  | d + 1, l, hl => by
    rw [scanN]
    rcases hg : getR l with ⟨p, n, e⟩
    simp only
    by_cases he : e = 0
    · subst he
      obtain ⟨h1, h2, h3, h4, h5, h6⟩ := getR_ok _ hl p n hg
      obtain ⟨i1, i2⟩ := scanN_rows d (l.drop n.toNat) (bytes_drop hl _)
      have h7 := rec_len p
      rw [List.length_drop] at i2
      rw [if_pos rfl]
      refine ⟨fun q hq => ?_, ?_⟩
      · rcases List.mem_cons.1 hq with rfl | hq
        · exact h2
        · exact i1 q hq
      · unfold sumLen at i2 ⊢
        rw [List.map_cons, List.sum_cons]
        omega
    · rw [if_neg he]
      simp [sumLen]
theorem equal_f (a b : List Int) (ha : Bytes a) (hb : Bytes b) : bytes_Equal.f a b = some (decide (a = b)) := by
  unfold bytes_Equal.f
  congr 1
  by_cases h : a = b
  · rw [decide_eq_true h, h, beq_self_eq_true]
  · rw [decide_eq_false h]
    exact beq_eq_false_iff_ne.2 (fun e => h ((str_inj ha hb).1 e))
theorem encS_bytes (l : List S44) (a : Int) (hl : l.length ≤ 100000) : Bytes (encS l a).1 := by
  unfold encS
  by_cases h1 : a < 1 ∨ a > 255
  · rw [if_pos h1]; intro x hx; simp at hx
  · rw [if_neg h1]
    by_cases h2 : mayS l = 0
    · rw [if_pos h2]
      exact recs_bytes _ (encR_ok l (mayS_zero h2).1 hl _ (by omega) (by omega))
    · rw [if_neg h2]; intro x hx; simp at hx
/-- How the reading ends: what was read is encoded again, and held against the bytes. -/
def endS (x : List S44) (a : Int) (b : List Int) : List S44 × Int := if (encS x a).2 = 0 then (if (encS x a).1 = b then (x, 0) else ([], 2)) else ([], 2)
theorem dec_end (k : Nat) (b : List Int) (hb : Bytes b) (n : Int) (acc : List S44) (y : List (List Int)) (hk : acc.length + 2000 < k) (hacc : acc.length ≤ 100000) (i : Int) (hi : ¬ i < (y.length : Int)) :
    run_Decode.l0 (k + 1) b n acc y (y.length : Int) i = some (endS acc (wrap64 n) b) := by
  rw [run_Decode.l0, if_neg hi, enc_f k acc _ hacc hk, Option.bind_some]
  unfold endS
  by_cases h : (encS acc (wrap64 n)).2 = 0
  · rw [if_pos h, if_pos h, equal_f _ _ (encS_bytes acc _ hacc) hb, Option.bind_some]
    by_cases h2 : (encS acc (wrap64 n)).1 = b
    · rw [decide_eq_true h2, if_pos rfl, if_pos h2]
    · rw [decide_eq_false h2, if_neg (by simp), if_neg h2]
  · rw [if_neg h, if_neg h]
theorem dec_l0_total (b : List Int) (hb : Bytes b) (n : Int) (y : List (List Int)) (hy : ∀ p ∈ y, Bytes p) (hyl : y.length ≤ 1000000) (d : Nat) : ∀ (k i : Nat) (acc : List S44), d + 200000 < k → i + d = y.length → 3 * acc.length + sumLen (y.drop i) ≤ b.length → b.length ≤ 100000 →
    ∃ r, run_Decode.l0 k b n acc y (y.length : Int) i = some r ∧ (r = ([], 2) ∨ ∃ x, x.length ≤ b.length ∧ r = endS x (wrap64 n) b) := by
  induction d with
  | zero =>
    intro k i acc hk hi hs hbl
    obtain ⟨k, rfl⟩ : ∃ m, k = m + 1 := ⟨k - 1, by omega⟩
    exact ⟨_, dec_end k b hb n acc y (by omega) (by omega) i (by omega), .inr ⟨acc, by omega, rfl⟩⟩
  | succ d ih =>
    intro k i acc hk hi hs hbl
    obtain ⟨k, rfl⟩ : ∃ m, k = m + 1 := ⟨k - 1, by omega⟩
    have hw : wrap64 ((i : Int) + 1) = ((i + 1 : Nat) : Int) := by unfold wrap64; omega
    have hlt : i < y.length := by omega
    rw [sumLen_drop y i hlt] at hs
    obtain ⟨⟨u1, u2⟩, hu, h2⟩ := unblock_total y[i] (hy _ (List.getElem_mem hlt)) (by omega)
    rw [run_Decode.l0, if_pos (by omega), if_pos (by omega), if_pos (by omega), rdL_eq y i hlt, hu, Option.bind_some]
    simp only at h2 ⊢
    cases u2 with
    | false =>
      rw [if_neg (by simp)]
      exact ⟨_, rfl, .inl rfl⟩
    | true =>
      have h3 := h2 rfl
      rw [if_pos rfl, if_pos (by omega), hw]
      exact ih k (i + 1) (acc ++ u1) (by omega) (by omega) (by rw [List.length_append]; omega) hbl
theorem dec_l0_chunks (b : List Int) (hb : Bytes b) (n : Int) (y : List (List Int)) (hyl : y.length ≤ 1000000) : ∀ (cs : List (List S44)) (k i : Nat) (acc : List S44), (∀ c ∈ cs, (∀ x ∈ c, fineS x) ∧ c.length ≤ 255) → cs.length + 200000 < k → i ≤ y.length → y.drop i = cs.map blockB → acc.length + cs.flatten.length ≤ 100000 →
    run_Decode.l0 k b n acc y (y.length : Int) i = some (endS (acc ++ cs.flatten) (wrap64 n) b)
  | [], k, i, acc, _, hk, hi, hy, ha => by
    obtain ⟨k, rfl⟩ : ∃ m, k = m + 1 := ⟨k - 1, by omega⟩
    have hlen := congrArg List.length hy
    rw [List.length_drop, List.map_nil, List.length_nil] at hlen
    rw [List.flatten_nil] at ha ⊢
    rw [List.append_nil]
    exact dec_end k b hb n acc y (by omega) (by omega) i (by omega)
  | c :: cs, k, i, acc, hc, hk, hi, hy, ha => by
    obtain ⟨k, rfl⟩ : ∃ m, k = m + 1 := ⟨k - 1, by omega⟩
    have hlen := congrArg List.length hy
    rw [List.length_drop, List.map_cons, List.length_cons] at hlen
    have hlt : i < y.length := by omega
    have hw : wrap64 ((i : Int) + 1) = ((i + 1 : Nat) : Int) := by unfold wrap64; omega
    rw [List.drop_eq_getElem_cons hlt, List.map_cons] at hy
    injection hy with hy1 hy2
    rw [List.length_cons] at hk
    rw [List.flatten_cons, List.length_append] at ha
    have hc0 := hc c List.mem_cons_self
    rw [run_Decode.l0, if_pos (by omega), if_pos (by omega), if_pos (by omega), rdL_eq y i hlt, hy1, unblock_f c hc0.1 hc0.2, Option.bind_some]
    simp only
    rw [if_pos trivial, if_pos (by omega), hw, dec_l0_chunks b hb n y hyl cs k (i + 1) (acc ++ c) (fun c' h' => hc c' (List.mem_cons_of_mem _ h')) (by omega) (by omega) hy2 (by rw [List.length_append]; omega), List.flatten_cons, List.append_assoc]
theorem endS_ok {x : List S44} {a : Int} {b : List Int} (h : (endS x a b).2 = 0) : endS x a b = (x, 0) ∧ 1 ≤ a ∧ a ≤ 255 ∧ mayS x = 0 ∧ encB x a.toNat = b := by
  unfold endS at h ⊢
  by_cases h1 : (encS x a).2 = 0
  · rw [if_pos h1] at h ⊢
    by_cases h2 : (encS x a).1 = b
    · rw [if_pos h2]
      unfold encS at h1 h2
      by_cases h3 : a < 1 ∨ a > 255
      · rw [if_pos h3] at h1; simp at h1
      · rw [if_neg h3] at h1 h2
        by_cases h4 : mayS x = 0
        · rw [if_pos h4] at h2
          exact ⟨rfl, by omega, by omega, h4, h2⟩
        · rw [if_neg h4] at h1
          exact absurd h1 h4
    · rw [if_neg h2] at h; simp at h
  · rw [if_neg h1] at h; simp at h
theorem endS_cases (x : List S44) (a : Int) (b : List Int) : endS x a b = ([], 2) ∨ (endS x a b).2 = 0 := by
  unfold endS
  split
  · split
    · exact .inr rfl
    · exact .inl rfl
  · exact .inl rfl
/-- What reading says: nothing, or entries whose run the bytes are. -/
def Read (b : List Int) (r : List S44 × Int) : Prop := r = ([], 2) ∨ ∃ (x : List S44) (size : Nat), r = (x, 0) ∧ 1 ≤ size ∧ size ≤ 255 ∧ mayS x = 0 ∧ x.length ≤ b.length ∧ encB x size = b
theorem read_end {b : List Int} {x : List S44} {a : Int} (hx : x.length ≤ b.length) : Read b (endS x a b) := by
  rcases endS_cases x a b with h | h
  · exact .inl h
  · obtain ⟨h1, h2, h3, h4, h5⟩ := endS_ok h
    exact .inr ⟨x, a.toNat, h1, by omega, by omega, h4, hx, h5⟩
end Go.Proofs.Ytmfngihgoanhpaa.RunLib
