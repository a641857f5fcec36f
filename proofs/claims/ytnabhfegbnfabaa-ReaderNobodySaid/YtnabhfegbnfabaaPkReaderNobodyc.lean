/- Parts of the proof, merged by a program of this session. -/
import Derived.Deep.Slices
import Derived.OpenShut
import Derived.Test.YtnabhfegbnfabaaPkReaderNobodya
import Derived.Test.YtnabhfegbnfabaaPkReaderNobodyb
section
namespace Go.Proofs.Ytnabhfegbnfabaa.FrameLib
open Go.RowKit Go.Proofs.Ytnabhfegbnfabaa.PRd Go.Proofs.YtnabhfegbnfabaaW.PrintWords Go.Proofs.YtnabhfegbnfabaaW.PrintLast Go.Proofs.Ytnabhfegbnfabaa.NumLib
theorem rec_len (p : List Int) : (recL p).length = (putn p.length).length + p.length + 4 := by
 unfold recL
 rw [List.length_append, List.length_append, sum_len]
theorem rec_bytes (p : List Int) (hp : Bytes p) (h : p.length ≤ 1048576) : Bytes (recL p) := by
 unfold recL
 exact bytes_append (bytes_append (putn_bytes _ (by omega) (by omega)) hp) (sum_bytes p)
theorem getR_ok (l : List Int) (hl : Bytes l) (p : List Int) (n : Int) (h : getR l = (p, n, 0)) : p.length ≤ 1048576 ∧ Bytes p ∧ n = (recL p).length ∧ n ≤ l.length ∧ l.take n.toNat = recL p ∧ 5 ≤ n := by
 unfold getR at h
 rcases hg : NumLib.get l with ⟨x, i, e⟩
 rw [hg] at h
 simp only at h
 by_cases he : e = 0
 ·subst he
  obtain ⟨i1, i2, x0, x1, hput⟩ := NumLib.get_ok l hl x i hg
  rw [if_neg (show ¬ ((0 : Int) ≠ 0) by simp)] at h
  by_cases hx : x > 1048576
  ·rw [if_pos hx] at h; simp at h
  ·rw [if_neg hx] at h
   by_cases hs : (l.length : Int) < i + x + 4
   ·rw [if_pos hs] at h; simp at h
   ·rw [if_neg hs] at h
    by_cases heq : (l.take (i + x + 4).toNat).drop (i + x).toNat = sumL ((l.take (i + x).toNat).drop i.toNat)
    ·rw [if_pos heq] at h
     obtain ⟨rfl, rfl⟩ : (l.take (i + x).toNat).drop i.toNat = p ∧ i + x + 4 = n := by simpa using h
     have hpl : ((l.take (i + x).toNat).drop i.toNat).length = x.toNat := by rw [List.length_drop, List.length_take]; omega
     have e1 : (i + x + 4).toNat = (i + x).toNat + 4 := by omega
     have e2 : l.take (i + x + 4).toNat = recL ((l.take (i + x).toNat).drop i.toNat) := by
      unfold recL
      rw [hpl, Int.toNat_of_nonneg x0, hput, ← heq]
      have a1 : l.take i.toNat = (l.take (i + x).toNat).take i.toNat := by rw [List.take_take, Nat.min_eq_left (by omega)]
      have a2 : l.take (i + x).toNat = (l.take (i + x + 4).toNat).take (i + x).toNat := by rw [List.take_take, Nat.min_eq_left (by omega)]
      rw [a1, List.take_append_drop, a2, List.take_append_drop]
     have e3 : ((recL ((l.take (i + x).toNat).drop i.toNat)).length : Int) = i + x + 4 := by
      rw [← e2, List.length_take]
      omega
     exact ⟨by omega, bytes_drop (bytes_take hl _) _, e3.symm, by omega, e2, by omega⟩
    ·rw [if_neg heq] at h; simp at h
 ·rw [if_pos he] at h
  simp at h
  omega
theorem getR_rec (p b : List Int) (hp : p.length ≤ 1048576) : getR (recL p ++ b) = (p, ((recL p).length : Int), 0) := by
 have hl := putn_len p.length (by omega) (by omega)
 have hg : NumLib.get (recL p ++ b) = ((p.length : Int), ((putn p.length).length : Int), 0) := by
  unfold recL
  rw [List.append_assoc, List.append_assoc]
  exact NumLib.get_put p.length (by omega) (by omega) _
 have hr := rec_len p
 unfold getR
 rw [hg]
 simp only
 generalize hq : (putn p.length).length = q at *
 have n1 : ((q : Int) + (p.length : Int)).toNat = q + p.length := by omega
 have n2 : ((q : Int) + (p.length : Int) + 4).toNat = q + p.length + 4 := by omega
 have n3 : (q : Int).toNat = q := by omega
 have t1 : (recL p ++ b).take (q + p.length) = putn p.length ++ p := by
  unfold recL
  rw [List.append_assoc, List.append_assoc, ← List.append_assoc (putn p.length), List.take_left' (by rw [List.length_append]; omega)]
 have t2 : (recL p ++ b).take (q + p.length + 4) = recL p := List.take_left' (by omega)
 have t3 : (recL p).drop (q + p.length) = sumL p := by
  unfold recL
  rw [List.drop_left' (by rw [List.length_append]; omega)]
 have t4 : (putn p.length ++ p).drop q = p := by rw [List.drop_left' hq]
 rw [n1, n2, n3, t1, t2, t3, t4, if_neg (show ¬ ((0 : Int) ≠ 0) by simp), if_neg (by omega), if_neg (by rw [List.length_append, hr]; omega), if_pos rfl, hr]
 congr 2
theorem getR_cut (p : List Int) (hp : p.length ≤ 1048576) (k : Nat) (hk : k < (recL p).length) : (getR ((recL p).take k)).2.2 ≠ 0 := by
 have hl := putn_len p.length (by omega) (by omega)
 have hr := rec_len p
 intro h0
 by_cases hq : k < (putn p.length).length
 ·obtain ⟨c, hc, hlc, hs, _⟩ := put_spec 9 p.length (by omega) (by omega)
  have e : (recL p).take k = (putn p.length).take k := by
   unfold recL
   rw [List.append_assoc, List.take_append_of_le_length (by omega)]
  have hs0 := hs []
  rw [List.append_nil] at hs0
  have hlc' : (putn p.length).length = c + 1 := hlc
  have hsh := scan_short 10 c (putn p.length) hs0 (by omega) k (by omega)
  have hg : NumLib.get ((putn p.length).take k) = (0, 0, 3) := by
   unfold NumLib.get
   rw [hsh]
  unfold getR at h0
  rw [e, hg] at h0
  simp at h0
 ·have e : (recL p).take k = putn p.length ++ (p ++ sumL p).take (k - (putn p.length).length) := by
   unfold recL
   rw [List.append_assoc, List.take_append, List.take_of_length_le (by omega)]
  have hg : NumLib.get ((recL p).take k) = ((p.length : Int), ((putn p.length).length : Int), 0) := by
   rw [e]
   exact NumLib.get_put p.length (by omega) (by omega) _
  unfold getR at h0
  rw [hg] at h0
  simp only at h0
  rw [if_neg (show ¬ ((0 : Int) ≠ 0) by simp), if_neg (by omega), if_pos (by rw [List.length_take]; omega)] at h0
  exact absurd h0 (by decide)
where
 scan_short : ∀ (k c : Nat) (l : List Int), scanL k l = some c → c < k → ∀ i, i ≤ c → scanL k (l.take i) = none
  | 0, c, l, _, h, _, _ => by omega
  | k + 1, c, [], hs, _, _, _ => by simp [scanL] at hs
  | k + 1, c, x :: t, hs, h, 0, _ => by simp [scanL]
  | k + 1, c, x :: t, hs, h, i + 1, hi => by
   rw [scanL] at hs
   rw [List.take_succ_cons, scanL]
   by_cases hx : x < 128
   ·rw [if_pos hx] at hs
    have := Option.some.inj hs
    omega
   ·rw [if_neg hx] at hs
    rw [if_neg hx]
    cases hs2 : scanL k t with
    | none => rw [hs2] at hs; simp at hs
    | some d =>
     rw [hs2] at hs
     simp at hs
     rw [scan_short k d t hs2 (by omega) i (by omega)]
     rfl
end Go.Proofs.Ytnabhfegbnfabaa.FrameLib
end
section
namespace Go.Proofs.Ytnabhfegbnfabaa.FrameLib
open Go.RowKit Go.Proofs.Ytnabhfegbnfabaa.PRd Go.Proofs.YtnabhfegbnfabaaW.PrintWords Go.Proofs.YtnabhfegbnfabaaW.PrintLast Go.Proofs.Ytnabhfegbnfabaa.NumLib
def scanN : Nat → List Int → List (List Int) × Nat
 | 0, _ => ([], 0)
 | k + 1, l => if (getR l).2.2 = 0 then ((getR l).1 :: (scanN k (l.drop (getR l).2.1.toNat)).1, (getR l).2.1.toNat + (scanN k (l.drop (getR l).2.1.toNat)).2) else ([], 0)
theorem scan_l0 (l : List Int) (hl : Bytes l) (hlen : l.length ≤ 100000000) (d : Nat) : ∀ (k i : Nat) (acc : List (List Int)), d + 10 < k → i ≤ l.length → l.length - i < d → acc.length + d ≤ 1000000000 →
  frame_Scan.l0 k l acc i = some (acc ++ (scanN d (l.drop i)).1, ((i + (scanN d (l.drop i)).2 : Nat) : Int)) := by
 induction d with
 | zero => intro k i acc _ _ h _; omega
 | succ d ih =>
  intro k i acc hk hi hd hacc
  obtain ⟨k, rfl⟩ : ∃ m, k = m + 1 := ⟨k - 1, by omega⟩
  have hb : Bytes (l.drop i) := bytes_drop hl i
  rw [frame_Scan.l0, if_pos (show (0 : Int) ≤ i by omega), if_pos (show (i : Int) ≤ (l.length : Int) by omega), Int.toNat_natCast, get_f k (by omega) _ hb (by rw [List.length_drop]; omega), Option.bind_some, scanN]
  rcases hg : getR (l.drop i) with ⟨p, n, e⟩
  simp only
  by_cases he : e = 0
  ·subst he
   obtain ⟨h1, h2, h3, h4, h5, h6⟩ := getR_ok _ hb p n hg
   rw [List.length_drop] at h4
   obtain ⟨m, rfl⟩ := Int.eq_ofNat_of_zero_le (show 0 ≤ n by omega)
   have hw : wrap64 ((i : Int) + (m : Int)) = ((i + m : Nat) : Int) := by unfold wrap64; omega
   have hacc2 : acc.length < 5864062014805 := by omega
   rw [if_pos rfl, if_pos rfl, if_pos hacc2, hw, ih k (i + m) (acc ++ [p]) (by omega) (by omega) (by omega) (by rw [List.length_append, List.length_singleton]; omega), Int.toNat_natCast, List.drop_drop]
   simp only [List.append_assoc, List.singleton_append, Nat.add_assoc]
  ·rw [if_neg he, if_neg he]
   simp
theorem scan_f (l : List Int) (hl : Bytes l) (hlen : l.length ≤ 100000000) (k : Nat) (hk : l.length + 20 < k) : frame_Scan.f k l = some ((scanN (l.length + 1) l).1, ((scanN (l.length + 1) l).2 : Int)) := by
 unfold frame_Scan.f
 have := scan_l0 l hl hlen (l.length + 1) k 0 [] (by omega) (by omega) (by omega) (by simp; omega)
 rw [List.drop_zero, List.nil_append, Nat.zero_add, Int.natCast_zero] at this
 exact this
theorem scanN_len : ∀ (d : Nat) (l : List Int), Bytes l → (scanN d l).1.length ≤ d ∧ (scanN d l).2 ≤ l.length
 | 0, l, _ => by simp [scanN]
 | d + 1, l, hl => by
  rw [scanN]
  rcases hg : getR l with ⟨p, n, e⟩
  simp only
  by_cases he : e = 0
  ·subst he
   obtain ⟨h1, h2, h3, h4, h5, h6⟩ := getR_ok _ hl p n hg
   have := scanN_len d (l.drop n.toNat) (bytes_drop hl _)
   rw [List.length_drop] at this
   rw [if_pos rfl]
   simp only [List.length_cons]
   omega
  ·rw [if_neg he]
   simp
end Go.Proofs.Ytnabhfegbnfabaa.FrameLib
end
section
namespace Go.Proofs.Ytnabhfegbnfabaa.RunLib
open Go.RowKit Go.Proofs.Ytnabhfegbnfabaa.PRd Go.Proofs.YtnabhfegbnfabaaW.PrintWords Go.Proofs.YtnabhfegbnfabaaW.PrintLast Go.Proofs.YtnabhfegbnfabaaW.PrintMore Go.Proofs.Ytnabhfegbnfabaa.NumLib Go.Proofs.Ytnabhfegbnfabaa.FrameLib
set_option linter.unusedVariables false
set_option linter.unusedSimpArgs false
theorem toList_data (s : ByteArray) : s.toList = s.data.toList := by
 cases s
 exact ByteArray.toList_mk _
theorem bytesOf_len (s : ByteArray) : (bytesOf s).length = s.size := by
 unfold bytesOf
 rw [List.length_map, Array.length_toList]
 rfl
theorem bytesOf_bytes (s : ByteArray) : Bytes (bytesOf s) := fun x hx => by
 unfold bytesOf at hx
 obtain ⟨b, _, rfl⟩ := List.mem_map.1 hx
 have := b.toNat_lt
 omega
theorem str_bytesOf (s : ByteArray) : strOfNums (bytesOf s) = s := by
 cases s with
 | mk d =>
  unfold strOfNums bytesOf
  congr 1
  rw [List.map_map]
  have : ((fun n : Int => UInt8.ofNat n.toNat) ∘ fun b : UInt8 => (b.toNat : Int)) = id := by
   funext b
   simp
  rw [this, List.map_id]
theorem bytesOf_str (l : List Int) (h : Bytes l) : bytesOf (strOfNums l) = l := by
 unfold strOfNums bytesOf
 simp only [List.map_map]
 have : ∀ x ∈ l, ((fun b : UInt8 => (b.toNat : Int)) ∘ fun n : Int => UInt8.ofNat n.toNat) x = x := fun x hx => by
  have := h x hx
  simp only [Function.comp, UInt8.toNat_ofNat']
  omega
 rw [List.map_congr_left this]
 simp
theorem bytesOf_inj {a b : ByteArray} (h : bytesOf a = bytesOf b) : a = b := by
 rw [← str_bytesOf a, h, str_bytesOf]
theorem bytesOf_append (a b : ByteArray) : bytesOf (a ++ b) = bytesOf a ++ bytesOf b := by
 unfold bytesOf
 rw [ByteArray.data_append, Array.toList_append, List.map_append]
theorem bytesOf_tail (s : ByteArray) (n : Nat) : bytesOf (s.extract n s.size) = (bytesOf s).drop n := by
 unfold bytesOf
 rw [ByteArray.data_extract, Array.toList_extract, List.extract_eq_take_drop, ← List.map_drop]
 congr 1
 apply List.take_of_length_le
 rw [List.length_drop, Array.length_toList]
 exact Nat.le_refl _
theorem bytesOf_head (s : ByteArray) (n : Nat) : bytesOf (s.extract 0 n) = (bytesOf s).take n := by
 unfold bytesOf
 rw [ByteArray.data_extract, Array.toList_extract, List.extract_eq_take_drop, ← List.map_take, List.drop_zero, Nat.sub_zero]
theorem bt_eq (s : ByteArray) (i : Nat) (h : i < s.size) : bt s i = rd (bytesOf s) i := by
 have h' : i < s.data.toList.length := by rw [Array.length_toList]; exact h
 unfold bt rd bytesOf
 rw [Int.toNat_natCast, dif_pos h, List.getD_eq_getElem?_getD, List.getElem?_map, List.getElem?_eq_getElem h']
 simp
 rfl
theorem toList_nil (a : ByteArray) : a.toList = ([] : List UInt8) ↔ a.size = 0 := by
 rw [toList_data]
 constructor
 ·intro h
  have := congrArg List.length h
  simpa using this
 ·intro h
  apply List.eq_nil_of_length_eq_zero
  simpa using h
def fineS (x : S36) : Prop := 1 ≤ x.f0.size ∧ x.f0.size ≤ 255 ∧ 1 ≤ x.f1 ∧ x.f1 ≤ 4611686018427387904
instance (x : S36) : Decidable (fineS x) := inferInstanceAs (Decidable (_ ∧ _))
def less (x y : S36) : Bool := Op.bytesLess x.f0.toList y.f0.toList
def rises : List S36 → Bool
 | x :: y :: l => less x y && rises (y :: l)
 | _ => true
def mayS (l : List S36) : Int := if ∀ x ∈ l, fineS x then (if rises l = true then 0 else 9) else 1
theorem rdT_eq (l : List S36) (i : Nat) (h : i < l.length) : rd_T36 l i = l[i] := by
 unfold rd_T36
 rw [Int.toNat_natCast, List.getD_eq_getElem?_getD, List.getElem?_eq_getElem h, Option.getD_some]
theorem fine_f (a : ByteArray) (c : Int) : run_fine.f a c = some (decide (fineS ⟨a, c⟩)) := by
 unfold run_fine.f fineS
 simp only [toList_nil]
 by_cases h1 : a.size = 0
 ·rw [if_pos h1]
  simp [h1]
 ·rw [if_neg h1]
  by_cases h2 : (a.size : Int) ≤ 255
  ·rw [if_pos h2]
   by_cases h3 : c ≥ 1
   ·rw [if_pos h3]
    have h4 : 1 ≤ a.size := by omega
    have h5 : a.size ≤ 255 := by omega
    have h6 : 1 ≤ c := h3
    simp [h4, h5, h6]
   ·rw [if_neg h3]
    have h6 : ¬ 1 ≤ c := h3
    simp [h6]
  ·rw [if_neg h2]
   have h5 : ¬ a.size ≤ 255 := by omega
   simp [h5]
theorem idx_l0 (l : List S36) (hl : l.length < 1000000000) (d : Nat) : ∀ (k i : Nat), d < k → i + d = l.length → ∃ r, api_Entry_40.l0 k l (l.length : Int) i = some r ∧ (r ≥ 0 ↔ ¬ ∀ x ∈ l.drop i, fineS x) := by
 induction d with
 | zero =>
  intro k i hk hi
  obtain ⟨k, rfl⟩ : ∃ m, k = m + 1 := ⟨k - 1, by omega⟩
  refine ⟨-1, by rw [api_Entry_40.l0, if_neg (by omega)], ?_⟩
  rw [List.drop_of_length_le (by omega)]
  simp
 | succ d ih =>
  intro k i hk hi
  obtain ⟨k, rfl⟩ : ∃ m, k = m + 1 := ⟨k - 1, by omega⟩
  have hw : wrap64 ((i : Int) + 1) = ((i + 1 : Nat) : Int) := by unfold wrap64; omega
  have hlt : i < l.length := by omega
  rw [api_Entry_40.l0, if_pos (by omega), if_pos (by omega), if_pos (by omega), rdT_eq l i hlt]
  unfold run_May_1.f
  rw [fine_f, Option.bind_some, Option.bind_some, hw]
  have hd : l.drop i = l[i] :: l.drop (i + 1) := List.drop_eq_getElem_cons hlt
  by_cases hf : fineS l[i]
  ·obtain ⟨r, hr, h2⟩ := ih k (i + 1) (by omega) (by omega)
   rw [decide_eq_true (show fineS ⟨l[i].f0, l[i].f1⟩ from hf), if_neg (by decide)]
   refine ⟨r, hr, h2.trans ?_⟩
   rw [hd, List.forall_mem_cons]
   exact ⟨fun h h' => h h'.2, fun h h' => h ⟨hf, h'⟩⟩
  ·rw [decide_eq_false (show ¬ fineS ⟨l[i].f0, l[i].f1⟩ from hf), if_pos (by decide)]
   exact ⟨i, rfl, fun _ h => hf (h _ (by rw [hd]; exact List.mem_cons_self)), fun _ => by omega⟩
theorem may_l0 (l : List S36) (hl : l.length < 1000000000) (d : Nat) : ∀ (k i : Nat), d < k → 1 ≤ i → i + d = max 1 l.length → run_May.l0 k l i = some (if rises (l.drop (i - 1)) = true then 0 else 9) := by
 induction d with
 | zero =>
  intro k i hk h1 hi
  obtain ⟨k, rfl⟩ : ∃ m, k = m + 1 := ⟨k - 1, by omega⟩
  rw [run_May.l0, if_neg (by omega)]
  have : rises (l.drop (i - 1)) = true := by
   have hlen : (l.drop (i - 1)).length ≤ 1 := by rw [List.length_drop]; omega
   match l.drop (i - 1), hlen with
   | [], _ => rfl
   | [_], _ => rfl
  rw [if_pos this]
 | succ d ih =>
  intro k i hk h1 hi
  obtain ⟨k, rfl⟩ : ∃ m, k = m + 1 := ⟨k - 1, by omega⟩
  have hw : wrap64 ((i : Int) + 1) = ((i + 1 : Nat) : Int) := by unfold wrap64; omega
  have hv : wrap64 ((i : Int) - 1) = ((i - 1 : Nat) : Int) := by unfold wrap64; omega
  have hlt : i < l.length := by omega
  rw [run_May.l0, if_pos (by omega), if_pos (by omega), hv, if_pos (by omega), if_pos (by omega), rdT_eq l i hlt, rdT_eq l (i - 1) (by omega), hw]
  have e : l.drop (i - 1) = l[i - 1] :: l[i] :: l.drop (i + 1) := by
   rw [List.drop_eq_getElem_cons (by omega)]
   congr 1
   rw [show i - 1 + 1 = i by omega, List.drop_eq_getElem_cons hlt]
  have e2 : l.drop (i + 1 - 1) = l[i] :: l.drop (i + 1) := by
   rw [show i + 1 - 1 = i by omega, List.drop_eq_getElem_cons hlt]
  have := ih k (i + 1) (by omega) (by omega) (by omega)
  rw [e2] at this
  rw [e, rises, this]
  unfold less
  by_cases hb : Op.bytesLess l[i - 1].f0.toList l[i].f0.toList = true
  ·rw [if_pos hb, hb, Bool.true_and]
  ·rw [if_neg hb]
   simp [hb]
theorem may_f (k : Nat) (l : List S36) (hl : l.length < 1000000000) (hk : l.length + 2 < k) : run_May.f k l = some (mayS l) := by
 obtain ⟨r, h1, h2⟩ := idx_l0 l hl l.length k 0 (by omega) (by omega)
 unfold run_May.f api_Entry_28.f api_Entry_40.f
 rw [Int.natCast_zero] at h1
 rw [h1, Option.bind_some, Option.bind_some]
 rw [List.drop_zero] at h2
 unfold mayS
 by_cases hf : ∀ x ∈ l, fineS x
 ·rw [if_pos hf, decide_eq_false (fun h => h2.1 h hf), if_neg (by decide)]
  have := may_l0 l hl (max 1 l.length - 1) k 1 (by omega) (by omega) (by omega)
  exact this
 ·rw [if_neg hf, decide_eq_true (h2.2 hf), if_pos rfl]
theorem mayS_zero {l : List S36} (h : mayS l = 0) : (∀ x ∈ l, fineS x) ∧ rises l = true := by
 unfold mayS at h
 by_cases hf : ∀ x ∈ l, fineS x
 ·rw [if_pos hf] at h
  by_cases hr : rises l = true
  ·exact ⟨hf, hr⟩
  ·rw [if_neg hr] at h; simp at h
 ·rw [if_neg hf] at h; simp at h
def sh : List Int → List Int → Nat
 | x :: a, y :: b => if x = y then sh a b + 1 else 0
 | _, _ => 0
theorem sh_le : ∀ a b, sh a b ≤ a.length ∧ sh a b ≤ b.length
 | [], _ => by simp [sh]
 | _ :: _, [] => by simp [sh]
 | x :: a, y :: b => by
  have := sh_le a b
  rw [sh]
  split <;> simp <;> omega
theorem sh_take : ∀ a b : List Int, a.take (sh a b) = b.take (sh a b)
 | [], b => by simp [sh]
 | _ :: _, [] => by simp [sh]
 | x :: a, y :: b => by
  rw [sh]
  split
  ·rename_i h
   rw [List.take_succ_cons, List.take_succ_cons, h, sh_take a b]
  ·simp
theorem rd_bytes (s : ByteArray) (i : Nat) (h : i < s.size) : (bytesOf s).drop i = rd (bytesOf s) i :: (bytesOf s).drop (i + 1) := rd_drop _ _ (by rw [bytesOf_len]; exact h)
theorem shared_l0 (a b : ByteArray) (ha : a.size < 1000000000) (d : Nat) : ∀ (k i : Nat), d < k → i + d = min a.size b.size → run_shared.l0 k a b i = some ((i + sh ((bytesOf a).drop i) ((bytesOf b).drop i) : Nat) : Int) := by
 have hmn : mn (a.size : Int) (b.size : Int) = ((min a.size b.size : Nat) : Int) := by unfold mn; split <;> omega
 induction d with
 | zero =>
  intro k i hk hi
  obtain ⟨k, rfl⟩ : ∃ m, k = m + 1 := ⟨k - 1, by omega⟩
  rw [run_shared.l0, hmn, if_neg (by omega)]
  have : sh ((bytesOf a).drop i) ((bytesOf b).drop i) = 0 := by
   have h1 := (sh_le ((bytesOf a).drop i) ((bytesOf b).drop i))
   rw [List.length_drop, List.length_drop, bytesOf_len, bytesOf_len] at h1
   omega
  rw [this, Nat.add_zero]
 | succ d ih =>
  intro k i hk hi
  obtain ⟨k, rfl⟩ : ∃ m, k = m + 1 := ⟨k - 1, by omega⟩
  have hw : wrap64 ((i : Int) + 1) = ((i + 1 : Nat) : Int) := by unfold wrap64; omega
  rw [run_shared.l0, hmn, if_pos (by omega), if_pos (by omega), if_pos (by omega), if_pos (by omega), bt_eq a i (by omega), bt_eq b i (by omega), hw, rd_bytes a i (by omega), rd_bytes b i (by omega), sh]
  by_cases h : rd (bytesOf a) i = rd (bytesOf b) i
  ·rw [if_pos h, if_pos h, ih k (i + 1) (by omega) (by omega)]
   congr 2
   omega
  ·rw [if_neg h, if_neg h, Nat.add_zero]
theorem shared_f (a b : ByteArray) (ha : a.size < 1000000000) (k : Nat) (hk : a.size < k) : run_shared.f k a b = some ((sh (bytesOf a) (bytesOf b) : Nat) : Int) := by
 unfold run_shared.f
 have := shared_l0 a b ha (min a.size b.size) k 0 (by omega) (by omega)
 rw [List.drop_zero, List.drop_zero, Nat.zero_add] at this
 exact this
end Go.Proofs.Ytnabhfegbnfabaa.RunLib
end
section
namespace Go.Proofs.Ytnabhfegbnfabaa.RunLib
open Go.RowKit Go.Proofs.Ytnabhfegbnfabaa.PRd Go.Proofs.YtnabhfegbnfabaaW.PrintWords Go.Proofs.YtnabhfegbnfabaaW.PrintLast Go.Proofs.YtnabhfegbnfabaaW.PrintMore Go.Proofs.Ytnabhfegbnfabaa.NumLib Go.Proofs.Ytnabhfegbnfabaa.FrameLib
set_option linter.unusedVariables false
set_option linter.unusedSimpArgs false
def wd (x : S36) : List Int := bytesOf x.f0
def entB (was : List Int) (x : S36) : List Int := putn (sh was (wd x) : Nat) ++ putn (((wd x).length - sh was (wd x) : Nat) : Int) ++ (wd x).drop (sh was (wd x)) ++ putn x.f1
def entsB : List Int → List S36 → List Int
 | _, [] => []
 | was, x :: l => entB was x ++ entsB (wd x) l
def blockB (l : List S36) : List Int := putn (l.length : Int) ++ entsB [] l
theorem wd_len {x : S36} (h : fineS x) : 1 ≤ (wd x).length ∧ (wd x).length ≤ 255 := by
 unfold wd
 rw [bytesOf_len]
 exact ⟨h.1, h.2.1⟩
theorem entB_len (was : List Int) {x : S36} (h : fineS x) : (entB was x).length ≤ 285 := by
 have h1 := wd_len h
 have h2 := (sh_le was (wd x)).2
 have h3 := putn_len ((sh was (wd x) : Nat) : Int) (by omega) (by omega)
 have h4 := putn_len (((wd x).length - sh was (wd x) : Nat) : Int) (by omega) (by omega)
 have h5 := putn_len x.f1 (by have := h.2.2.1; omega) (by have := h.2.2.2; omega)
 unfold entB
 rw [List.length_append, List.length_append, List.length_append, List.length_drop]
 omega
theorem entB_bytes (was : List Int) {x : S36} (h : fineS x) : Bytes (entB was x) := by
 have h1 := wd_len h
 have h2 := (sh_le was (wd x)).2
 unfold entB
 exact bytes_append (bytes_append (bytes_append (putn_bytes _ (by omega) (by omega)) (putn_bytes _ (by omega) (by omega))) (bytes_drop (bytesOf_bytes _) _)) (putn_bytes _ (by have := h.2.2.1; omega) (by have := h.2.2.2; omega))
theorem entsB_len : ∀ (l : List S36) (was : List Int), (∀ x ∈ l, fineS x) → (entsB was l).length ≤ 285 * l.length
 | [], _, _ => by simp [entsB]
 | x :: l, was, h => by
  have h1 := entB_len was (h x List.mem_cons_self)
  have h2 := entsB_len l (wd x) (fun y hy => h y (List.mem_cons_of_mem _ hy))
  rw [entsB, List.length_append, List.length_cons]
  omega
theorem entsB_bytes : ∀ (l : List S36) (was : List Int), (∀ x ∈ l, fineS x) → Bytes (entsB was l)
 | [], _, _ => by intro x hx; simp [entsB] at hx
 | x :: l, was, h => by
  rw [entsB]
  exact bytes_append (entB_bytes was (h x List.mem_cons_self)) (entsB_bytes l (wd x) (fun y hy => h y (List.mem_cons_of_mem _ hy)))
theorem blockB_len {l : List S36} (h : ∀ x ∈ l, fineS x) (hl : l.length ≤ 100000) : (blockB l).length ≤ 10 + 285 * l.length := by
 have h1 := entsB_len l [] h
 have h2 := putn_len (l.length : Int) (by omega) (by omega)
 unfold blockB
 rw [List.length_append]
 omega
theorem blockB_bytes {l : List S36} (h : ∀ x ∈ l, fineS x) (hl : l.length ≤ 100000) : Bytes (blockB l) :=
 bytes_append (putn_bytes _ (by omega) (by omega)) (entsB_bytes l [] h)
theorem u64_small (n : Nat) (h : n < 1000000000) : IntKind.u64.wrap (n : Int) = n := by rw [u64_wrap]; omega
theorem tail_size (s : ByteArray) (n : Nat) : (s.extract n s.size).size = s.size - n := by
 rw [← bytesOf_len, bytesOf_tail, List.length_drop, bytesOf_len]
theorem block_l0 (l : List S36) (h : ∀ x ∈ l, fineS x) (hl : l.length ≤ 100000) (d : Nat) : ∀ (k i : Nat) (was : ByteArray) (acc : List Int), d + 300 < k → i + d = l.length → was.size ≤ 255 → acc.length + 300 * d ≤ 100000000 →
  run_block.l0 k acc was l (l.length : Int) i = some (acc ++ entsB (bytesOf was) (l.drop i)) := by
 induction d with
 | zero =>
  intro k i was acc hk hi _ _
  obtain ⟨k, rfl⟩ : ∃ m, k = m + 1 := ⟨k - 1, by omega⟩
  rw [run_block.l0, if_neg (by omega), List.drop_of_length_le (by omega), entsB, List.append_nil]
 | succ d ih =>
  intro k i was acc hk hi hw hacc
  obtain ⟨k, rfl⟩ : ∃ m, k = m + 1 := ⟨k - 1, by omega⟩
  have hwr : wrap64 ((i : Int) + 1) = ((i + 1 : Nat) : Int) := by unfold wrap64; omega
  have hlt : i < l.length := by omega
  have hx := h l[i] (List.getElem_mem hlt)
  rw [run_block.l0, if_pos (by omega), if_pos (by omega), if_pos (by omega), rdT_eq l i hlt, hwr, List.drop_eq_getElem_cons hlt, entsB]
  generalize l[i] = x at hx ⊢
  have hwl := wd_len hx
  have hs := (sh_le (bytesOf was) (wd x)).2
  have hxs : x.f0.size = (wd x).length := (bytesOf_len _).symm
  rw [shared_f was x.f0 (by omega) k (by omega), Option.bind_some, show bytesOf x.f0 = wd x from rfl]
  generalize hn : sh (bytesOf was) (wd x) = n at hs ⊢
  have p1 := putn_len (n : Int) (by omega) (by omega)
  have p2 := putn_len (((wd x).length - n : Nat) : Int) (by omega) (by omega)
  have p3 := putn_len x.f1 (by have := hx.2.2.1; omega) (by have := hx.2.2.2; omega)
  have e2 : IntKind.u64.wrap (wrap64 ((x.f0.size : Int) - (n : Int))) = (((wd x).length - n : Nat) : Int) := by
   rw [hxs, show ((wd x).length : Int) - (n : Int) = (((wd x).length - n : Nat) : Int) by omega, show wrap64 (((wd x).length - n : Nat) : Int) = (((wd x).length - n : Nat) : Int) by unfold wrap64; omega, u64_small _ (by omega)]
  rw [u64_small n (by omega), NumLib.put_f k n acc (by omega) (by omega) (by omega) (by omega), Option.bind_some, e2, NumLib.put_f k _ (acc ++ putn n) (by omega) (by omega) (by omega) (by rw [List.length_append]; omega), Option.bind_some]
  have hlen2 : (acc ++ putn (n : Int) ++ putn (((wd x).length - n : Nat) : Int)).length ≤ acc.length + 20 := by rw [List.length_append, List.length_append]; omega
  rw [if_pos (by omega), if_pos (by omega), Int.toNat_natCast, if_pos (by rw [tail_size]; omega), bytesOf_tail]
  have hlen3 : (acc ++ putn (n : Int) ++ putn (((wd x).length - n : Nat) : Int) ++ (wd x).drop n).length ≤ acc.length + 275 := by rw [List.length_append, List.length_drop]; omega
  rw [show bytesOf x.f0 = wd x from rfl, NumLib.put_f k x.f1 _ (by omega) (by have := hx.2.2.1; omega) (by have := hx.2.2.2; omega) (by omega), Option.bind_some, ih k (i + 1) x.f0 _ (by omega) (by omega) (by omega) (by rw [List.length_append]; omega)]
  unfold entB
  rw [hn]
  simp only [List.append_assoc]
  rfl
theorem block_f (k : Nat) (l : List S36) (h : ∀ x ∈ l, fineS x) (hl : l.length ≤ 100000) (hk : l.length + 300 < k) : run_block.f k l = some (blockB l) := by
 unfold run_block.f
 have p1 := putn_len (l.length : Int) (by omega) (by omega)
 rw [u64_small _ (by omega), NumLib.put_f k _ [] (by omega) (by omega) (by omega) (by simp), Option.bind_some]
 have := block_l0 l h hl l.length k 0 ⟨#[]⟩ ([] ++ putn (l.length : Int)) hk (by omega) (by decide) (by rw [List.nil_append]; omega)
 rw [List.drop_zero] at this
 exact this
def chunks (size : Nat) : Nat → List S36 → List (List S36)
 | 0, _ => []
 | d + 1, l => if l = [] then [] else l.take size :: chunks size d (l.drop size)
theorem chunks_nil (size : Nat) : ∀ d, chunks size d [] = []
 | 0 => rfl
 | d + 1 => by rw [chunks, if_pos rfl]
theorem chunks_join (size : Nat) (hs : 1 ≤ size) : ∀ (d : Nat) (l : List S36), l.length ≤ d → (chunks size d l).flatten = l
 | 0, l, h => by
  have : l = [] := List.eq_nil_of_length_eq_zero (by omega)
  subst this
  rfl
 | d + 1, l, h => by
  rw [chunks]
  by_cases hl : l = []
  ·rw [if_pos hl, hl]; rfl
  ·rw [if_neg hl, List.flatten_cons, chunks_join size hs d _ (by rw [List.length_drop]; omega), List.take_append_drop]
theorem chunks_mem (size : Nat) : ∀ (d : Nat) (l : List S36), ∀ c ∈ chunks size d l, c.length ≤ size ∧ c ≠ [] ∨ size = 0
 | 0, _, c, h => by simp [chunks] at h
 | d + 1, l, c, h => by
  rw [chunks] at h
  by_cases hl : l = []
  ·rw [if_pos hl] at h; simp at h
  ·rw [if_neg hl] at h
   rcases List.mem_cons.1 h with rfl | h
   ·by_cases hs : size = 0
    ·exact .inr hs
    ·refine .inl ⟨by rw [List.length_take]; omega, fun e => ?_⟩
     rcases List.take_eq_nil_iff.1 e with e | e
     ·exact hs e
     ·exact hl e
   ·exact chunks_mem size d _ c h
theorem chunks_fine (size : Nat) {P : S36 → Prop} : ∀ (d : Nat) (l : List S36), (∀ x ∈ l, P x) → ∀ c ∈ chunks size d l, ∀ x ∈ c, P x
 | 0, _, _, c, h => by simp [chunks] at h
 | d + 1, l, hP, c, h => by
  rw [chunks] at h
  by_cases hl : l = []
  ·rw [if_pos hl] at h; simp at h
  ·rw [if_neg hl] at h
   rcases List.mem_cons.1 h with rfl | h
   ·exact fun x hx => hP x (List.mem_of_mem_take hx)
   ·exact chunks_fine size d _ (fun x hx => hP x (List.mem_of_mem_drop hx)) c h
theorem chunks_count (size : Nat) (hs : 1 ≤ size) : ∀ (d : Nat) (l : List S36), l.length ≤ d → (chunks size d l).length = (l.length + size - 1) / size
 | 0, l, h => by
  have : l = [] := List.eq_nil_of_length_eq_zero (by omega)
  subst this
  rw [chunks, List.length_nil, List.length_nil, Nat.div_eq_of_lt (by omega)]
 | d + 1, l, h => by
  rw [chunks]
  by_cases hl : l = []
  ·subst hl
   rw [if_pos rfl, List.length_nil, List.length_nil, Nat.div_eq_of_lt (by omega)]
  ·have hpos : 1 ≤ l.length := by
    cases l with
    | nil => exact absurd rfl hl
    | cons x l => simp
   rw [if_neg hl, List.length_cons, chunks_count size hs d _ (by rw [List.length_drop]; omega), List.length_drop]
   by_cases hle : size ≤ l.length
   ·rw [show l.length + size - 1 = (l.length - size + size - 1) + size by omega, Nat.add_div_right _ (by omega)]
   ·rw [show l.length - size + size - 1 = size - 1 by omega, Nat.div_eq_of_lt (by omega), show l.length + size - 1 = (l.length - 1) + size by omega, Nat.add_div_right _ (by omega), Nat.div_eq_of_lt (by omega)]
def allB (l : List S36) (size : Nat) : Nat → List (List Int)
 | 0 => []
 | c + 1 => if c * size < l.length then allB l size c ++ [blockB ((l.drop (c * size)).take size)] else allB l size c
theorem piece_eq (l : List S36) (size j : Nat) (h : j * size < l.length) : run_Encode.piece l size j = (l.drop (j * size)).take size := by
 unfold run_Encode.piece
 rw [List.drop_take, Nat.add_sub_cancel_left]
 by_cases hs : size ≤ l.length - j * size
 ·rw [Nat.min_eq_left hs]
 ·rw [Nat.min_eq_right (by omega), List.take_of_length_le (by rw [List.length_drop]; exact Nat.le_refl _), List.take_of_length_le (by rw [List.length_drop]; omega)]
theorem all_f (k : Nat) (l : List S36) (hl : ∀ x ∈ l, fineS x) (size : Nat) (hs : size ≤ 255) (hk : 1000 < k) : ∀ c, run_Encode.all k l size c = some (allB l size c)
 | 0 => rfl
 | c + 1 => by
  rw [run_Encode.all, all_f k l hl size hs hk c, Option.bind_some, allB]
  by_cases h : c * size < l.length
  ·have hp : ((l.drop (c * size)).take size).length ≤ size := by rw [List.length_take]; omega
   rw [if_pos h, if_pos h, piece_eq l size c h, block_f k _ (fun x hx => hl x (List.mem_of_mem_drop (List.mem_of_mem_take hx))) (by omega) (by omega), Option.bind_some]
  ·rw [if_neg h, if_neg h]
theorem allB_chunks (l : List S36) (size : Nat) : ∀ (c d : Nat), allB l size c ++ (chunks size d (l.drop (c * size))).map blockB = (chunks size (c + d) l).map blockB
 | 0, d => by simp [allB]
 | c + 1, d => by
  have ih := allB_chunks l size c (d + 1)
  rw [show c + 1 + d = c + (d + 1) by omega, ← ih, allB]
  by_cases h : c * size < l.length
  ·have hne : l.drop (c * size) ≠ [] := fun e => by
    have := congrArg List.length e
    rw [List.length_drop, List.length_nil] at this
    omega
   rw [if_pos h, chunks, if_neg hne, List.map_cons, List.drop_drop, show (c + 1) * size = c * size + size by rw [Nat.succ_mul]]
   simp
  ·have e : l.drop (c * size) = [] := List.drop_of_length_le (by omega)
   have e2 : l.drop ((c + 1) * size) = [] := List.drop_of_length_le (by rw [Nat.succ_mul]; omega)
   rw [if_neg h, e, e2, chunks_nil, chunks_nil]
theorem allB_eq (l : List S36) (size : Nat) : allB l size l.length = (chunks size l.length l).map blockB := by
 have := allB_chunks l size l.length 0
 rw [chunks, List.map_nil, List.append_nil, Nat.add_zero] at this
 exact this
def recs : List (List Int) → List Int
 | [] => []
 | p :: r => recL p ++ recs r
theorem recs_append : ∀ a b : List (List Int), recs (a ++ b) = recs a ++ recs b
 | [], b => rfl
 | p :: r, b => by rw [List.cons_append, recs, recs_append r b, recs, List.append_assoc]
def Okay (R : List (List Int)) : Prop := ∀ p ∈ R, p.length ≤ 1000000 ∧ Bytes p
theorem recL_le {p : List Int} (h : p.length ≤ 1000000) : (recL p).length ≤ 14 + p.length ∧ 5 ≤ (recL p).length := by
 have hl := putn_len p.length (by omega) (by omega)
 rw [rec_len]
 omega
theorem recs_bytes : ∀ R : List (List Int), Okay R → Bytes (recs R)
 | [], _ => by intro x hx; simp [recs] at hx
 | p :: r, h => by
  have h1 := h p List.mem_cons_self
  rw [recs]
  exact bytes_append (rec_bytes p h1.2 (by omega)) (recs_bytes r (fun q hq => h q (List.mem_cons_of_mem _ hq)))
theorem getR_nil : (getR []).2.2 ≠ 0 := by
 have := getR_cut [] (by decide) 0 (by rw [rec_len]; simp)
 rw [List.take_zero] at this
 exact this
theorem scan_tail : ∀ (R : List (List Int)) (d : Nat) (z : List Int), Okay R → R.length < d → (getR z).2.2 ≠ 0 → scanN d (recs R ++ z) = (R, (recs R).length)
 | [], d + 1, z, _, _, hz => by
  rw [scanN, recs, List.nil_append, if_neg hz]
  rfl
 | p :: r, d + 1, z, h, hd, hz => by
  rw [List.length_cons] at hd
  have h1 := h p List.mem_cons_self
  rw [scanN, recs, List.append_assoc, getR_rec p _ (by omega)]
  simp only [if_true, Int.toNat_natCast]
  rw [List.drop_left, scan_tail r d z (fun q hq => h q (List.mem_cons_of_mem _ hq)) (by omega) hz, List.length_append]
theorem recs_len_ge : ∀ R : List (List Int), Okay R → R.length ≤ (recs R).length
 | [], _ => by simp
 | p :: r, h => by
  have h1 := recL_le (h p List.mem_cons_self).1
  have h2 := recs_len_ge r (fun q hq => h q (List.mem_cons_of_mem _ hq))
  rw [recs, List.length_append, List.length_cons]
  omega
theorem scan_recs (R : List (List Int)) (h : Okay R) : scanN ((recs R).length + 1) (recs R) = (R, (recs R).length) := by
 have := scan_tail R ((recs R).length + 1) [] h (by have := recs_len_ge R h; omega) getR_nil
 rwa [List.append_nil] at this
def encR (l : List S36) (size : Nat) : List (List Int) := (putn (size : Int) :: (chunks size l.length l).map blockB) ++ [putn 0 ++ putn (l.length : Int)]
def encB (l : List S36) (size : Nat) : List Int := recs (encR l size)
theorem chunks_recs (size : Nat) : ∀ (d : Nat) (l : List S36), (∀ x ∈ l, fineS x) → size ≤ 255 → 1 ≤ size → (recs ((chunks size d l).map blockB)).length ≤ 309 * l.length
 | 0, l, _, _, _ => by simp [chunks, recs]
 | d + 1, l, h, hs, h1 => by
  rw [chunks]
  by_cases hl : l = []
  ·rw [if_pos hl]; simp [recs]
  ·have hpos : 1 ≤ l.length := by
    cases l with
    | nil => exact absurd rfl hl
    | cons x l => simp
   have ih := chunks_recs size d (l.drop size) (fun x hx => h x (List.mem_of_mem_drop hx)) hs h1
   have hb := blockB_len (l := l.take size) (fun x hx => h x (List.mem_of_mem_take hx)) (by rw [List.length_take]; omega)
   have hr := recL_le (p := blockB (l.take size)) (by rw [List.length_take] at hb; omega)
   rw [if_neg hl, List.map_cons, recs, List.length_append]
   rw [List.length_drop] at ih
   rw [List.length_take] at hb
   omega
theorem encR_ok (l : List S36) (h : ∀ x ∈ l, fineS x) (hl : l.length ≤ 100000) (size : Nat) (hs : size ≤ 255) (h1 : 1 ≤ size) : Okay (encR l size) := by
 intro p hp
 unfold encR at hp
 rcases List.mem_append.1 hp with hp | hp
 ·rcases List.mem_cons.1 hp with rfl | hp
  ·have := putn_len (size : Int) (by omega) (by omega)
   exact ⟨by omega, putn_bytes _ (by omega) (by omega)⟩
  ·obtain ⟨c, hc, rfl⟩ := List.mem_map.1 hp
   have hf := chunks_fine size _ l h c hc
   rcases chunks_mem size _ l c hc with hm | hm
   ·have := blockB_len hf (by omega)
    exact ⟨by omega, blockB_bytes hf (by omega)⟩
   ·omega
 ·rw [List.mem_singleton.1 hp]
  have p1 := putn_len 0 (by omega) (by omega)
  have p2 := putn_len (l.length : Int) (by omega) (by omega)
  exact ⟨by rw [List.length_append]; omega, bytes_append (putn_bytes _ (by omega) (by omega)) (putn_bytes _ (by omega) (by omega))⟩
theorem encB_len (l : List S36) (h : ∀ x ∈ l, fineS x) (hl : l.length ≤ 100000) (size : Nat) (hs : size ≤ 255) (h1 : 1 ≤ size) : (encB l size).length ≤ 309 * l.length + 100 := by
 have hr := chunks_recs size l.length l h hs h1
 have p0 := putn_len (size : Int) (by omega) (by omega)
 have p1 := putn_len 0 (by omega) (by omega)
 have p2 := putn_len (l.length : Int) (by omega) (by omega)
 have r1 := recL_le (p := putn (size : Int)) (by omega)
 have r2 := recL_le (p := putn 0 ++ putn (l.length : Int)) (by rw [List.length_append]; omega)
 rw [List.length_append] at r2
 unfold encB encR
 rw [recs_append, List.length_append, recs, List.length_append, recs, recs, List.append_nil]
 omega
theorem out_f (k : Nat) (hk : 20 < k) : ∀ (R : List (List Int)) (b : List Int), Okay R → b.length + (recs R).length ≤ 100000000 → run_Encode.out k R b = some (b ++ recs R, 0)
 | [], b, _, _ => by rw [run_Encode.out, recs, List.append_nil]
 | p :: r, b, h, hb => by
  have h1 := h p List.mem_cons_self
  rw [recs, List.length_append] at hb
  rw [run_Encode.out, FrameLib.put_f k hk b p h1.2 (by omega) (by omega), Option.bind_some]
  simp only [if_true]
  rw [out_f k hk r _ (fun q hq => h q (List.mem_cons_of_mem _ hq)) (by rw [List.length_append]; omega), recs, List.append_assoc]
def encS (l : List S36) (a : Int) : List Int × Int := if a < 1 ∨ a > 255 then ([], 1) else if mayS l = 0 then (encB l a.toNat, 0) else ([], mayS l)
theorem enc_f (k : Nat) (l : List S36) (a : Int) (hl : l.length ≤ 100000) (hk : l.length + 2000 < k) : run_Encode.f k l a = some (encS l a) := by
 unfold run_Encode.f encS
 by_cases h1 : a < 1
 ·rw [if_pos h1, if_pos (.inl h1)]
 ·rw [if_neg h1]
  by_cases h2 : a > 255
  ·rw [if_pos h2, if_pos (.inr h2)]
  ·rw [if_neg h2, if_neg (show ¬ (a < 1 ∨ a > 255) by omega), may_f k l (by omega) (by omega), Option.bind_some]
   by_cases h3 : mayS l = 0
   ·obtain ⟨hf, _⟩ := mayS_zero h3
    obtain ⟨size, rfl⟩ := Int.eq_ofNat_of_zero_le (show 0 ≤ a by omega)
    have hsz : 1 ≤ size ∧ size ≤ 255 := by omega
    have hok := encR_ok l hf hl size hsz.2 hsz.1
    have hle := encB_len l hf hl size hsz.2 hsz.1
    unfold encB at hle
    have p1 := putn_len 0 (by omega) (by omega)
    rw [if_pos h3, if_pos h3, if_pos (show l.length < 5000000000000 by omega), u64_small size (by omega), NumLib.put_f k _ [] (by omega) (by omega) (by omega) (by simp), Option.bind_some, Int.toNat_natCast, all_f k l hf size hsz.2 (by omega), Option.bind_some, NumLib.put_f k 0 [] (by omega) (by omega) (by omega) (by simp), Option.bind_some, u64_small _ (by omega), NumLib.put_f k _ _ (by omega) (by omega) (by omega) (by rw [List.nil_append]; omega), Option.bind_some, allB_eq, List.nil_append, List.nil_append]
    have := out_f k (by omega) (encR l size) [] hok (by rw [List.length_nil]; omega)
    rw [List.nil_append] at this
    exact this
   ·rw [if_neg h3, if_neg h3]
end Go.Proofs.Ytnabhfegbnfabaa.RunLib
end
section
namespace Go.Proofs.Ytnabhfegbnfabaa.RunLib
open Go.RowKit Go.Proofs.Ytnabhfegbnfabaa.PRd Go.Proofs.YtnabhfegbnfabaaW.PrintWords Go.Proofs.YtnabhfegbnfabaaW.PrintLast Go.Proofs.YtnabhfegbnfabaaW.PrintMore Go.Proofs.Ytnabhfegbnfabaa.NumLib Go.Proofs.Ytnabhfegbnfabaa.FrameLib
set_option linter.unusedVariables false
set_option linter.unusedSimpArgs false
theorem entry_f (was : ByteArray) (x : S36) (hx : fineS x) (rest : List Int) (hr : Bytes rest) (hrl : rest.length ≤ 100000000) (hw : was.size ≤ 255) : run_entry.f was (entB (bytesOf was) x ++ rest) = some (x.f0, x.f1, rest, true) := by
 have hwl := wd_len hx
 have hs := sh_le (bytesOf was) (wd x)
 have ht := sh_take (bytesOf was) (wd x)
 rw [bytesOf_len] at hs
 unfold entB
 generalize sh (bytesOf was) (wd x) = n at hs ht ⊢
 have hc := hx.2.2
 have e : putn (n : Int) ++ putn (((wd x).length - n : Nat) : Int) ++ (wd x).drop n ++ putn x.f1 ++ rest = putn (n : Int) ++ (putn (((wd x).length - n : Nat) : Int) ++ ((wd x).drop n ++ (putn x.f1 ++ rest))) := by simp only [List.append_assoc]
 rw [e]
 have b1 : Bytes (putn x.f1 ++ rest) := bytes_append (putn_bytes _ (by omega) (by omega)) hr
 have b2 : Bytes ((wd x).drop n ++ (putn x.f1 ++ rest)) := bytes_append (bytes_drop (bytesOf_bytes _) _) b1
 have b3 : Bytes (putn (((wd x).length - n : Nat) : Int) ++ ((wd x).drop n ++ (putn x.f1 ++ rest))) := bytes_append (putn_bytes _ (by omega) (by omega)) b2
 have b4 : Bytes (putn (n : Int) ++ (putn (((wd x).length - n : Nat) : Int) ++ ((wd x).drop n ++ (putn x.f1 ++ rest)))) := bytes_append (putn_bytes _ (by omega) (by omega)) b3
 unfold run_entry.f
 rw [NumLib.get_f _ b4, get_put n (by omega) (by omega), Option.bind_some]
 simp only [Int.toNat_natCast, List.drop_left]
 rw [NumLib.get_f _ b3, get_put _ (by omega) (by omega), Option.bind_some]
 simp only [Int.toNat_natCast, List.drop_left]
 have hd : ((wd x).drop n).length = (wd x).length - n := List.length_drop
 have hlen : ((wd x).drop n ++ (putn x.f1 ++ rest)).length = (wd x).length - n + (putn x.f1 ++ rest).length := by rw [List.length_append, hd]
 have htk : ((wd x).drop n ++ (putn x.f1 ++ rest)).take ((wd x).length - n) = (wd x).drop n := by rw [← hd, List.take_left]
 have hdp : ((wd x).drop n ++ (putn x.f1 ++ rest)).drop ((wd x).length - n) = putn x.f1 ++ rest := by rw [← hd, List.drop_left]
 rw [if_neg (by simp), if_neg (by rw [u64_small _ (by omega)]; omega), if_neg (by
  have hp := putn_len x.f1 (by omega) (by omega)
  rw [hlen, List.length_append, u64_small _ (by omega)]
  omega), htk, hdp]
 rw [if_pos (by
  refine ⟨by omega, by omega, by omega, by rw [hlen]; omega, ?_⟩
  have h1 : (was.extract 0 n).size ≤ 255 := by rw [← bytesOf_len, bytesOf_head, List.length_take, bytesOf_len]; omega
  have h2 : (strOfNums ((wd x).drop n)).size ≤ 255 := by
   rw [← bytesOf_len, bytesOf_str _ (show Bytes ((wd x).drop n) from bytes_drop (bytesOf_bytes _) _), hd]
   omega
  omega), NumLib.get_f _ b1, get_put x.f1 (by omega) (by omega), Option.bind_some]
 simp only [Int.toNat_natCast, List.drop_left]
 have hword : was.extract 0 n ++ strOfNums ((wd x).drop n) = x.f0 := by
  apply bytesOf_inj
  rw [bytesOf_append, bytesOf_head, bytesOf_str _ (show Bytes ((wd x).drop n) from bytes_drop (bytesOf_bytes _) _), ht]
  exact List.take_append_drop n (wd x)
 rw [hword]
 simp
theorem unblock_go : ∀ (l : List S36) (was : ByteArray) (rest : List Int) (acc : List S36), (∀ x ∈ l, fineS x) → Bytes rest → was.size ≤ 255 → acc.length + l.length < 5864062014805 → l.length ≤ 100000 → rest.length ≤ 1000000 →
  run_unblock.go l.length was (entsB (bytesOf was) l ++ rest) acc = some (acc ++ l, rest.length == 0)
 | [], was, rest, acc, _, _, _, _, _, _ => by rw [List.length_nil, run_unblock.go, entsB, List.nil_append, List.append_nil]
 | x :: l, was, rest, acc, h, hr, hw, hacc, hl1, hrl => by
  have hx := h x List.mem_cons_self
  have hl : ∀ y ∈ l, fineS y := fun y hy => h y (List.mem_cons_of_mem _ hy)
  rw [List.length_cons] at hacc hl1
  have hel := entsB_len l (wd x) hl
  rw [List.length_cons, run_unblock.go, entsB, List.append_assoc, entry_f was x hx _ (bytes_append (entsB_bytes l (wd x) hl) hr) (by rw [List.length_append]; omega) hw, Option.bind_some]
  simp only
  rw [if_neg (by simp), if_pos (by omega)]
  have := unblock_go l x.f0 rest (acc ++ [x]) hl hr hx.2.1 (by rw [List.length_append, List.length_singleton]; omega) (by omega) hrl
  rw [show wd x = bytesOf x.f0 from rfl]
  rw [show ({ f0 := x.f0, f1 := x.f1 } : S36) = x from rfl, this, List.append_assoc, List.singleton_append]
theorem unblock_f (l : List S36) (h : ∀ x ∈ l, fineS x) (hl : l.length ≤ 255) : run_unblock.f (blockB l) = some (l, true) := by
 have hb := blockB_bytes h (by omega)
 unfold run_unblock.f
 rw [NumLib.get_f _ hb]
 unfold blockB
 rw [get_put _ (by omega) (by omega), Option.bind_some]
 simp only [Int.toNat_natCast, List.drop_left]
 rw [if_neg (by simp), if_neg (by omega), if_pos (by omega)]
 have := unblock_go l ⟨#[]⟩ [] [] h (by intro x hx; simp at hx) (by decide) (by simp; omega) (by omega) (by simp)
 rw [List.append_nil, List.nil_append] at this
 exact this
theorem get_bounds (l : List Int) (hb : Bytes l) (x i e : Int) (h : get l = (x, i, e)) : 0 ≤ x ∧ x < 18446744073709551616 ∧ 0 ≤ i ∧ i ≤ l.length ∧ (e = 0 → 1 ≤ i) := by
 by_cases he : e = 0
 ·subst he
  have := get_ok l hb x i h
  omega
 ·have := get_bad l x i e h he
  omega
theorem entry_total (was : ByteArray) (l : List Int) (hb : Bytes l) (h : was.size + l.length ≤ 100000000) : ∃ r, run_entry.f was l = some r ∧ (r.2.2.2 = true → r.1.size + r.2.2.1.length ≤ was.size + l.length ∧ r.2.2.1.length + 3 ≤ l.length ∧ Bytes r.2.2.1) := by
 unfold run_entry.f
 rw [NumLib.get_f _ hb, Option.bind_some]
 rcases h1 : get l with ⟨n1, n2, n3⟩
 simp only
 have g1 := get_bounds l hb n1 n2 n3 h1
 obtain ⟨i1, rfl⟩ := Int.eq_ofNat_of_zero_le g1.2.2.1
 simp only [Int.toNat_natCast]
 have hb1 := bytes_drop hb i1
 rw [NumLib.get_f _ hb1, Option.bind_some]
 rcases h2 : get (l.drop i1) with ⟨m1, m2, m3⟩
 simp only
 have g2 := get_bounds _ hb1 m1 m2 m3 h2
 obtain ⟨i2, rfl⟩ := Int.eq_ofNat_of_zero_le g2.2.2.1
 simp only [Int.toNat_natCast]
 have hb2 := bytes_drop hb1 i2
 have hl1 : (l.drop i1).length = l.length - i1 := List.length_drop
 have hl2 : ((l.drop i1).drop i2).length = l.length - i1 - i2 := by rw [List.length_drop, hl1]
 by_cases c1 : (n3 == 0 && m3 == 0) = false
 ·rw [if_pos c1]; exact ⟨_, rfl, fun h => by simp at h⟩
 rw [if_neg c1]
 by_cases c2 : n1 > IntKind.u64.wrap (was.size : Int)
 ·rw [if_pos c2]; exact ⟨_, rfl, fun h => by simp at h⟩
 rw [if_neg c2]
 by_cases c3 : m1 > IntKind.u64.wrap (((l.drop i1).drop i2).length : Int)
 ·rw [if_pos c3]; exact ⟨_, rfl, fun h => by simp at h⟩
 rw [if_neg c3]
 rw [u64_small _ (by omega)] at c2 c3
 obtain ⟨a1, rfl⟩ := Int.eq_ofNat_of_zero_le g1.1
 obtain ⟨a2, rfl⟩ := Int.eq_ofNat_of_zero_le g2.1
 have hn3 : n3 = 0 := by
  cases hq : (n3 == 0) with
  | true => simpa using hq
  | false => rw [hq] at c1; simp at c1
 have hm3 : m3 = 0 := by
  cases hq : (m3 == 0) with
  | true => simpa using hq
  | false => rw [hq] at c1; simp at c1
 have hi1 := g1.2.2.2.2 hn3
 have hi2 := g2.2.2.2.2 hm3
 simp only [Int.toNat_natCast]
 have hh : (was.extract 0 a1).size = a1 := by
  rw [← bytesOf_len, bytesOf_head, List.length_take, bytesOf_len]
  omega
 have ht : (strOfNums (((l.drop i1).drop i2).take a2)).size = a2 := by
  rw [← bytesOf_len, bytesOf_str _ (bytes_take hb2 _), List.length_take]
  omega
 have hb3 := bytes_drop hb2 a2
 rw [if_pos (by refine ⟨by omega, by omega, by omega, by omega, ?_⟩; rw [hh, ht]; omega), NumLib.get_f _ hb3, Option.bind_some]
 rcases h3 : get (((l.drop i1).drop i2).drop a2) with ⟨p1, p2, p3⟩
 simp only
 have g3 := get_bounds _ hb3 p1 p2 p3 h3
 obtain ⟨i3, rfl⟩ := Int.eq_ofNat_of_zero_le g3.2.2.1
 simp only [Int.toNat_natCast]
 refine ⟨_, rfl, fun hp => ?_⟩
 simp only at hp ⊢
 have hp3 : p3 = 0 := by simpa using hp
 have hi3 := g3.2.2.2.2 hp3
 have hsz : (was.extract 0 a1 ++ strOfNums (((l.drop i1).drop i2).take a2)).size = a1 + a2 := by
  rw [ByteArray.size_append, hh, ht]
 have hl3 : (((l.drop i1).drop i2).drop a2).length = l.length - i1 - i2 - a2 := by rw [List.length_drop, hl2]
 have hl4 : ((((l.drop i1).drop i2).drop a2).drop i3).length = l.length - i1 - i2 - a2 - i3 := by rw [List.length_drop, hl3]
 rw [hsz, hl4]
 refine ⟨by omega, by omega, bytes_drop hb3 _⟩
theorem unblock_go_total : ∀ (n : Nat) (was : ByteArray) (left : List Int) (acc : List S36), Bytes left → was.size + left.length ≤ 100000000 → acc.length + n < 5864062014805 → ∃ r, run_unblock.go n was left acc = some r ∧ (r.2 = true → 3 * r.1.length ≤ 3 * acc.length + left.length)
 | 0, was, left, acc, _, _, _ => ⟨_, rfl, fun _ => by simp⟩
 | n + 1, was, left, acc, hb, hw, hacc => by
  obtain ⟨⟨e1, e2, e3, e4⟩, he, h2⟩ := entry_total was left hb hw
  rw [run_unblock.go, he, Option.bind_some]
  simp only at h2 ⊢
  cases e4 with
  | false =>
   rw [if_pos rfl]
   exact ⟨_, rfl, fun h => by simp at h⟩
  | true =>
   obtain ⟨h3, h4, h5⟩ := h2 rfl
   rw [if_neg (by simp), if_pos (by omega)]
   obtain ⟨r, hr, h6⟩ := unblock_go_total n e1 e3 (acc ++ [⟨e1, e2⟩]) h5 (by omega) (by rw [List.length_append, List.length_singleton]; omega)
   refine ⟨r, hr, fun h => ?_⟩
   have := h6 h
   rw [List.length_append, List.length_singleton] at this
   omega
theorem unblock_total (l : List Int) (hb : Bytes l) (h : l.length ≤ 100000000) : ∃ r, run_unblock.f l = some r ∧ (r.2 = true → 3 * r.1.length ≤ l.length) := by
 unfold run_unblock.f
 rw [NumLib.get_f _ hb, Option.bind_some]
 rcases h1 : get l with ⟨n1, n2, n3⟩
 simp only
 have g1 := get_bounds l hb n1 n2 n3 h1
 by_cases c1 : n3 ≠ 0
 ·rw [if_pos c1]; exact ⟨_, rfl, fun h => by simp at h⟩
 rw [if_neg c1]
 by_cases c2 : n1 > 255
 ·rw [if_pos c2]; exact ⟨_, rfl, fun h => by simp at h⟩
 rw [if_neg c2, if_pos (by omega)]
 have hle : (l.drop n2.toNat).length ≤ l.length := by rw [List.length_drop]; omega
 obtain ⟨r, hr, h2⟩ := unblock_go_total n1.toNat ⟨#[]⟩ (l.drop n2.toNat) [] (bytes_drop hb _) (by
  have : (⟨#[]⟩ : ByteArray).size = 0 := rfl
  omega) (by simp; omega)
 refine ⟨r, hr, fun h => ?_⟩
 have := h2 h
 rw [List.length_nil] at this
 omega
theorem rdL_eq (y : List (List Int)) (i : Nat) (h : i < y.length) : rd_L4 y i = y[i] := by
 unfold rd_L4
 rw [Int.toNat_natCast, List.getD_eq_getElem?_getD, List.getElem?_eq_getElem h, Option.getD_some]
def sumLen (y : List (List Int)) : Nat := (y.map List.length).sum
theorem sumLen_drop (y : List (List Int)) (i : Nat) (h : i < y.length) : sumLen (y.drop i) = y[i].length + sumLen (y.drop (i + 1)) := by
 unfold sumLen
 rw [List.drop_eq_getElem_cons h, List.map_cons, List.sum_cons]
theorem sumLen_sub {a b : List (List Int)} (h : a.Sublist b) : sumLen a ≤ sumLen b := by
 induction h with
 | slnil => exact Nat.le_refl _
 | cons x _ ih =>
  unfold sumLen at ih ⊢
  rw [List.map_cons, List.sum_cons]
  omega
 | cons_cons x _ ih =>
  unfold sumLen at ih ⊢
  rw [List.map_cons, List.map_cons, List.sum_cons, List.sum_cons]
  omega
theorem scanN_rows : ∀ (d : Nat) (l : List Int), Bytes l → (∀ p ∈ (scanN d l).1, Bytes p) ∧ sumLen (scanN d l).1 ≤ l.length
 | 0, l, _ => by simp [scanN, sumLen]
 | d + 1, l, hl => by
  rw [scanN]
  rcases hg : getR l with ⟨p, n, e⟩
  simp only
  by_cases he : e = 0
  ·subst he
   obtain ⟨h1, h2, h3, h4, h5, h6⟩ := getR_ok _ hl p n hg
   obtain ⟨i1, i2⟩ := scanN_rows d (l.drop n.toNat) (bytes_drop hl _)
   have h7 := rec_len p
   rw [List.length_drop] at i2
   rw [if_pos rfl]
   refine ⟨fun q hq => ?_, ?_⟩
   ·rcases List.mem_cons.1 hq with rfl | hq
    ·exact h2
    ·exact i1 q hq
   ·unfold sumLen at i2 ⊢
    rw [List.map_cons, List.sum_cons]
    omega
  ·rw [if_neg he]
   simp [sumLen]
theorem equal_f (a b : List Int) (ha : Bytes a) (hb : Bytes b) : bytes_Equal.f a b = some (decide (a = b)) := by
 unfold bytes_Equal.f
 congr 1
 by_cases h : a = b
 ·rw [decide_eq_true h, h, beq_self_eq_true]
 ·rw [decide_eq_false h]
  exact beq_eq_false_iff_ne.2 (fun e => h ((str_inj ha hb).1 e))
theorem encS_bytes (l : List S36) (a : Int) (hl : l.length ≤ 100000) : Bytes (encS l a).1 := by
 unfold encS
 by_cases h1 : a < 1 ∨ a > 255
 ·rw [if_pos h1]; intro x hx; simp at hx
 ·rw [if_neg h1]
  by_cases h2 : mayS l = 0
  ·rw [if_pos h2]
   exact recs_bytes _ (encR_ok l (mayS_zero h2).1 hl _ (by omega) (by omega))
  ·rw [if_neg h2]; intro x hx; simp at hx
def endS (x : List S36) (a : Int) (b : List Int) : List S36 × Int := if (encS x a).2 = 0 then (if (encS x a).1 = b then (x, 0) else ([], 2)) else ([], 2)
theorem dec_end (k : Nat) (b : List Int) (hb : Bytes b) (n : Int) (acc : List S36) (y : List (List Int)) (hk : acc.length + 2000 < k) (hacc : acc.length ≤ 100000) (i : Int) (hi : ¬ i < (y.length : Int)) :
  run_Decode.l0 (k + 1) b n acc y (y.length : Int) i = some (endS acc (wrap64 n) b) := by
 rw [run_Decode.l0, if_neg hi, enc_f k acc _ hacc hk, Option.bind_some]
 unfold endS
 by_cases h : (encS acc (wrap64 n)).2 = 0
 ·rw [if_pos h, if_pos h, equal_f _ _ (encS_bytes acc _ hacc) hb, Option.bind_some]
  by_cases h2 : (encS acc (wrap64 n)).1 = b
  ·rw [decide_eq_true h2, if_pos rfl, if_pos h2]
  ·rw [decide_eq_false h2, if_neg (by simp), if_neg h2]
 ·rw [if_neg h, if_neg h]
theorem dec_l0_total (b : List Int) (hb : Bytes b) (n : Int) (y : List (List Int)) (hy : ∀ p ∈ y, Bytes p) (hyl : y.length ≤ 1000000) (d : Nat) : ∀ (k i : Nat) (acc : List S36), d + 200000 < k → i + d = y.length → 3 * acc.length + sumLen (y.drop i) ≤ b.length → b.length ≤ 100000 →
  ∃ r, run_Decode.l0 k b n acc y (y.length : Int) i = some r ∧ (r = ([], 2) ∨ ∃ x, x.length ≤ b.length ∧ r = endS x (wrap64 n) b) := by
 induction d with
 | zero =>
  intro k i acc hk hi hs hbl
  obtain ⟨k, rfl⟩ : ∃ m, k = m + 1 := ⟨k - 1, by omega⟩
  exact ⟨_, dec_end k b hb n acc y (by omega) (by omega) i (by omega), .inr ⟨acc, by omega, rfl⟩⟩
 | succ d ih =>
  intro k i acc hk hi hs hbl
  obtain ⟨k, rfl⟩ : ∃ m, k = m + 1 := ⟨k - 1, by omega⟩
  have hw : wrap64 ((i : Int) + 1) = ((i + 1 : Nat) : Int) := by unfold wrap64; omega
  have hlt : i < y.length := by omega
  rw [sumLen_drop y i hlt] at hs
  obtain ⟨⟨u1, u2⟩, hu, h2⟩ := unblock_total y[i] (hy _ (List.getElem_mem hlt)) (by omega)
  rw [run_Decode.l0, if_pos (by omega), if_pos (by omega), if_pos (by omega), rdL_eq y i hlt, hu, Option.bind_some]
  simp only at h2 ⊢
  cases u2 with
  | false =>
   rw [if_neg (by simp)]
   exact ⟨_, rfl, .inl rfl⟩
  | true =>
   have h3 := h2 rfl
   rw [if_pos rfl, if_pos (by omega), hw]
   exact ih k (i + 1) (acc ++ u1) (by omega) (by omega) (by rw [List.length_append]; omega) hbl
theorem dec_l0_chunks (b : List Int) (hb : Bytes b) (n : Int) (y : List (List Int)) (hyl : y.length ≤ 1000000) : ∀ (cs : List (List S36)) (k i : Nat) (acc : List S36), (∀ c ∈ cs, (∀ x ∈ c, fineS x) ∧ c.length ≤ 255) → cs.length + 200000 < k → i ≤ y.length → y.drop i = cs.map blockB → acc.length + cs.flatten.length ≤ 100000 →
  run_Decode.l0 k b n acc y (y.length : Int) i = some (endS (acc ++ cs.flatten) (wrap64 n) b)
 | [], k, i, acc, _, hk, hi, hy, ha => by
  obtain ⟨k, rfl⟩ : ∃ m, k = m + 1 := ⟨k - 1, by omega⟩
  have hlen := congrArg List.length hy
  rw [List.length_drop, List.map_nil, List.length_nil] at hlen
  rw [List.flatten_nil] at ha ⊢
  rw [List.append_nil]
  exact dec_end k b hb n acc y (by omega) (by omega) i (by omega)
 | c :: cs, k, i, acc, hc, hk, hi, hy, ha => by
  obtain ⟨k, rfl⟩ : ∃ m, k = m + 1 := ⟨k - 1, by omega⟩
  have hlen := congrArg List.length hy
  rw [List.length_drop, List.map_cons, List.length_cons] at hlen
  have hlt : i < y.length := by omega
  have hw : wrap64 ((i : Int) + 1) = ((i + 1 : Nat) : Int) := by unfold wrap64; omega
  rw [List.drop_eq_getElem_cons hlt, List.map_cons] at hy
  injection hy with hy1 hy2
  rw [List.length_cons] at hk
  rw [List.flatten_cons, List.length_append] at ha
  have hc0 := hc c List.mem_cons_self
  rw [run_Decode.l0, if_pos (by omega), if_pos (by omega), if_pos (by omega), rdL_eq y i hlt, hy1, unblock_f c hc0.1 hc0.2, Option.bind_some]
  simp only
  rw [if_pos trivial, if_pos (by omega), hw, dec_l0_chunks b hb n y hyl cs k (i + 1) (acc ++ c) (fun c' h' => hc c' (List.mem_cons_of_mem _ h')) (by omega) (by omega) hy2 (by rw [List.length_append]; omega), List.flatten_cons, List.append_assoc]
theorem endS_ok {x : List S36} {a : Int} {b : List Int} (h : (endS x a b).2 = 0) : endS x a b = (x, 0) ∧ 1 ≤ a ∧ a ≤ 255 ∧ mayS x = 0 ∧ encB x a.toNat = b := by
 unfold endS at h ⊢
 by_cases h1 : (encS x a).2 = 0
 ·rw [if_pos h1] at h ⊢
  by_cases h2 : (encS x a).1 = b
  ·rw [if_pos h2]
   unfold encS at h1 h2
   by_cases h3 : a < 1 ∨ a > 255
   ·rw [if_pos h3] at h1; simp at h1
   ·rw [if_neg h3] at h1 h2
    by_cases h4 : mayS x = 0
    ·rw [if_pos h4] at h2
     exact ⟨rfl, by omega, by omega, h4, h2⟩
    ·rw [if_neg h4] at h1
     exact absurd h1 h4
  ·rw [if_neg h2] at h; simp at h
 ·rw [if_neg h1] at h; simp at h
theorem endS_cases (x : List S36) (a : Int) (b : List Int) : endS x a b = ([], 2) ∨ (endS x a b).2 = 0 := by
 unfold endS
 split
 ·split
  ·exact .inr rfl
  ·exact .inl rfl
 ·exact .inl rfl
def Read (b : List Int) (r : List S36 × Int) : Prop := r = ([], 2) ∨ ∃ (x : List S36) (size : Nat), r = (x, 0) ∧ 1 ≤ size ∧ size ≤ 255 ∧ mayS x = 0 ∧ x.length ≤ b.length ∧ encB x size = b
theorem read_end {b : List Int} {x : List S36} {a : Int} (hx : x.length ≤ b.length) : Read b (endS x a b) := by
 rcases endS_cases x a b with h | h
 ·exact .inl h
 ·obtain ⟨h1, h2, h3, h4, h5⟩ := endS_ok h
  exact .inr ⟨x, a.toNat, h1, by omega, by omega, h4, hx, h5⟩
end Go.Proofs.Ytnabhfegbnfabaa.RunLib
end
section
namespace Go.Proofs.Ytnabhfegbnfabaa.RunLib
open Go.RowKit Go.Proofs.Ytnabhfegbnfabaa.PRd Go.Proofs.YtnabhfegbnfabaaW.PrintWords Go.Proofs.YtnabhfegbnfabaaW.PrintLast Go.Proofs.YtnabhfegbnfabaaW.PrintMore Go.Proofs.Ytnabhfegbnfabaa.NumLib Go.Proofs.Ytnabhfegbnfabaa.FrameLib
set_option linter.unusedVariables false
set_option linter.unusedSimpArgs false
theorem dec_total (b : List Int) (hb : Bytes b) (hlen : b.length ≤ 90000) (k : Nat) (hk : b.length + 400000 < k) : ∃ r, run_Decode.f k b = some r ∧ Read b r := by
 have hsl := scanN_len (b.length + 1) b hb
 have hsr := scanN_rows (b.length + 1) b hb
 unfold run_Decode.f
 rw [scan_f b hb (by omega) k (by omega), Option.bind_some]
 simp only
 generalize (scanN (b.length + 1) b).1 = R at hsl hsr ⊢
 by_cases h2 : (R.length : Int) < 2
 ·rw [if_pos h2]; exact ⟨_, rfl, .inl rfl⟩
 rw [if_neg h2, if_pos (by omega)]
 have h0 : 0 < R.length := by omega
 have hR0 : Bytes R[0] := hsr.1 _ (List.getElem_mem h0)
 have e0 : rd_L4 R 0 = R[0] := rdL_eq R 0 h0
 rw [e0, NumLib.get_f _ hR0, Option.bind_some]
 rcases hg : get R[0] with ⟨n1, n2, n3⟩
 simp only
 have j0 : ∀ q, ∃ r, run_Decode.j0 k b R n1 q = some r ∧ Read b r := by
  intro q
  obtain ⟨k, rfl⟩ : ∃ m, k = m + 1 := ⟨k - 1, by omega⟩
  rw [run_Decode.j0]
  cases q with
  | true => rw [if_pos rfl]; exact ⟨_, rfl, .inl rfl⟩
  | false =>
   have hw : wrap64 ((R.length : Int) - 1) = ((R.length - 1 : Nat) : Int) := by unfold wrap64; omega
   rw [if_neg (by simp), hw, if_pos (by omega), if_pos (by omega), Option.bind_some, Int.toNat_natCast]
   have hsub : ∀ p ∈ (R.take (R.length - 1)).drop 1, p ∈ R := fun p hp => List.mem_of_mem_take (List.mem_of_mem_drop hp)
   have hsum : sumLen (((R.take (R.length - 1)).drop 1).drop 0) ≤ sumLen R := by
    rw [List.drop_zero]
    exact sumLen_sub ((List.drop_sublist _ _).trans (List.take_sublist _ _))
   have hyl : ((R.take (R.length - 1)).drop 1).length ≤ 1000000 := by rw [List.length_drop, List.length_take]; omega
   have hyb : ((R.take (R.length - 1)).drop 1).length ≤ b.length := by rw [List.length_drop, List.length_take]; omega
   obtain ⟨r, hr, h3⟩ := dec_l0_total b hb n1 _ (fun p hp => hsr.1 p (hsub p hp)) hyl ((R.take (R.length - 1)).drop 1).length k 0 [] (by omega) (by omega) (by rw [List.length_nil]; omega) (by omega)
   refine ⟨r, hr, ?_⟩
   rcases h3 with h3 | ⟨x, hx, h3⟩
   ·exact .inl h3
   ·rw [h3]; exact read_end hx
 by_cases h3 : n3 = 0
 ·rw [if_pos h3]; exact j0 _
 ·rw [if_neg h3]; exact j0 _
end Go.Proofs.Ytnabhfegbnfabaa.RunLib
end
section
namespace Go.Proofs.Ytnabhfegbnfabaa.RunLib
open Go.RowKit Go.Proofs.Ytnabhfegbnfabaa.PRd Go.Proofs.YtnabhfegbnfabaaW.PrintWords Go.Proofs.YtnabhfegbnfabaaW.PrintLast Go.Proofs.YtnabhfegbnfabaaW.PrintMore Go.Proofs.Ytnabhfegbnfabaa.NumLib Go.Proofs.Ytnabhfegbnfabaa.FrameLib
set_option linter.unusedVariables false
set_option linter.unusedSimpArgs false
theorem mid_rows {α : Type} (a : α) (bs : List α) (z : α) : (((a :: bs) ++ [z]).take (bs.length + 1)).drop 1 = bs := by
 rw [show bs.length + 1 = (a :: bs).length from rfl, List.take_left, List.drop_succ_cons, List.drop_zero]
theorem dec_fin (l : List S36) (hm : mayS l = 0) (hl : l.length ≤ 90000) (size : Nat) (h1 : 1 ≤ size) (hs : size ≤ 255) (hb : Bytes (encB l size)) (hf : ∀ x ∈ l, fineS x) (k : Nat) (hk : 350000 < k) (hw2 : wrap64 (size : Int) = size) (hcl : (chunks size l.length l).length ≤ 100000) (y : List (List Int)) (hy : y = (chunks size l.length l).map blockB) :
  run_Decode.l0 k (encB l size) (size : Int) [] y (y.length : Int) 0 = some (l, 0) := by
 have hcs : ∀ c ∈ chunks size l.length l, (∀ x ∈ c, fineS x) ∧ c.length ≤ 255 := by
  intro c hc
  refine ⟨chunks_fine size _ l hf c hc, ?_⟩
  rcases chunks_mem size _ l c hc with h | h
  ·exact Nat.le_trans h.1 hs
  ·omega
 have hj := chunks_join size h1 l.length l (Nat.le_refl _)
 have hyl : y.length ≤ 1000000 := by rw [hy, List.length_map]; omega
 have := dec_l0_chunks (encB l size) hb (size : Int) y hyl (chunks size l.length l) k 0 [] hcs (by omega) (Nat.zero_le _) (by rw [List.drop_zero]; exact hy) (by rw [hj, List.length_nil]; omega)
 rw [hj, List.nil_append, hw2] at this
 have e : endS l (size : Int) (encB l size) = (l, 0) := by
  have hn : ¬ ((size : Int) < 1 ∨ (size : Int) > 255) := by omega
  have hE : encS l (size : Int) = (encB l size, 0) := by
   unfold encS
   rw [if_neg hn, if_pos hm, Int.toNat_natCast]
  unfold endS
  rw [hE, if_pos rfl, if_pos rfl]
 rw [e] at this
 exact this
theorem dec_enc (l : List S36) (hm : mayS l = 0) (hl : l.length ≤ 90000) (size : Nat) (h1 : 1 ≤ size) (hs : size ≤ 255) (k : Nat) (hk : (encB l size).length + 400000 < k) : run_Decode.f k (encB l size) = some (l, 0) := by
 have hn255 : ¬ (size : Int) > 255 := by omega
 have hde : decide ((size : Int) > 255) = false := decide_eq_false hn255
 have hf := (mayS_zero hm).1
 have hok := encR_ok l hf (by omega) size hs h1
 have hle := encB_len l hf (by omega) size hs h1
 have hb : Bytes (encB l size) := recs_bytes _ hok
 have hsc := scan_recs _ hok
 have hcn := chunks_count size h1 l.length l (Nat.le_refl _)
 unfold run_Decode.f
 rw [scan_f _ hb (by omega) k (by omega), Option.bind_some, show scanN ((encB l size).length + 1) (encB l size) = (encR l size, (encB l size).length) from hsc]
 simp only
 have hRl : (encR l size).length = (chunks size l.length l).length + 2 := by
  unfold encR
  rw [List.length_append, List.length_cons, List.length_map, List.length_singleton]
 have hcl : (chunks size l.length l).length ≤ 100000 := by
  rw [hcn]
  exact Nat.le_trans (Nat.div_le_self _ _) (by omega)
 have e0 : rd_L4 (encR l size) 0 = putn (size : Int) := rfl
 rw [if_neg (by omega), if_pos (by omega), e0, NumLib.get_f _ (putn_bytes _ (by omega) (by omega))]
 have hgp := get_put (size : Int) (by omega) (by omega) []
 rw [List.append_nil] at hgp
 rw [hgp, Option.bind_some]
 simp only
 obtain ⟨k, rfl⟩ : ∃ m, k = m + 1 := ⟨k - 1, by omega⟩
 have hkk : 350000 < k := by omega
 have hw : wrap64 (((encR l size).length : Int) - 1) = (((encR l size).length - 1 : Nat) : Int) := by unfold wrap64; omega
 have hw2 : wrap64 (size : Int) = size := by unfold wrap64; omega
 rw [if_pos trivial]
 rw [hde]
 rw [run_Decode.j0]
 rw [if_neg (show ¬ (false = true) by simp)]
 rw [hw]
 have q1 : (1 : Int) ≤ (((encR l size).length - 1 : Nat) : Int) := by omega
 have q2 : (((encR l size).length - 1 : Nat) : Int) ≤ ((encR l size).length : Int) := by omega
 rw [if_pos q1, if_pos q2, Option.bind_some, Int.toNat_natCast]
 have hy : ((encR l size).take ((encR l size).length - 1)).drop 1 = (chunks size l.length l).map blockB := by
  have hq : (encR l size).length - 1 = ((chunks size l.length l).map blockB).length + 1 := by rw [hRl, List.length_map]; omega
  rw [hq]
  exact mid_rows _ _ _
 refine dec_fin l hm (by omega) size h1 hs hb hf k hkk ?_ hcl _ hy
 exact hw2
end Go.Proofs.Ytnabhfegbnfabaa.RunLib
end
section
namespace Go.Proofs.Ytnabhfegbnfabaa.NumLib
open Go.RowKit Go.Proofs.Ytnabhfegbnfabaa.PRd Go.Proofs.YtnabhfegbnfabaaW.PrintWords Go.Proofs.YtnabhfegbnfabaaW.PrintLast
theorem ref_put_l0 : ∀ (j k : Nat) (n : Int) (l : List Int), j < k → 0 ≤ n → n < 128 ^ (j + 1) → n < 18446744073709551616 → l.length + j < 140737488355328 → r01_Put.l0 k n l = some (l ++ put j n)
 | j, 0, n, l, hk, _, _, _, _ => by omega
 | 0, k + 1, n, l, hk, h0, h1, _, hl => by
  simp at h1
  rw [r01_Put.l0, if_neg (by omega), if_pos (by omega), put]
  congr 2
  simp
  omega
 | j + 1, k + 1, n, l, hk, h0, h1, h3, hl => by
  rw [r01_Put.l0, put]
  by_cases hn : n ≥ 128
  ·have h2 : n / 128 < 128 ^ (j + 1) := by
    rw [Int.pow_succ] at h1
    generalize (128 : Int) ^ (j + 1) = p at *
    omega
   have e1 : IntKind.u64.wrap (Int.tdiv n 128) = n / 128 := by
    rw [u64_wrap, Int.tdiv_eq_ediv_of_nonneg h0]
    omega
   have e2 : IntKind.u64.wrap (128 + Int.tmod n 128) % 256 = n % 128 + 128 := by
    rw [u64_wrap, Int.tmod_eq_emod_of_nonneg h0]
    omega
   rw [if_pos (by omega), if_pos (by omega), if_pos hn, e1, e2, ref_put_l0 j k _ _ (by omega) (by omega) h2 (by omega) (by simp; omega)]
   simp
  ·rw [if_neg (by omega), if_pos (by omega), if_neg hn]
   congr 3
   omega
theorem ref_put_f (k : Nat) (n : Int) (l : List Int) (hk : 9 < k) (h0 : 0 ≤ n) (h1 : n < 18446744073709551616) (hl : l.length + 10 < 140737488355328) : r01_Put.f k l n = some (l ++ putn n) := by
 unfold r01_Put.f
 rw [Option.bind_some, if_pos (by simp; omega)]
 exact ref_put_l0 9 k n l hk h0 (by omega) h1 (by omega)
structure Pw (s : Nat) (p : Int) : Prop where
 eq : p = 128 ^ s
theorem Pw.pos {s : Nat} {p : Int} (h : Pw s p) : 0 < p := by rw [h.eq]; exact Int.pow_pos (by decide)
theorem Pw.next {s : Nat} {p : Int} (h : Pw s p) : Pw (s + 1) (p * 128) := ⟨by rw [h.eq, Int.pow_succ]⟩
theorem Pw.le {s : Nat} {p : Int} (h : Pw s p) (hs : s ≤ 8) : p ≤ 72057594037927936 := by
 have := Nat.pow_le_pow_right (n := 128) (by decide) hs
 have h2 : (128 : Int) ^ s ≤ 128 ^ 8 := by exact_mod_cast this
 rw [h.eq]
 exact Int.le_trans h2 (by decide)
theorem Pw.nine {p : Int} (h : Pw 9 p) : p = 9223372036854775808 := by rw [h.eq]; decide
def fin (l : List Int) (s : Nat) (n p : Int) (t : List Int) : Option Nat → Int × Int × Int
 | none => (0, 0, 3)
 | some c => if s + c = 10 ∨ (s + c = 9 ∧ rd l (s + c : Nat) > 1) ∨ (0 < s + c ∧ rd l (s + c : Nat) = 0) then (0, 0, 2) else (n + p * valL (c + 1) t, ((s + c : Nat) : Int) + 1, 0)
theorem valL0 (t : List Int) : valL 0 t = 0 := by cases t <;> rfl
theorem ref_get_nine (l t : List Int) (k : Nat) (n p : Int) (hlt : 9 < l.length) (hx : 0 ≤ rd l (9 : Nat) ∧ rd l (9 : Nat) ≤ 255) (hp : Pw 9 p) (h0 : 0 ≤ n) (h1 : n < p) (b : Bool) (hbb : b = decide (rd l (9 : Nat) > 1)) :
  r01_Get.j1 (k + 1) l n (p % 18446744073709551616) (9 : Nat) (rd l (9 : Nat) % 128) b = some (fin l 9 n p (rd l (9 : Nat) :: t) (scanL (0 + 1) (rd l (9 : Nat) :: t))) := by
 have hp9 := hp.nine
 rw [r01_Get.j1, scanL]
 by_cases hg : rd l (9 : Nat) > 1
 ·rw [if_pos (by rw [hbb]; simpa using hg)]
  by_cases h128 : rd l (9 : Nat) < 128
  ·rw [if_pos h128, fin, if_pos (.inr (.inl ⟨rfl, hg⟩))]
  ·rw [if_neg h128, scanL]
   rfl
 ·rw [if_neg (by rw [hbb]; simpa using hg), if_pos (show (0 : Int) ≤ (9 : Nat) by decide), if_pos (show ((9 : Nat) : Int) < (l.length : Int) by omega), if_pos (show rd l (9 : Nat) < 128 by omega), if_pos (show ((9 : Nat) : Int) > 0 by decide), if_pos (show rd l (9 : Nat) < 128 by omega), fin]
  by_cases hz : rd l (9 : Nat) = 0
  ·rw [if_pos hz, if_pos (.inr (.inr ⟨by decide, hz⟩))]
  ·rw [if_neg hz, if_neg (by
    rintro (q | ⟨_, q⟩ | ⟨_, q⟩)
    ·omega
    ·exact hg q
    ·exact hz q)]
   have e1 : rd l (9 : Nat) = 1 := by omega
   rw [valL, valL0, e1, u64_wrap, u64_wrap]
   have : wrap64 ((9 : Nat) + 1) = (9 : Nat) + 1 := by unfold wrap64; omega
   rw [this]
   congr 2
   omega
theorem ref_unit (n x p : Int) (hp0 : 0 < p) (hp8 : p ≤ 72057594037927936) (h0 : 0 ≤ n) (h1 : n < p) : IntKind.u64.wrap (n + IntKind.u64.wrap (x % 128 * (p % 18446744073709551616))) = n + p * (x % 128) ∧ IntKind.u64.wrap (p % 18446744073709551616 * 128) = p * 128 % 18446744073709551616 ∧ 0 ≤ n + p * (x % 128) ∧ n + p * (x % 128) < p * 128 := by
 have em : p % 18446744073709551616 = p := Int.emod_eq_of_lt (by omega) (by omega)
 have hm0 : 0 ≤ x % 128 * p := Int.mul_nonneg (by omega) (by omega)
 have hm1 : x % 128 * p ≤ 127 * p := Int.mul_le_mul_of_nonneg_right (by omega) (by omega)
 rw [em, u64_wrap, u64_wrap, u64_wrap, Int.mul_comm p (x % 128)]
 generalize x % 128 * p = m at *
 refine ⟨?_, rfl, ?_, ?_⟩ <;> omega
theorem ref_get_l0 (l : List Int) (hb : Bytes l) (hlen : l.length < 140737488355328) : ∀ (d k s : Nat) (n p : Int), Pw s p → s + d = 10 → 2 * d < k → s ≤ l.length → 0 ≤ n → n < p → r01_Get.l0 k l n (p % 18446744073709551616) s =
  some (fin l s n p (l.drop s) (scanL d (l.drop s)))
 | 0, k, s, n, p, _, h, hk, hs, h0, h1 => by
  obtain ⟨k, rfl⟩ : ∃ m, k = m + 1 := ⟨k - 1, by omega⟩
  obtain rfl : s = 10 := by omega
  rw [r01_Get.l0, if_neg (by decide)]
  rfl
 | d + 1, k0, s, n, p, hp, h, hk, hs, h0, h1 => by
  obtain ⟨k, rfl⟩ : ∃ m, k0 = m + 2 := ⟨k0 - 2, by omega⟩
  rw [r01_Get.l0, if_pos (show (s : Int) < 10 by omega)]
  by_cases he : s = l.length
  ·rw [if_pos (show (s : Int) = (l.length : Int) by omega), he, List.drop_length]
   rfl
  ·have hlt : s < l.length := by omega
   have hx : 0 ≤ rd l s ∧ rd l s ≤ 255 := by
    unfold rd
    rw [Int.toNat_natCast, List.getD_eq_getElem?_getD, List.getElem?_eq_getElem hlt, Option.getD_some]
    exact hb _ (List.getElem_mem hlt)
   have ed : IntKind.u64.wrap (Int.tmod (rd l s) 128) = rd l s % 128 := by
    rw [u64_wrap, Int.tmod_eq_emod_of_nonneg hx.1]
    omega
   rw [if_neg (show ¬ (s : Int) = (l.length : Int) by omega), if_pos (show (0 : Int) ≤ s by omega), if_pos (show (s : Int) < (l.length : Int) by omega), ed, rd_drop l s hlt]
   by_cases h9 : s = 9
   ·subst h9
    obtain rfl : d = 0 := by omega
    rw [if_pos (show ((9 : Nat) : Int) = 9 from rfl)]
    by_cases hg : rd l (9 : Nat) % 128 > 1
    ·rw [if_pos hg]
     exact ref_get_nine l _ k n p hlt hx hp h0 h1 true (decide_eq_true (show rd l (9 : Nat) > 1 by omega)).symm
    ·rw [if_neg hg]
     exact ref_get_nine l _ k n p hlt hx hp h0 h1 _ (decide_eq_decide.mpr ⟨fun _ => by omega, fun _ => by omega⟩)
   ·have hs8 : s ≤ 8 := by omega
    have ei : wrap64 ((s : Int) + 1) = ((s + 1 : Nat) : Int) := by unfold wrap64; omega
    have g1 : ¬ (s : Int) = 9 := by omega
    have g2 : (0 : Int) ≤ s := by omega
    have g3 : (s : Int) < (l.length : Int) := by omega
    have g4 : ¬ (false = true) := by decide
    obtain ⟨ew, eu, hn0, hn2⟩ := ref_unit n (rd l s) p hp.pos (hp.le hs8) h0 h1
    rw [if_neg g1, r01_Get.j1, if_neg g4, if_pos g2, if_pos g3, scanL, ei, ew]
    clear h0 h1 ew
    by_cases h128 : rd l s < 128
    ·rw [if_pos h128, if_pos h128, fin]
     simp only [Nat.add_zero]
     rw [valL, valL0]
     have er : rd l s % 128 + 128 * 0 = rd l s % 128 := by omega
     have ec : ((s + 1 : Nat) : Int) = (s : Int) + 1 := by omega
     rw [er, ec]
     by_cases hz : 0 < s ∧ rd l s = 0
     ·rw [if_pos (show (s : Int) > 0 by omega), if_pos hz.2, if_pos (.inr (.inr hz))]
     ·rw [if_neg (show ¬ (s = 10 ∨ (s = 9 ∧ rd l s > 1) ∨ (0 < s ∧ rd l s = 0)) from by
       rintro (q | ⟨q, _⟩ | q)
       ·exact absurd q (by omega)
       ·exact absurd q (by omega)
       ·exact hz q)]
      by_cases h0s : (s : Int) > 0
      ·rw [if_pos h0s, if_neg (fun q => hz ⟨by omega, q⟩)]
      ·rw [if_neg h0s]
    ·rw [if_neg h128, if_neg h128, eu, ref_get_l0 l hb hlen d k (s + 1) _ (p * 128) hp.next (by omega) (by omega) (by omega) hn0 hn2]
     cases hsc : scanL d (l.drop (s + 1)) with
     | none => rfl
     | some c =>
      have ec : s + 1 + c = s + (c + 1) := by omega
      rw [Option.map_some, fin, fin, ec]
      by_cases hbad : s + (c + 1) = 10 ∨ (s + (c + 1) = 9 ∧ rd l (s + (c + 1) : Nat) > 1) ∨ (0 < s + (c + 1) ∧ rd l (s + (c + 1) : Nat) = 0)
      ·rw [if_pos hbad, if_pos hbad]
      ·rw [if_neg hbad, if_neg hbad, valL, Int.mul_add, Int.mul_assoc, Int.add_assoc]
theorem ref_get_f (l : List Int) (hb : Bytes l) (hlen : l.length < 140737488355328) (k : Nat) (hk : 20 < k) : r01_Get.f k l = some (get l) := by
 unfold r01_Get.f
 have := ref_get_l0 l hb hlen 10 k 0 0 1 ⟨rfl⟩ rfl (by omega) (by omega) (by omega) (by decide)
 have e : (1 : Int) % 18446744073709551616 = 1 := by decide
 rw [e] at this
 have e0 : ((0 : Nat) : Int) = 0 := rfl
 rw [e0] at this
 rw [this]
 unfold get
 rw [List.drop_zero]
 cases scanL 10 l with
 | none => rfl
 | some c =>
  rw [fin, Nat.zero_add, Int.zero_add, Int.one_mul]
end Go.Proofs.Ytnabhfegbnfabaa.NumLib
end
section
namespace Go.Proofs.Ytnabhfegbnfabaa.CrcLib
open Go.RowKit Go.Proofs.Ytnabhfegbnfabaa.PRd Go.Proofs.YtnabhfegbnfabaaW.PrintWords Go.Proofs.YtnabhfegbnfabaaW.PrintLast
theorem flip_num (c : BitVec 32) : (4294967295 - num c) % 4294967296 = num (ones ^^^ c) := by
 have hc := c.isLt
 have e : ones = BitVec.allOnes 32 := by decide
 unfold num
 rw [e, BitVec.xor_comm, BitVec.xor_allOnes, BitVec.toNat_not]
 omega
theorem ref_s1 (c : BitVec 32) : (if Int.tmod (num c) 2 = 1 then Go.bits .xor .u32 ((Int.tdiv (num c) 2) % 4294967296) 3988292384 else (Int.tdiv (num c) 2) % 4294967296) = num (S1 c) := by
 have hc := num_lt c
 have e1 : Int.tdiv (num c) 2 % 4294967296 = num c / 2 := by rw [Int.tdiv_eq_ediv_of_nonneg hc.1]; omega
 rw [Int.tmod_eq_emod_of_nonneg hc.1, e1, ← s1_num, crc_More.s1, and_one _ hc.1]
theorem it_front (d : Nat) (c : BitVec 32) : it d (S1 c) = it (d + 1) c := by
 induction d with
 | zero => rfl
 | succ d ih => rw [it, ih, it, it, it]
theorem ref_l1 (l : List Int) (i : Nat) (hi : i ≤ 100000000) (d : Nat) : ∀ (k : Nat) (c : BitVec 32), d ≤ 8 → r02_More.l1 (k + d + 1) (num c) l i ((8 - d : Nat) : Int) = r02_More.l0 k (num (it d c)) l ((i + 1 : Nat) : Int) := by
 have hw : wrap64 ((i : Int) + 1) = ((i + 1 : Nat) : Int) := by unfold wrap64; omega
 induction d with
 | zero =>
  intro k c hd
  rw [r02_More.l1, if_neg (by omega), hw]
  rfl
 | succ d ih =>
  intro k c hd
  have hw2 : wrap64 (((8 - (d + 1) : Nat) : Int) + 1) = ((8 - d : Nat) : Int) := by unfold wrap64; omega
  have hs := ref_s1 c
  have ihh := ih k (S1 c) (by omega)
  rw [it_front] at ihh
  rw [← hs] at ihh
  rw [show k + (d + 1) + 1 = (k + d + 1) + 1 by omega, r02_More.l1, if_pos (by omega), hw2]
  by_cases h : Int.tmod (num c) 2 = 1
  ·rw [if_pos h] at ihh ⊢
   exact ihh
  ·rw [if_neg h] at ihh ⊢
   exact ihh
theorem ref_l0 (l : List Int) (hl : Bytes l) (hlen : l.length ≤ 1000000) (d : Nat) : ∀ (k i : Nat) (c : BitVec 32), 10 * d < k → i + d = l.length → r02_More.l0 k (num c) l i = some (num (ones ^^^ F c (l.drop i))) := by
 induction d with
 | zero =>
  intro k i c hk hi
  obtain ⟨k, rfl⟩ : ∃ m, k = m + 1 := ⟨k - 1, by omega⟩
  rw [r02_More.l0, if_neg (by omega), flip_num, List.drop_eq_nil_of_le (by omega), F_nil]
 | succ d ih =>
  intro k i c hk hi
  obtain ⟨k, rfl⟩ : ∃ m, k = m + 8 + 1 + 1 := ⟨k - 10, by omega⟩
  have hx : rd l i = l[i]'(by omega) := by
   unfold rd
   rw [Int.toNat_natCast, List.getD_eq_getElem?_getD, List.getElem?_eq_getElem (by omega), Option.getD_some]
  have hb := hl _ (List.getElem_mem (show i < l.length by omega))
  rw [← hx] at hb
  have e : rd l i % 4294967296 = rd l i := by omega
  have h8 := ref_l1 l i (by omega) 8 k (c ^^^ bv (rd l i)) (Nat.le_refl _)
  rw [r02_More.l0, if_pos (by omega), if_pos (by omega), e, xor_num, bv_num]
  rw [show ((8 - 8 : Nat) : Int) = 0 from rfl] at h8
  rw [h8, ih k (i + 1) _ (by omega) (by omega), List.drop_eq_getElem_cons (show i < l.length by omega), F_cons, hx]
theorem ref_more (c : Int) (l : List Int) (hc : 0 ≤ c ∧ c < 4294967296) (hl : Bytes l) (hlen : l.length ≤ 1000000) (k : Nat) (hk : 10 * l.length < k) : r02_More.f k c l = some (num (ones ^^^ F (ones ^^^ bv c) l)) := by
 unfold r02_More.f
 have e : (4294967295 - c) % 4294967296 = num (ones ^^^ bv c) := by rw [← flip_num, num_bv c hc.1 hc.2]
 have := ref_l0 l hl hlen l.length k 0 (ones ^^^ bv c) hk (by omega)
 rw [e]
 rw [Int.natCast_zero, List.drop_zero] at this
 exact this
theorem ref_of (l : List Int) (hl : Bytes l) (hlen : l.length ≤ 1000000) (k : Nat) (hk : 10 * l.length < k) : r02_Of.f k l = some (num (ones ^^^ F ones l)) := by
 unfold r02_Of.f
 have : bv 0 = 0#32 := rfl
 rw [ref_more 0 l (by omega) hl hlen k hk, Option.bind_some, this, BitVec.xor_zero]
end Go.Proofs.Ytnabhfegbnfabaa.CrcLib
end
section
namespace Go.Proofs.Ytnabhfegbnfabaa.FrameLib
open Go.RowKit Go.Proofs.Ytnabhfegbnfabaa.PRd Go.Proofs.YtnabhfegbnfabaaW.PrintWords Go.Proofs.YtnabhfegbnfabaaW.PrintLast Go.Proofs.Ytnabhfegbnfabaa.NumLib
theorem ref_put_f (k : Nat) (b p : List Int) (hp : Bytes p) (hb : b.length ≤ 100000000) (h : p.length ≤ 1000000) (hk : 10 * p.length + 20 < k) : r03_Put.f k b p = some (b ++ recL p, 0) := by
 have hw : IntKind.u64.wrap ((p.length : Int)) = p.length := by rw [u64_wrap]; omega
 have hl := putn_len p.length (by omega) (by omega)
 have e1 : (b ++ putn p.length).length + p.length < 140737488355328 := by rw [List.length_append]; omega
 have hc : 0 ≤ crcN p ∧ crcN p < 4294967296 := CrcLib.num_lt _
 have e4 : [(Int.tmod (crcN p) 256) % 256, ((Int.tdiv (crcN p) 256) % 4294967296) % 256, ((Int.tdiv (crcN p) 65536) % 4294967296) % 256, ((Int.tdiv (crcN p) 16777216) % 4294967296) % 256] = sumL p := by
  unfold sumL four
  generalize crcN p = c at *
  rw [Int.tmod_eq_emod_of_nonneg hc.1, Int.tdiv_eq_ediv_of_nonneg hc.1, Int.tdiv_eq_ediv_of_nonneg hc.1, Int.tdiv_eq_ediv_of_nonneg hc.1]
  have a1 : c % 256 % 256 = c % 256 := by omega
  have a2 : c / 256 % 4294967296 % 256 = c / 256 % 256 := by omega
  have a3 : c / 65536 % 4294967296 % 256 = c / 65536 % 256 := by omega
  have a4 : c / 16777216 % 4294967296 % 256 = c / 16777216 % 256 := by omega
  rw [a1, a2, a3, a4]
 have e2 : (b ++ putn p.length ++ p).length + (sumL p).length < 140737488355328 := by rw [List.length_append, List.length_append, sum_len]; omega
 unfold r03_Put.f
 rw [if_neg (by omega), hw, NumLib.ref_put_f k p.length b (by omega) (by omega) (by omega) (by omega), Option.bind_some, if_pos e1, Option.bind_some, CrcLib.ref_of p (crc_bytes hp) (by omega) k (by omega), Option.bind_some]
 rw [show CrcLib.num (CrcLib.ones ^^^ CrcLib.F CrcLib.ones p) = crcN p from rfl, e4, Option.bind_some, if_pos e2]
 unfold recL
 simp
theorem ref_get_f (k : Nat) (l : List Int) (hl : Bytes l) (hlen : l.length ≤ 1000000) (hk : 10 * l.length + 40 < k) : r03_Get.f k l = some (getR l) := by
 unfold r03_Get.f getR
 rw [NumLib.ref_get_f l hl (by omega) k (by omega), Option.bind_some]
 rcases hg : NumLib.get l with ⟨n, i, e⟩
 simp only
 by_cases he : e = 0
 ·subst he
  obtain ⟨i1, i2, n0, n1, hput⟩ := NumLib.get_ok l hl n i hg
  rw [if_pos rfl, if_neg (show ¬ ((0 : Int) ≠ 0) by simp)]
  by_cases hn : n > 1048576
  ·rw [if_pos hn, if_pos hn]
  ·have w1 : wrap64 n = n := by unfold wrap64; omega
   have w2 : wrap64 (i + n) = i + n := by unfold wrap64; omega
   have w3 : wrap64 (i + n + 4) = i + n + 4 := by unfold wrap64; omega
   have w4 : wrap64 (i + n + 4 - 4) = i + n := by unfold wrap64; omega
   rw [if_neg hn, if_neg hn, w1, w2, w3, w4]
   by_cases hs : (l.length : Int) < i + n + 4
   ·rw [if_pos (by omega), if_pos hs]
   ·have hpl : ((l.take (i + n).toNat).drop i.toNat).length = n.toNat := by rw [List.length_drop, List.length_take]; omega
    have hp : Bytes ((l.take (i + n).toNat).drop i.toNat) := bytes_drop (bytes_take hl _) _
    have c1 : ([] : List Int).length + ((l.take (i + n).toNat).drop i.toNat).length < 140737488355328 := by rw [hpl, List.length_nil]; omega
    have hr : Bytes (recL ((l.take (i + n).toNat).drop i.toNat)) := rec_bytes _ hp (by omega)
    have hq : Bytes (l.take (i + n + 4).toNat) := bytes_take hl _
    rw [if_neg (by omega), if_neg hs, Option.bind_some, if_pos (by omega), if_pos (by omega), if_pos (by omega), if_pos c1, Option.bind_some, List.nil_append, FrameLib.ref_put_f k [] _ hp (by simp) (by omega) (by omega), Option.bind_some, List.nil_append, if_pos (by omega), if_pos (by omega)]
    have hiff := str_inj hr hq
    have a1 : (l.take (i + n).toNat).take i.toNat = l.take i.toNat := by rw [List.take_take, Nat.min_eq_left (by omega)]
    have a2 : (l.take (i + n + 4).toNat).take (i + n).toNat = l.take (i + n).toNat := by rw [List.take_take, Nat.min_eq_left (by omega)]
    have hpre : putn (((l.take (i + n).toNat).drop i.toNat).length : Nat) ++ (l.take (i + n).toNat).drop i.toNat = l.take (i + n).toNat := by
     rw [hpl, Int.toNat_of_nonneg n0, hput, ← a1, List.take_append_drop]
    have hall : l.take (i + n + 4).toNat = l.take (i + n).toNat ++ (l.take (i + n + 4).toNat).drop (i + n).toNat := by
     rw [← a2, List.take_append_drop]
    have hsame : recL ((l.take (i + n).toNat).drop i.toNat) = l.take (i + n + 4).toNat ↔ (l.take (i + n + 4).toNat).drop (i + n).toNat = sumL ((l.take (i + n).toNat).drop i.toNat) := by
     unfold recL
     rw [hpre, hall]
     constructor
     ·intro q
      have := List.append_cancel_left q
      rw [← hall]
      exact this.symm
     ·intro q
      rw [← hall] at q
      rw [q]
    by_cases heq : (l.take (i + n + 4).toNat).drop (i + n).toNat = sumL ((l.take (i + n).toNat).drop i.toNat)
    ·rw [if_pos (hiff.2 (hsame.2 heq)), if_pos heq]
    ·rw [if_neg (fun q => heq (hsame.1 (hiff.1 q))), if_neg heq]
 ·rw [if_neg he, if_pos he]
theorem ref_scan_l0 (l : List Int) (hl : Bytes l) (hlen : l.length ≤ 100000) (d : Nat) : ∀ (k i : Nat) (acc : List (List Int)), d + 1100000 < k → i ≤ l.length → l.length - i < d → acc.length + d ≤ 1000000000 →
  r03_Scan.l0 k l (getR (l.drop i)).1 (getR (l.drop i)).2.1 (getR (l.drop i)).2.2 i acc = some (acc ++ (scanN d (l.drop i)).1, ((i + (scanN d (l.drop i)).2 : Nat) : Int)) := by
 induction d with
 | zero => intro k i acc _ _ h _; omega
 | succ d ih =>
  intro k i acc hk hi hd hacc
  obtain ⟨k, rfl⟩ : ∃ m, k = m + 1 := ⟨k - 1, by omega⟩
  have hb : Bytes (l.drop i) := bytes_drop hl i
  rw [r03_Scan.l0, scanN]
  rcases hg : getR (l.drop i) with ⟨p, n, e⟩
  simp only
  by_cases he : e = 0
  ·subst he
   obtain ⟨h1, h2, h3, h4, h5, h6⟩ := getR_ok _ hb p n hg
   rw [List.length_drop] at h4
   obtain ⟨m, rfl⟩ := Int.eq_ofNat_of_zero_le (show 0 ≤ n by omega)
   have hw : wrap64 ((i : Int) + (m : Int)) = ((i + m : Nat) : Int) := by unfold wrap64; omega
   have hacc2 : acc.length < 5864062014805 := by omega
   have ihh := ih k (i + m) (acc ++ [p]) (by omega) (by omega) (by omega) (by rw [List.length_append, List.length_singleton]; omega)
   rw [if_pos rfl, if_pos rfl, if_pos hacc2, hw, if_pos (by omega), if_pos (by omega), Int.toNat_natCast, ref_get_f k _ (bytes_drop hl _) (by rw [List.length_drop]; omega) (by rw [List.length_drop]; omega), Option.bind_some, ihh, Int.toNat_natCast, List.drop_drop]
   simp only [List.append_assoc, List.singleton_append, Nat.add_assoc]
  ·rw [if_neg he, if_neg he]
   simp
theorem ref_scan_f (l : List Int) (hl : Bytes l) (hlen : l.length ≤ 100000) (k : Nat) (hk : 1300000 < k) : r03_Scan.f k l = some ((scanN (l.length + 1) l).1, ((scanN (l.length + 1) l).2 : Int)) := by
 unfold r03_Scan.f
 have := ref_scan_l0 l hl hlen (l.length + 1) k 0 [] (by omega) (by omega) (by omega) (by simp; omega)
 rw [List.drop_zero, List.nil_append, Nat.zero_add, Int.natCast_zero] at this
 rw [ref_get_f k l hl (by omega) (by omega), Option.bind_some]
 exact this
end Go.Proofs.Ytnabhfegbnfabaa.FrameLib
end
section
namespace Go.Proofs.Ytnabhfegbnfabaa.RunLib
open Go.RowKit Go.Proofs.Ytnabhfegbnfabaa.PRd Go.Proofs.YtnabhfegbnfabaaW.PrintWords Go.Proofs.YtnabhfegbnfabaaW.PrintLast Go.Proofs.YtnabhfegbnfabaaW.PrintMore Go.Proofs.Ytnabhfegbnfabaa.NumLib Go.Proofs.Ytnabhfegbnfabaa.FrameLib
set_option linter.unusedVariables false
set_option linter.unusedSimpArgs false
theorem ref_may_l1 (l : List S36) (hl : l.length < 1000000000) (d : Nat) : ∀ (k i : Nat), d < k → 1 ≤ i → i + d = max 1 l.length → r09_May.l1 k l i = some (if rises (l.drop (i - 1)) = true then 0 else 9) := by
 induction d with
 | zero =>
  intro k i hk h1 hi
  obtain ⟨k, rfl⟩ : ∃ m, k = m + 1 := ⟨k - 1, by omega⟩
  rw [r09_May.l1, if_neg (by omega)]
  have : rises (l.drop (i - 1)) = true := by
   have hlen : (l.drop (i - 1)).length ≤ 1 := by rw [List.length_drop]; omega
   match l.drop (i - 1), hlen with
   | [], _ => rfl
   | [_], _ => rfl
  rw [if_pos this]
 | succ d ih =>
  intro k i hk h1 hi
  obtain ⟨k, rfl⟩ : ∃ m, k = m + 1 := ⟨k - 1, by omega⟩
  have hw : wrap64 ((i : Int) + 1) = ((i + 1 : Nat) : Int) := by unfold wrap64; omega
  have hv : wrap64 ((i : Int) - 1) = ((i - 1 : Nat) : Int) := by unfold wrap64; omega
  have hlt : i < l.length := by omega
  rw [r09_May.l1, if_pos (by omega), hv, if_pos (by omega), if_pos (by omega), if_pos (by omega), rdT_eq l i hlt, rdT_eq l (i - 1) (by omega), hw]
  have e : l.drop (i - 1) = l[i - 1] :: l[i] :: l.drop (i + 1) := by
   rw [List.drop_eq_getElem_cons (by omega)]
   congr 1
   rw [show i - 1 + 1 = i by omega, List.drop_eq_getElem_cons hlt]
  have e2 : l.drop (i + 1 - 1) = l[i] :: l.drop (i + 1) := by
   rw [show i + 1 - 1 = i by omega, List.drop_eq_getElem_cons hlt]
  have := ih k (i + 1) (by omega) (by omega) (by omega)
  rw [e2] at this
  rw [e, rises, this]
  unfold less
  by_cases hb : Op.bytesLess l[i - 1].f0.toList l[i].f0.toList = true
  ·rw [if_pos hb, hb, Bool.true_and]
  ·rw [if_neg hb]
   simp [hb]
theorem ref_may_l0 (l : List S36) (hl : l.length < 1000000000) (d : Nat) : ∀ (k i : Nat), d + l.length + 3 < k → i + d = l.length → r09_May.l0 k l i = some (if ∀ x ∈ l.drop i, fineS x then (if rises l = true then 0 else 9) else 1) := by
 induction d with
 | zero =>
  intro k i hk hi
  obtain ⟨k, rfl⟩ : ∃ m, k = m + 1 := ⟨k - 1, by omega⟩
  rw [r09_May.l0, if_neg (by omega), List.drop_of_length_le (by omega), if_pos (by simp)]
  have := ref_may_l1 l hl (max 1 l.length - 1) k 1 (by omega) (by omega) (by omega)
  exact this
 | succ d ih =>
  intro k i hk hi
  obtain ⟨k, rfl⟩ : ∃ m, k = m + 1 := ⟨k - 1, by omega⟩
  have hw : wrap64 ((i : Int) + 1) = ((i + 1 : Nat) : Int) := by unfold wrap64; omega
  have hlt : i < l.length := by omega
  rw [r09_May.l0, if_pos (by omega), if_pos (by omega), rdT_eq l i hlt, hw, List.drop_eq_getElem_cons hlt]
  have ih' := ih k (i + 1) (by omega) (by omega)
  by_cases hf : fineS l[i]
  ·have hf' := hf
   unfold fineS at hf'
   rw [if_neg (by omega), if_neg (by omega), if_neg (by omega), if_neg (by omega), ih']
   congr 1
   by_cases hr : ∀ x ∈ l.drop (i + 1), fineS x
   ·rw [if_pos hr, if_pos (List.forall_mem_cons.2 ⟨hf, hr⟩)]
   ·rw [if_neg hr, if_neg (fun h => hr (fun x hx => h x (List.mem_cons_of_mem _ hx)))]
  ·rw [if_neg (show ¬ ∀ x ∈ l[i] :: l.drop (i + 1), fineS x from fun h => hf (h _ List.mem_cons_self))]
   unfold fineS at hf
   by_cases a1 : (l[i].f0.size : Int) < 1
   ·rw [if_pos a1]
   ·rw [if_neg a1]
    by_cases a2 : (l[i].f0.size : Int) > 255
    ·rw [if_pos a2]
    ·rw [if_neg a2]
     by_cases a3 : l[i].f1 < 1
     ·rw [if_pos a3]
     ·rw [if_neg a3, if_pos (by omega)]
theorem ref_may_f (k : Nat) (l : List S36) (hl : l.length < 1000000000) (hk : 2 * l.length + 5 < k) : r09_May.f k l = some (mayS l) := by
 unfold r09_May.f mayS
 have := ref_may_l0 l hl l.length k 0 (by omega) (by omega)
 rw [Int.natCast_zero, List.drop_zero] at this
 exact this
theorem alike_l0 (a b : ByteArray) (ha : a.size < 1000000000) (d : Nat) : ∀ (k i : Nat), d < k → i + d = min a.size b.size → r09_Alike.l0 k a b i = some ((i + sh ((bytesOf a).drop i) ((bytesOf b).drop i) : Nat) : Int) := by
 induction d with
 | zero =>
  intro k i hk hi
  obtain ⟨k, rfl⟩ : ∃ m, k = m + 1 := ⟨k - 1, by omega⟩
  have : sh ((bytesOf a).drop i) ((bytesOf b).drop i) = 0 := by
   have h1 := (sh_le ((bytesOf a).drop i) ((bytesOf b).drop i))
   rw [List.length_drop, List.length_drop, bytesOf_len, bytesOf_len] at h1
   omega
  rw [this, Nat.add_zero, r09_Alike.l0]
  by_cases h : (i : Int) < (a.size : Int)
  ·rw [if_pos h, if_neg (by omega)]; rfl
  ·rw [if_neg h]; rfl
 | succ d ih =>
  intro k i hk hi
  obtain ⟨k, rfl⟩ : ∃ m, k = m + 1 := ⟨k - 1, by omega⟩
  have hw : wrap64 ((i : Int) + 1) = ((i + 1 : Nat) : Int) := by unfold wrap64; omega
  rw [r09_Alike.l0, if_pos (by omega), if_pos (by omega), if_pos (by omega), bt_eq a i (by omega), bt_eq b i (by omega), hw, rd_bytes a i (by omega), rd_bytes b i (by omega), sh]
  by_cases h : rd (bytesOf a) i = rd (bytesOf b) i
  ·rw [if_pos h, if_pos h, ih k (i + 1) (by omega) (by omega)]
   congr 2
   omega
  ·rw [if_neg h, if_neg h, Nat.add_zero]
theorem alike_f (a b : ByteArray) (ha : a.size < 1000000000) (k : Nat) (hk : a.size < k) : r09_Alike.f k a b = some ((sh (bytesOf a) (bytesOf b) : Nat) : Int) := by
 unfold r09_Alike.f
 have := alike_l0 a b ha (min a.size b.size) k 0 (by omega) (by omega)
 rw [List.drop_zero, List.drop_zero, Nat.zero_add] at this
 exact this
def prevW (l : List S36) : Nat → List Int
 | 0 => []
 | j + 1 => wd (l.getD j z36)
theorem prevW_succ (l : List S36) (i : Nat) (h : i < l.length) : prevW l (i + 1) = wd l[i] := by
 show wd (l.getD i z36) = wd l[i]
 rw [List.getD_eq_getElem?_getD, List.getElem?_eq_getElem h, Option.getD_some]
theorem len_two {a b c : List Int} (h1 : b.length ≤ 10) (h2 : c.length ≤ 10) : (a ++ b ++ c).length ≤ a.length + 20 := by rw [List.length_append, List.length_append]; omega
theorem len_more {a d : List Int} {n : Nat} (h1 : a.length ≤ n + 20) (h2 : d.length ≤ 255) : (a ++ d).length ≤ n + 275 := by rw [List.length_append]; omega
theorem ref_step0 (k : Nat) (hk : 300 < k) (x : S36) (hx : fineS x) (acc : List Int) (hacc : acc.length ≤ 99999700) (F : List Int → Option (List Int)) :
  ((r01_Put.f k acc 0).bind fun t272 => (if (0 : Int) ≤ ((0 : Nat) : Int) then ((r01_Put.f k t272 (IntKind.u64.wrap (wrap64 ((x.f0.size : Int))))).bind fun t276 => (if 0 ≤ (x.f0.size : Int) then (if t276.length + x.f0.size < 140737488355328 then ((r01_Put.f k (t276 ++ bytesOf x.f0) x.f1).bind F) else none) else none)) else none)) = F (acc ++ entB [] x) := by
 have hwl := wd_len hx
 have hxs : x.f0.size = (wd x).length := (bytesOf_len _).symm
 have hc := hx.2.2
 have hent : entB [] x = putn 0 ++ putn ((wd x).length : Int) ++ wd x ++ putn x.f1 := by
  have e0 : sh ([] : List Int) (wd x) = 0 := rfl
  unfold entB
  rw [e0, Nat.sub_zero, List.drop_zero, Int.natCast_zero]
 rw [hent, hxs, show bytesOf x.f0 = wd x from rfl]
 generalize wd x = w at hwl
 obtain ⟨c1, c2⟩ := hc
 generalize x.f1 = c at c1 c2
 clear hx hxs hent
 have p1 := putn_len 0 (by omega) (by omega)
 have p2 := putn_len (w.length : Int) (by omega) (by omega)
 have hput0 := NumLib.ref_put_f k 0 acc (by omega) (by omega) (by omega) (by omega)
 generalize putn 0 = z0 at p1 hput0
 have l0 : (acc ++ z0).length ≤ acc.length + 10 := by rw [List.length_append]; omega
 have hput1 := NumLib.ref_put_f k (w.length : Int) (acc ++ z0) (by omega) (by omega) (by omega) (by omega)
 generalize putn (w.length : Int) = z1 at p2 hput1
 have l1 : (acc ++ z0 ++ z1).length ≤ acc.length + 20 := len_two p1.2 p2.2
 have l2 : (acc ++ z0 ++ z1 ++ w).length ≤ acc.length + 275 := len_more l1 hwl.2
 have hput2 := NumLib.ref_put_f k c (acc ++ z0 ++ z1 ++ w) (by omega) (by omega) (by omega) (by omega)
 have e2 : IntKind.u64.wrap (wrap64 ((w.length : Int))) = (w.length : Int) := by
  rw [show wrap64 (w.length : Int) = (w.length : Int) by unfold wrap64; omega, u64_small _ (by omega)]
 have q0 : (0 : Int) ≤ ((0 : Nat) : Int) := by decide
 have q1 : (0 : Int) ≤ (w.length : Int) := by omega
 have q2 : (acc ++ z0 ++ z1).length + w.length < 140737488355328 := by omega
 rw [hput0, Option.bind_some, if_pos q0, e2, hput1, Option.bind_some, if_pos q1, if_pos q2, hput2, Option.bind_some]
 simp only [List.append_assoc]
theorem ref_step1 (k : Nat) (hk : 300 < k) (y x : S36) (hy : fineS y) (hx : fineS x) (acc : List Int) (hacc : acc.length ≤ 99999700) (F : List Int → Option (List Int)) :
  ((r09_Alike.f k y.f0 x.f0).bind fun t256 => ((r01_Put.f k acc (IntKind.u64.wrap (t256))).bind fun t257 => ((r01_Put.f k t257 (IntKind.u64.wrap (wrap64 ((x.f0.size : Int) - t256)))).bind fun t261 => (if 0 ≤ t256 then (if t256 ≤ (x.f0.size : Int) then (if t261.length + (x.f0.extract (t256 : Int).toNat x.f0.size).size < 140737488355328 then ((r01_Put.f k (t261 ++ bytesOf (x.f0.extract (t256 : Int).toNat x.f0.size)) x.f1).bind F) else none) else none) else none)))) = F (acc ++ entB (wd y) x) := by
 have hwl := wd_len hx
 have hyl := hy.2.1
 have hxs : x.f0.size = (wd x).length := (bytesOf_len _).symm
 have hc := hx.2.2
 have hs := (sh_le (wd y) (wd x)).2
 have hal := alike_f y.f0 x.f0 (by omega) k (by omega)
 have htl : ∀ n, (x.f0.extract n x.f0.size).size = (wd x).length - n := fun n => by rw [tail_size, hxs]
 have hbt : ∀ n, bytesOf (x.f0.extract n x.f0.size) = (wd x).drop n := fun n => bytesOf_tail _ _
 rw [hal, Option.bind_some]
 unfold entB
 simp only [Int.toNat_natCast, htl, hbt]
 simp only [hxs, show bytesOf y.f0 = wd y from rfl, show bytesOf x.f0 = wd x from rfl]
 generalize sh (wd y) (wd x) = n at hs
 generalize wd x = w at hwl hs
 obtain ⟨c1, c2⟩ := hc
 generalize x.f1 = c at c1 c2
 clear hx hy hxs hal htl hbt hyl
 have p1 := putn_len (n : Int) (by omega) (by omega)
 have p2 := putn_len ((w.length - n : Nat) : Int) (by omega) (by omega)
 have hput0 := NumLib.ref_put_f k (n : Int) acc (by omega) (by omega) (by omega) (by omega)
 generalize putn (n : Int) = z0 at p1 hput0
 have l0 : (acc ++ z0).length ≤ acc.length + 10 := by rw [List.length_append]; omega
 have hput1 := NumLib.ref_put_f k ((w.length - n : Nat) : Int) (acc ++ z0) (by omega) (by omega) (by omega) (by omega)
 generalize putn ((w.length - n : Nat) : Int) = z1 at p2 hput1
 have l1 : (acc ++ z0 ++ z1).length ≤ acc.length + 20 := len_two p1.2 p2.2
 have hd : (w.drop n).length ≤ 255 := by rw [List.length_drop]; omega
 have l2 : (acc ++ z0 ++ z1 ++ w.drop n).length ≤ acc.length + 275 := len_more l1 hd
 have hput2 := NumLib.ref_put_f k c (acc ++ z0 ++ z1 ++ w.drop n) (by omega) (by omega) (by omega) (by omega)
 have e1 : IntKind.u64.wrap ((n : Nat) : Int) = (n : Int) := u64_small _ (by omega)
 have e2 : IntKind.u64.wrap (wrap64 ((w.length : Int) - (n : Int))) = ((w.length - n : Nat) : Int) := by
  rw [show (w.length : Int) - (n : Int) = ((w.length - n : Nat) : Int) by omega, show wrap64 ((w.length - n : Nat) : Int) = ((w.length - n : Nat) : Int) by unfold wrap64; omega, u64_small _ (by omega)]
 have q0 : (0 : Int) ≤ (n : Int) := by omega
 have q1 : (n : Int) ≤ (w.length : Int) := by omega
 have q2 : (acc ++ z0 ++ z1).length + (w.length - n) < 140737488355328 := by omega
 rw [e1, hput0, Option.bind_some, e2, hput1, Option.bind_some, if_pos q0, if_pos q1, if_pos q2, hput2, Option.bind_some]
 simp only [List.append_assoc]
theorem ref_block_l0 (l : List S36) (h : ∀ x ∈ l, fineS x) (hl : l.length ≤ 100000) (d : Nat) : ∀ (k i : Nat) (acc : List Int), d + 300 < k → i + d = l.length → acc.length + 300 * d ≤ 99999900 →
  r09_Block.l0 k l acc i = some (acc ++ entsB (prevW l i) (l.drop i)) := by
 induction d with
 | zero =>
  intro k i acc hk hi _
  obtain ⟨k, rfl⟩ : ∃ m, k = m + 1 := ⟨k - 1, by omega⟩
  rw [r09_Block.l0, if_neg (by omega), List.drop_of_length_le (by omega), entsB, List.append_nil]
 | succ d ih =>
  intro k i acc hk hi hacc
  obtain ⟨k, rfl⟩ : ∃ m, k = m + 1 := ⟨k - 1, by omega⟩
  have hwr : wrap64 ((i : Int) + 1) = ((i + 1 : Nat) : Int) := by unfold wrap64; omega
  have hlt : i < l.length := by omega
  have hx := h l[i] (List.getElem_mem hlt)
  have hpn := prevW_succ l i hlt
  have hel : ∀ was, (entB was l[i]).length ≤ 285 := fun was => entB_len was hx
  have hstep : ∀ was, (acc ++ entB was l[i]).length + 300 * d ≤ 99999900 := fun was => by have := hel was; rw [List.length_append]; omega
  have ihx : ∀ was, r09_Block.l0 k l (acc ++ entB was l[i]) ((i + 1 : Nat) : Int) = some (acc ++ entB was l[i] ++ entsB (wd l[i]) (l.drop (i + 1))) := fun was => by
   have := ih k (i + 1) (acc ++ entB was l[i]) (by omega) (by omega) (hstep was)
   rw [hpn] at this
   exact this
  have hk3 : 300 < k := by omega
  have ha3 : acc.length ≤ 99999700 := by omega
  have q : (i : Int) < (l.length : Int) := by omega
  rw [r09_Block.l0, if_pos q, rdT_eq l i hlt, hwr, List.drop_eq_getElem_cons hlt, entsB]
  by_cases h0 : i = 0
  ·subst h0
   have hng : ¬ ((0 : Nat) : Int) > 0 := by decide
   have hs := ref_step0 k hk3 l[0] hx acc ha3 (fun t => r09_Block.l0 k l t ((0 + 1 : Nat) : Int))
   rw [if_neg hng]
   refine hs.trans ((ihx []).trans ?_)
   rw [List.append_assoc]
   rfl
  ·obtain ⟨j, rfl⟩ : ∃ j, i = j + 1 := ⟨i - 1, by omega⟩
   have hv : wrap64 (((j + 1 : Nat) : Int) - 1) = ((j : Nat) : Int) := by unfold wrap64; omega
   have hj : j < l.length := by omega
   have hy := h l[j] (List.getElem_mem hj)
   have hs := ref_step1 k hk3 l[j] l[j + 1] hy hx acc ha3 (fun t => r09_Block.l0 k l t ((j + 1 + 1 : Nat) : Int))
   have g0 : ((j + 1 : Nat) : Int) > 0 := by omega
   have g1 : (0 : Int) ≤ ((j : Nat) : Int) := by omega
   have g2 : ((j : Nat) : Int) < (l.length : Int) := by omega
   have g3 : (0 : Int) ≤ ((j + 1 : Nat) : Int) := by omega
   rw [if_pos g0, hv, if_pos g1, if_pos g2, if_pos g3, rdT_eq l j hj, prevW_succ l j hj]
   refine hs.trans ((ihx (wd l[j])).trans ?_)
   rw [List.append_assoc]
theorem ref_block_f (k : Nat) (l : List S36) (h : ∀ x ∈ l, fineS x) (hl : l.length ≤ 100000) (hk : l.length + 300 < k) : r09_Block.f k l = some (blockB l) := by
 unfold r09_Block.f
 have p1 := putn_len (l.length : Int) (by omega) (by omega)
 rw [u64_small _ (by omega), NumLib.ref_put_f k _ [] (by omega) (by omega) (by omega) (by simp), Option.bind_some]
 have := ref_block_l0 l h hl l.length k 0 ([] ++ putn (l.length : Int)) hk (by omega) (by rw [List.nil_append]; omega)
 rw [List.drop_zero] at this
 exact this
def endR (l : List S36) : List Int := putn 0 ++ putn (l.length : Int)
theorem endR_len (l : List S36) (hl : l.length ≤ 100000) : (endR l).length ≤ 20 ∧ Bytes (endR l) := by
 have p1 := putn_len 0 (by omega) (by omega)
 have p2 := putn_len (l.length : Int) (by omega) (by omega)
 exact ⟨by unfold endR; rw [List.length_append]; omega, bytes_append (putn_bytes _ (by omega) (by omega)) (putn_bytes _ (by omega) (by omega))⟩
theorem cut_eq (l : List S36) (i hi2 size : Nat) (h : hi2 = min (i + size) l.length) (hi : i < l.length) : (l.take hi2).drop i = (l.drop i).take size := by
 subst h
 rw [List.drop_take]
 by_cases hs : i + size ≤ l.length
 ·rw [Nat.min_eq_left hs, Nat.add_sub_cancel_left]
 ·rw [Nat.min_eq_right (by omega), List.take_of_length_le (by rw [List.length_drop]; exact Nat.le_refl _), List.take_of_length_le (by rw [List.length_drop]; omega)]
theorem ref_fin (k : Nat) (l : List S36) (hl : l.length ≤ 30000) (size : Int) (i : Nat) (acc : List Int) (hk : 800000 < k) (hi : ¬ i < l.length) (ha : acc.length ≤ 99999900) : r09_Encode.l0 (k + 1) l size acc i = some (acc ++ recs [endR l], 0) := by
 have he := endR_len l (by omega)
 have hng : ¬ (i : Int) < (l.length : Int) := by omega
 have hend : endR l = putn 0 ++ putn (l.length : Int) := rfl
 have hl64 : (l.length : Int) < 18446744073709551616 := by omega
 have hu : IntKind.u64.wrap (l.length : Int) = (l.length : Int) := u64_small _ (by omega)
 generalize endR l = E at he hend
 have hp := FrameLib.ref_put_f k acc E he.2 (by omega) (by omega) (by omega)
 have p1 := putn_len 0 (by omega) (by omega)
 have hput0 := NumLib.ref_put_f k 0 [] (by omega) (by omega) (by omega) (by simp)
 generalize putn 0 = z0 at p1 hput0 hend
 rw [List.nil_append] at hput0
 have hput1 := NumLib.ref_put_f k (l.length : Int) z0 (by omega) (by omega) hl64 (by omega)
 rw [r09_Encode.l0, if_neg hng, hput0, Option.bind_some, hu, hput1, Option.bind_some, ← hend, hp, Option.bind_some, recs, recs, List.append_nil]
theorem ref_blk (k : Nat) (c : List S36) (h : ∀ x ∈ c, fineS x) (hl : c.length ≤ 255) (acc : List Int) (hk : 900000 < k) (ha : acc.length ≤ 99000000) (F : List Int × Int → Option (List Int × Int)) :
  ((r09_Block.f k c).bind fun t => (r03_Put.f k acc t).bind F) = F (acc ++ recL (blockB c), 0) ∧ (acc ++ recL (blockB c)).length ≤ acc.length + 24 + 285 * c.length := by
 have hb := ref_block_f k c h (by omega) (by omega)
 have h1 := blockB_len h (by omega)
 have h2 := blockB_bytes h (by omega)
 generalize blockB c = B at hb h1 h2
 have h3 := (recL_le (p := B) (by omega)).1
 have hput := FrameLib.ref_put_f k acc B h2 (by omega) (by omega) (by omega)
 rw [hb, Option.bind_some, hput, Option.bind_some]
 exact ⟨rfl, by rw [List.length_append]; omega⟩
theorem ref_enc_l0 (l : List S36) (h : ∀ x ∈ l, fineS x) (hl : l.length ≤ 30000) (size : Nat) (h1 : 1 ≤ size) (hs : size ≤ 255) (d : Nat) : ∀ (k i : Nat) (acc : List Int), 2 * d + 1000000 < k → l.length - i ≤ d → i ≤ 40000 → acc.length + 309 * (l.length - i) ≤ 98000000 →
  r09_Encode.l0 k l size acc i = some (acc ++ recs ((chunks size d (l.drop i)).map blockB ++ [endR l]), 0) := by
 induction d with
 | zero =>
  intro k i acc hk hd hi ha
  obtain ⟨k, rfl⟩ : ∃ m, k = m + 1 := ⟨k - 1, by omega⟩
  rw [chunks, List.map_nil, List.nil_append]
  exact ref_fin k l hl size i acc (by omega) (by omega) (by omega)
 | succ d ih =>
  intro k i acc hk hd hi ha
  obtain ⟨k, rfl⟩ : ∃ m, k = m + 2 := ⟨k - 2, by omega⟩
  by_cases hlt : i < l.length
  ·have hne : l.drop i ≠ [] := fun e => by
    have := congrArg List.length e
    rw [List.length_drop, List.length_nil] at this
    omega
   have hpl : ((l.drop i).take size).length = min size (l.length - i) := by rw [List.length_take, List.length_drop]
   have hpf : ∀ x ∈ (l.drop i).take size, fineS x := fun x hx => h x (List.mem_of_mem_drop (List.mem_of_mem_take hx))
   have hw : wrap64 ((i : Int) + (size : Int)) = ((i + size : Nat) : Int) := by unfold wrap64; omega
   have hk9 : 900000 < k := by omega
   have ha9 : acc.length ≤ 99000000 := by omega
   have hc255 : ((l.drop i).take size).length ≤ 255 := by omega
   have hblk := ref_blk k _ hpf hc255 acc hk9 ha9 (fun r => if r.2 = 0 then r09_Encode.l0 k l size r.1 (wrap64 ((i : Int) + (size : Int))) else some ([], r.2))
   have hchunk : chunks size (d + 1) (l.drop i) = (l.drop i).take size :: chunks size d (l.drop (i + size)) := by rw [chunks, if_neg hne, List.drop_drop]
   have hcut := fun hi2 hto => cut_eq l i hi2 size hto hlt
   have hnext := ih k (i + size) (acc ++ recL (blockB ((l.drop i).take size))) (by omega) (by omega) (by omega) (by have := hblk.2; omega)
   rw [hchunk, List.map_cons, List.cons_append, recs]
   rw [hw] at hblk
   generalize (l.drop i).take size = c at hpl hpf hc255 hblk hcut hnext
   have hres := hblk.1.trans ((if_pos rfl).trans hnext)
   have hj : ∀ hi2 : Nat, hi2 = min (i + size) l.length → r09_Encode.j2 (k + 1) l size acc i hi2 = some (acc ++ (recL (blockB c) ++ recs ((chunks size d (l.drop (i + size))).map blockB ++ [endR l])), 0) := by
    intro hi2 hto
    have q1 : (0 : Int) ≤ (i : Int) := by omega
    have q2 : (i : Int) ≤ (hi2 : Int) := by omega
    have q3 : (hi2 : Int) ≤ (l.length : Int) := by omega
    rw [r09_Encode.j2, if_pos q1, if_pos q2, if_pos q3, Int.toNat_natCast, Int.toNat_natCast, hcut hi2 hto, hw, ← List.append_assoc]
    exact hres
   have q : (i : Int) < (l.length : Int) := by omega
   rw [r09_Encode.l0, if_pos q, hw]
   by_cases hc : ((i + size : Nat) : Int) > (l.length : Int)
   ·rw [if_pos hc]
    exact hj _ (by omega)
   ·rw [if_neg hc]
    exact hj _ (by omega)
  ·have e : l.drop i = [] := List.drop_of_length_le (by omega)
   rw [e, chunks_nil, List.map_nil, List.nil_append]
   exact ref_fin (k + 1) l hl size i acc (by omega) hlt (by omega)
theorem ref_enc_ok (k : Nat) (l : List S36) (size : Nat) (hm : mayS l = 0) (hl : l.length ≤ 30000) (h1 : 1 ≤ size) (hs : size ≤ 255) (hk : 1090000 < k) :
  ((r01_Put.f k ([] : List Int) (IntKind.u64.wrap ((size : Nat) : Int))).bind fun t288 => ((r03_Put.f k ([] : List Int) t288).bind fun bt291 => (r09_Encode.l0 k l size bt291.1 0))) = some (encB l size, 0) := by
 have hf := (mayS_zero hm).1
 have p1 := putn_len (size : Int) (by omega) (by omega)
 have hby := putn_bytes (size : Int) (by omega) (by omega)
 have hput0 := NumLib.ref_put_f k (size : Int) [] (by omega) (by omega) (by omega) (by simp)
 have hE : encB l size = recL (putn (size : Int)) ++ recs ((chunks size l.length l).map blockB ++ [endR l]) := by
  unfold encB encR
  rw [List.cons_append, recs]
  rfl
 rw [List.nil_append] at hput0
 generalize putn (size : Int) = z at p1 hby hput0 hE
 have r1 := (recL_le (p := z) (by omega)).1
 have hput := FrameLib.ref_put_f k [] z hby (by simp) (by omega) (by omega)
 rw [List.nil_append] at hput
 have hl0 := ref_enc_l0 l hf hl size h1 hs l.length k 0 (recL z) (by omega) (by omega) (by omega) (by omega)
 rw [Int.natCast_zero, List.drop_zero] at hl0
 rw [u64_small size (by omega), hput0, Option.bind_some, hput, Option.bind_some, hE]
 exact hl0
theorem ref_enc_f (k : Nat) (l : List S36) (a : Int) (hl : l.length ≤ 30000) (hk : 1100000 < k) : r09_Encode.f k l a = some (encS l a) := by
 obtain ⟨k, rfl⟩ : ∃ m, k = m + 1 := ⟨k - 1, by omega⟩
 unfold r09_Encode.f encS
 by_cases h1 : a < 1
 ·rw [if_pos h1, if_pos (.inl h1), r09_Encode.j0, if_pos rfl]
 ·rw [if_neg h1]
  by_cases h2 : a > 255
  ·have hd : decide (a > 255) = true := by simpa using h2
   rw [hd, if_pos (.inr h2), r09_Encode.j0, if_pos rfl]
  ·have hd : decide (a > 255) = false := by simpa using h2
   have hn : ¬ (a < 1 ∨ a > 255) := by omega
   rw [hd, if_neg hn, r09_Encode.j0, if_neg (show ¬ (false = true) by simp), ref_may_f k l (by omega) (by omega), Option.bind_some]
   by_cases h3 : mayS l = 0
   ·obtain ⟨size, rfl⟩ := Int.eq_ofNat_of_zero_le (show 0 ≤ a by omega)
    have hres := ref_enc_ok k l size h3 hl (by omega) (by omega) (by omega)
    rw [if_pos h3, if_pos h3, Int.toNat_natCast]
    exact hres
   ·rw [if_neg h3, if_neg h3]
def takeS (l : List Int) (r : ByteArray × Int × List Int × Bool) : ByteArray × Int × Int := if r.2.2.2 = true then (r.1, r.2.1, ((l.length - r.2.2.1.length : Nat) : Int)) else (⟨#[]⟩, 0, 0)
theorem take_j1_true (k : Nat) (was : ByteArray) (l : List Int) (a b c : Int) : r09_take.j1 (k + 1) was l a b c true = some (⟨#[]⟩, 0, 0) := by rw [r09_take.j1, if_pos rfl]
theorem take_j0_true (k : Nat) (was : ByteArray) (l : List Int) (a b : Int) : r09_take.j0 (k + 1) was l a b true = some (⟨#[]⟩, 0, 0) := by rw [r09_take.j0, if_pos rfl]
theorem tk_w1 (a b n : Nat) (h : a + b ≤ n) (hn : n ≤ 100000000) : wrap64 ((a : Int) + (b : Int)) = ((a + b : Nat) : Int) := by unfold wrap64; omega
theorem tk_w2 (n a : Nat) (h : a ≤ n) (hn : n ≤ 100000000) : IntKind.u64.wrap (wrap64 ((n : Int) - (a : Int))) = ((n - a : Nat) : Int) := by
 rw [show (n : Int) - (a : Int) = ((n - a : Nat) : Int) by omega, show wrap64 ((n - a : Nat) : Int) = ((n - a : Nat) : Int) by unfold wrap64; omega]
 exact u64_small _ (by omega)
theorem tk_w3 (a n : Nat) (h : a ≤ n) (hn : n ≤ 100000000) : wrap64 ((a : Nat) : Int) = (a : Int) := by unfold wrap64; omega
theorem tk_head (s : ByteArray) (n : Nat) (h : n ≤ s.size) : (s.extract 0 n).size = n := by
 rw [← bytesOf_len, bytesOf_head, List.length_take, bytesOf_len]
 omega
theorem tk_str (l : List Int) (hb : Bytes l) (n : Nat) (h : n ≤ l.length) : (strOfNums (l.take n)).size = n := by
 rw [← bytesOf_len, bytesOf_str _ (bytes_take hb _), List.length_take]
 omega
theorem tk_sub (n a m : Nat) (h1 : a ≤ n) (h2 : m ≤ n - a) : a + m ≤ n := by omega
theorem tk_sum (a m s n : Nat) (h : s + n ≤ 100000000) (h1 : a ≤ s) (h2 : m ≤ n) : a + m ≤ 9223372036854775807 := by omega
theorem tk_i3 (n a p : Nat) (h : ((p : Nat) : Int) ≤ ((n - a : Nat) : Int)) (h1 : a ≤ n) : a + p ≤ n ∧ n - (n - (a + p)) = a + p := by omega
theorem take_eq (was : ByteArray) (l : List Int) (hb : Bytes l) (h : was.size + l.length ≤ 100000000) (k : Nat) (hk : 30 < k) : ∃ r, run_entry.f was l = some r ∧ r09_take.f (k + 1 + 1) was l = some (takeS l r) := by
 have hg1 := NumLib.ref_get_f l hb (by omega) (k + 1 + 1) (by omega)
 unfold run_entry.f r09_take.f
 rw [NumLib.get_f _ hb, hg1, Option.bind_some, Option.bind_some]
 rcases h1 : get l with ⟨n1, n2, n3⟩
 simp only
 have g1 := get_bounds l hb n1 n2 n3 h1
 clear hg1 h1
 obtain ⟨i1, rfl⟩ := Int.eq_ofNat_of_zero_le g1.2.2.1
 simp only [Int.toNat_natCast]
 have hb1 := bytes_drop hb i1
 have hg2 := NumLib.ref_get_f _ hb1 (by rw [List.length_drop]; omega) (k + 1) (by omega)
 rw [NumLib.get_f _ hb1, Option.bind_some]
 rcases h2 : get (l.drop i1) with ⟨m1, m2, m3⟩
 rw [h2] at hg2
 simp only
 have g2 := get_bounds _ hb1 m1 m2 m3 h2
 clear h2
 obtain ⟨i2, rfl⟩ := Int.eq_ofNat_of_zero_le g2.2.2.1
 simp only [Int.toNat_natCast]
 have hl1 : (l.drop i1).length = l.length - i1 := List.length_drop
 have hdd : (l.drop i1).drop i2 = l.drop (i1 + i2) := List.drop_drop
 rw [hdd]
 rw [hl1] at g2
 have hb2 := bytes_drop hb (i1 + i2)
 have hl2 : (l.drop (i1 + i2)).length = l.length - (i1 + i2) := List.length_drop
 obtain ⟨a1, rfl⟩ := Int.eq_ofNat_of_zero_le g1.1
 obtain ⟨a2, rfl⟩ := Int.eq_ofNat_of_zero_le g2.1
 simp only [Int.toNat_natCast]
 have hi12 : i1 + i2 ≤ l.length := by omega
 have hlen8 : l.length ≤ 100000000 := by omega
 have hi1 : i1 ≤ l.length := by omega
 have hws : IntKind.u64.wrap (was.size : Int) = (was.size : Int) := u64_small _ (by omega)
 have hwl : IntKind.u64.wrap ((l.drop (i1 + i2)).length : Int) = ((l.length - (i1 + i2) : Nat) : Int) := by rw [hl2]; exact u64_small _ (by omega)
 rw [hws, hwl]
 clear hws hwl
 by_cases c1 : n3 = 0
 ·subst c1
  rw [if_pos rfl]
  by_cases c2 : (a1 : Int) > (was.size : Int)
  ·have hd : decide ((a1 : Int) > (was.size : Int)) = true := by simpa using c2
   rw [hd, take_j0_true]
   by_cases c3 : ((0 : Int) == 0 && m3 == 0) = false
   ·rw [if_pos c3]; exact ⟨_, rfl, rfl⟩
   ·rw [if_neg c3, if_pos c2]; exact ⟨_, rfl, rfl⟩
  ·have hd : decide ((a1 : Int) > (was.size : Int)) = false := by simpa using c2
   have q1 : (0 : Int) ≤ (i1 : Int) := Int.natCast_nonneg _
   have q2 : (i1 : Int) ≤ (l.length : Int) := Int.ofNat_le.2 hi1
   have hw := tk_w1 i1 i2 _ hi12 hlen8
   have hw2 := tk_w2 l.length (i1 + i2) hi12 hlen8
   rw [hd, r09_take.j0, if_neg (show ¬ (false = true) by simp), if_pos q1, if_pos q2, show ((i1 : Nat) : Int).toNat = i1 from rfl, hg2, Option.bind_some]
   simp only
   rw [hw, hw2]
   by_cases c3 : m3 = 0
   ·subst c3
    rw [if_pos rfl, if_neg (show ¬ (((0 : Int) == 0 && (0 : Int) == 0) = false) by simp), if_neg c2]
    by_cases c4 : (a2 : Int) > ((l.length - (i1 + i2) : Nat) : Int)
    ·have hd4 : decide ((a2 : Int) > ((l.length - (i1 + i2) : Nat) : Int)) = true := by simpa using c4
     rw [hd4, take_j1_true, if_pos c4]
     exact ⟨_, rfl, rfl⟩
    ·have hd4 : decide ((a2 : Int) > ((l.length - (i1 + i2) : Nat) : Int)) = false := by simpa using c4
     have z1 : (0 : Int) ≤ (a1 : Int) := Int.natCast_nonneg _
     have z2 : (a1 : Int) ≤ (was.size : Int) := Int.not_lt.1 c2
     have z3 : (0 : Int) ≤ (a2 : Int) := Int.natCast_nonneg _
     have z4 : (a2 : Int) ≤ ((l.length - (i1 + i2) : Nat) : Int) := Int.not_lt.1 c4
     have hm := Int.ofNat_le.1 z4
     have hn := tk_sub _ _ _ hi12 hm
     have hh := tk_head was a1 (Int.ofNat_le.1 z2)
     have ht := tk_str (l.drop (i1 + i2)) hb2 a2 (by rw [hl2]; exact hm)
     have hb3 := bytes_drop hb2 a2
     have hd3 : (l.drop (i1 + i2)).drop a2 = l.drop (i1 + i2 + a2) := List.drop_drop
     have hcut : (l.take (i1 + i2 + a2)).drop (i1 + i2) = (l.drop (i1 + i2)).take a2 := by rw [List.drop_take, Nat.add_sub_cancel_left]
     have hl3 : (l.drop (i1 + i2 + a2)).length = l.length - (i1 + i2 + a2) := List.length_drop
     rw [hd3] at hb3
     have hg3 := NumLib.ref_get_f _ hb3 (by rw [hl3]; exact Nat.lt_of_le_of_lt (Nat.le_trans (Nat.sub_le _ _) hlen8) (by decide)) k (Nat.lt_of_lt_of_le (by decide) (Nat.le_of_lt hk))
     have hw3 := tk_w3 a2 _ (Nat.le_trans (Nat.le_add_left a2 (i1 + i2)) hn) hlen8
     have hw4 := tk_w1 (i1 + i2) a2 _ hn hlen8
     have z5 : (was.extract 0 a1).size + (strOfNums ((l.drop (i1 + i2)).take a2)).size ≤ 9223372036854775807 := by
      rw [hh, ht]
      exact tk_sum _ _ _ _ h (Int.ofNat_le.1 z2) (Nat.le_trans hm (Nat.sub_le _ _))
     have y1 : (0 : Int) ≤ ((i1 + i2 : Nat) : Int) := Int.natCast_nonneg _
     have y2 : ((i1 + i2 : Nat) : Int) ≤ ((i1 + i2 + a2 : Nat) : Int) := Int.ofNat_le.2 (Nat.le_add_right _ _)
     have y3 : ((i1 + i2 + a2 : Nat) : Int) ≤ (l.length : Int) := Int.ofNat_le.2 hn
     have y4 : (0 : Int) ≤ ((i1 + i2 + a2 : Nat) : Int) := Int.natCast_nonneg _
     rw [hd4, if_neg c4, if_pos ⟨z1, z2, z3, by rw [hl2]; exact z4, z5⟩, r09_take.j1, if_neg (show ¬ (false = true) by simp), if_pos z1, if_pos z2, if_pos y1, hw3, hw4, if_pos y2, if_pos y3, show ((i1 + i2 + a2 : Nat) : Int).toNat = i1 + i2 + a2 from rfl, show ((i1 + i2 : Nat) : Int).toNat = i1 + i2 from rfl, show ((a1 : Nat) : Int).toNat = a1 from rfl, hcut, if_pos z5, if_pos y4, hd3, hg3, NumLib.get_f _ hb3, Option.bind_some, Option.bind_some]
     rcases h3 : get (l.drop (i1 + i2 + a2)) with ⟨p1, p2, p3⟩
     simp only
     have g3 := get_bounds _ hb3 p1 p2 p3 h3
     clear h3 hg3 hg2
     rw [hl3] at g3
     obtain ⟨i3, rfl⟩ := Int.eq_ofNat_of_zero_le g3.2.2.1
     refine ⟨_, rfl, ?_⟩
     unfold takeS
     by_cases c5 : p3 = 0
     ·subst c5
      have h3 := tk_i3 l.length (i1 + i2 + a2) i3 g3.2.2.2.1 hn
      have hw5 := tk_w1 (i1 + i2 + a2) i3 _ h3.1 hlen8
      have hl4 : ((l.drop (i1 + i2 + a2)).drop i3).length = l.length - (i1 + i2 + a2 + i3) := by rw [List.drop_drop, List.length_drop]
      have hn := h3.2
      simp only [Int.toNat_natCast]
      rw [if_pos trivial, hw5, hl4, hn]
      rfl
     ·have hf : (p3 == 0) = false := by simpa using c5
      simp only [hf]
      rw [if_neg c5]
      rfl
   ·have hm3 : (m3 == 0) = false := by simpa using c3
    rw [if_neg c3, take_j1_true, if_pos (by rw [hm3]; rfl)]
    exact ⟨_, rfl, rfl⟩
 ·have hn3 : (n3 == 0) = false := by simpa using c1
  rw [if_neg c1, take_j0_true, if_pos (by rw [hn3]; rfl)]
  exact ⟨_, rfl, rfl⟩
theorem wr1 (i : Nat) (h : i ≤ 100000000) : wrap64 ((i : Int) + 1) = ((i + 1 : Nat) : Int) := by unfold wrap64; omega
theorem l1_stop (b : List Int) (R : List (List Int)) (m : Int) (acc : List S36) (i n o c : Nat) (was : ByteArray) (k : Nat) (hi : i ≤ 100000000) (hn : n ≤ 100000000) (h : ¬ c < n) :
  r09_Decode.l1 (k + 1) b R m acc (i : Int) (n : Int) (o : Int) was (c : Int) = r09_Decode.l0 k b R m acc ((i + 1 : Nat) : Int) := by
 rw [r09_Decode.l1, tk_w3 n n (Nat.le_refl _) hn, if_neg (show ¬ (c : Int) < (n : Int) by omega), wr1 i hi]
theorem l1_step (b : List Int) (R : List (List Int)) (m : Int) (acc : List S36) (i n o c : Nat) (was : ByteArray) (k : Nat) (hi : i < R.length) (hn : n ≤ 100000000) (h : c < n) (ho : o ≤ R[i].length) (hacc : acc.length ≤ 1000000) (hp : Bytes R[i]) (hs : was.size + R[i].length ≤ 1000000) (hk : 40 < k) :
  ∃ r, run_entry.f was (R[i].drop o) = some r ∧ r09_Decode.l1 (k + 1 + 1 + 1) b R m acc (i : Int) (n : Int) (o : Int) was (c : Int) =
   (if (takeS (R[i].drop o) r).2.2 = 0 then some ([], 2) else r09_Decode.l1 (k + 1 + 1) b R m (acc ++ [⟨(takeS (R[i].drop o) r).1, (takeS (R[i].drop o) r).2.1⟩]) (i : Int) (n : Int) (wrap64 ((o : Int) + (takeS (R[i].drop o) r).2.2)) (takeS (R[i].drop o) r).1 ((c + 1 : Nat) : Int)) := by
 have hl : (R[i].drop o).length ≤ R[i].length := by rw [List.length_drop]; exact Nat.sub_le _ _
 obtain ⟨r, hr, ht⟩ := take_eq was (R[i].drop o) (bytes_drop hp _) (by omega) k (by omega)
 refine ⟨r, hr, ?_⟩
 have q1 : (c : Int) < (n : Int) := by omega
 have q2 : (0 : Int) ≤ (i : Int) := by omega
 have q3 : (i : Int) < (R.length : Int) := by omega
 have q4 : (0 : Int) ≤ (o : Int) := by omega
 have q5 : (o : Int) ≤ (R[i].length : Int) := by omega
 have q6 : acc.length < 5864062014805 := by omega
 rw [r09_Decode.l1, tk_w3 n n (Nat.le_refl _) hn, if_pos q1, if_pos q2, if_pos q3, if_pos q4, rdL_eq R i hi, if_pos q5, Int.toNat_natCast, ht, Option.bind_some, if_pos q6, wr1 c (by omega)]
theorem takeS_ok (l : List Int) (r : ByteArray × Int × List Int × Bool) (h : r.2.2.2 = true) : takeS l r = (r.1, r.2.1, ((l.length - r.2.2.1.length : Nat) : Int)) := by unfold takeS; rw [if_pos h]
theorem takeS_bad (l : List Int) (r : ByteArray × Int × List Int × Bool) (h : r.2.2.2 = false) : takeS l r = (⟨#[]⟩, 0, 0) := by unfold takeS; rw [h, if_neg (by simp)]
theorem l1_arith (P o e t w s : Nat) (ho : o ≤ P) (h1 : e + t ≤ w + (P - o)) (h2 : t + 3 ≤ P - o) (h : w + (P - o) ≤ s) : o + (P - o - t) ≤ P ∧ e + (P - (o + (P - o - t))) ≤ s ∧ P - o - t ≠ 0 ∧ (P - (o + (P - o - t))) + 3 ≤ P - o := by omega
theorem l1_total (b : List Int) (R : List (List Int)) (m : Int) (i : Nat) (hi : i < R.length) (hR : R.length ≤ 1000000) (n : Nat) (hn : n ≤ 255) (hp : Bytes R[i]) (hpl : R[i].length ≤ 100000) : ∀ (d k c o : Nat) (was : ByteArray) (acc : List S36), c + d = n → d + 50 < k → o ≤ R[i].length → was.size + (R[i].length - o) ≤ 100000 → acc.length + d ≤ 1000000 →
  r09_Decode.l1 k b R m acc (i : Int) (n : Int) (o : Int) was (c : Int) = some ([], 2) ∨ ∃ (k' : Nat) (es : List S36), k ≤ k' + d + 1 ∧ 3 * es.length ≤ R[i].length - o ∧ r09_Decode.l1 k b R m acc (i : Int) (n : Int) (o : Int) was (c : Int) = r09_Decode.l0 k' b R m (acc ++ es) ((i + 1 : Nat) : Int)
 | 0, k, c, o, was, acc, hc, hk, ho, hs, ha => by
  obtain ⟨k, rfl⟩ : ∃ m, k = m + 1 := ⟨k - 1, by omega⟩
  refine .inr ⟨k, [], by omega, by simp, ?_⟩
  rw [List.append_nil]
  exact l1_stop b R m acc i n o c was k (by omega) (by omega) (by omega)
 | d + 1, k, c, o, was, acc, hc, hk, ho, hs, ha => by
  obtain ⟨k, rfl⟩ : ∃ m, k = m + 1 + 1 + 1 := ⟨k - 3, by omega⟩
  obtain ⟨r, hr, hst⟩ := l1_step b R m acc i n o c was k hi (by omega) (by omega) ho (by omega) hp (by omega) (by omega)
  have hld : (R[i].drop o).length = R[i].length - o := List.length_drop
  obtain ⟨r', hr', h3⟩ := entry_total was (R[i].drop o) (bytes_drop hp _) (by omega)
  obtain rfl : r = r' := Option.some.inj (hr.symm.trans hr')
  rw [hst]
  cases hq : r.2.2.2 with
  | false =>
   rw [takeS_bad _ r hq, if_pos rfl]
   exact .inl rfl
  | true =>
   obtain ⟨g1, g2, g3⟩ := h3 hq
   rw [takeS_ok _ r hq, hld]
   rw [hld] at g1 g2
   simp only
   generalize r.2.2.1.length = t at g1 g2 ⊢
   obtain ⟨a1, a2, a3, a4⟩ := l1_arith R[i].length o r.1.size t was.size 100000 ho g1 g2 hs
   have hz : ¬ ((R[i].length - o - t : Nat) : Int) = 0 := by omega
   rw [if_neg hz, tk_w1 o _ _ a1 (by omega)]
   rcases l1_total b R m i hi hR n hn hp hpl d (k + 1 + 1) (c + 1) (o + (R[i].length - o - t)) r.1 (acc ++ [⟨r.1, r.2.1⟩]) (by omega) (by omega) a1 a2 (by rw [List.length_append, List.length_singleton]; omega) with h | ⟨k', es, h1, h2, h⟩
   ·exact .inl h
   ·refine .inr ⟨k', ⟨r.1, r.2.1⟩ :: es, by omega, by rw [List.length_cons]; omega, ?_⟩
    rw [h, List.append_assoc]
    rfl
theorem l1_exact (b : List Int) (R : List (List Int)) (m : Int) (i : Nat) (hi : i < R.length) (hR : R.length ≤ 1000000) (n : Nat) (hn : n ≤ 255) (hp : Bytes R[i]) (hpl : R[i].length ≤ 100000) : ∀ (es : List S36) (k c o : Nat) (was : ByteArray) (acc : List S36), c + es.length = n → es.length + 50 < k → o ≤ R[i].length → was.size ≤ 255 → acc.length + es.length ≤ 1000000 → (∀ x ∈ es, fineS x) → R[i].drop o = entsB (bytesOf was) es →
  ∃ (k' : Nat), k ≤ k' + es.length + 1 ∧ r09_Decode.l1 k b R m acc (i : Int) (n : Int) (o : Int) was (c : Int) = r09_Decode.l0 k' b R m (acc ++ es) ((i + 1 : Nat) : Int)
 | [], k, c, o, was, acc, hc, hk, ho, hs, ha, hf, he => by
  obtain ⟨k, rfl⟩ : ∃ m, k = m + 1 := ⟨k - 1, by omega⟩
  rw [List.length_nil] at hc
  refine ⟨k, by omega, ?_⟩
  rw [List.append_nil]
  exact l1_stop b R m acc i n o c was k (by omega) (by omega) (by omega)
 | x :: es, k, c, o, was, acc, hc, hk, ho, hs, ha, hf, he => by
  rw [List.length_cons] at hc hk ha
  obtain ⟨k, rfl⟩ : ∃ m, k = m + 1 + 1 + 1 := ⟨k - 3, by omega⟩
  obtain ⟨r, hr, hst⟩ := l1_step b R m acc i n o c was k hi (by omega) (by omega) ho (by omega) hp (by omega) (by omega)
  have hx := hf x List.mem_cons_self
  have hf' : ∀ y ∈ es, fineS y := fun y hy => hf y (List.mem_cons_of_mem _ hy)
  have hld : (R[i].drop o).length = R[i].length - o := List.length_drop
  rw [entsB] at he
  have hbr := entsB_bytes es (wd x) hf'
  have hlen := congrArg List.length he
  rw [List.length_append, hld] at hlen
  rw [he, entry_f was x hx _ hbr (by omega) hs] at hr
  obtain rfl := Option.some.inj hr
  have hent : 1 ≤ (entB (bytesOf was) x).length := by
   unfold entB
   have := putn_len x.f1 (by have := hx.2.2; omega) (by have := hx.2.2; omega)
   rw [List.length_append]
   omega
  rw [hst, takeS_ok _ _ rfl, hld]
  simp only
  have hlt : R[i].length - o - (entsB (wd x) es).length = (entB (bytesOf was) x).length := by omega
  rw [hlt]
  generalize he1 : (entB (bytesOf was) x).length = t at hlen hlt hent ⊢
  have a1 : o + t ≤ R[i].length := by omega
  have hz : ¬ ((t : Nat) : Int) = 0 := by omega
  rw [if_neg hz, tk_w1 o _ _ a1 (by omega)]
  have hd : R[i].drop (o + t) = entsB (wd x) es := by rw [← List.drop_drop, he, ← he1, List.drop_left]
  obtain ⟨k', h1, h⟩ := l1_exact b R m i hi hR n hn hp hpl es (k + 1 + 1) (c + 1) (o + t) x.f0 (acc ++ [⟨x.f0, x.f1⟩]) (by omega) (by omega) a1 hx.2.1 (by rw [List.length_append, List.length_singleton]; omega) hf' hd
  refine ⟨k', by rw [List.length_cons]; omega, ?_⟩
  rw [h, List.append_assoc]
  rfl
theorem wl1 (r : Nat) (h2 : 2 ≤ r) (h : r ≤ 1000000) : wrap64 ((r : Int) - 1) = ((r - 1 : Nat) : Int) := by unfold wrap64; omega
theorem ref_dec_end (k : Nat) (b : List Int) (hb : Bytes b) (n : Int) (acc : List S36) (R : List (List Int)) (h2 : 2 ≤ R.length) (hR : R.length ≤ 1000000) (hk : 1100000 < k) (hacc : acc.length ≤ 30000) (i : Nat) (hi : ¬ i < R.length - 1) :
  r09_Decode.l0 (k + 1) b R n acc (i : Int) = some (endS acc (wrap64 n) b) := by
 have q1 : ¬ (i : Int) < ((R.length - 1 : Nat) : Int) := by omega
 rw [r09_Decode.l0, wl1 _ h2 hR, if_neg q1, ref_enc_f k acc _ hacc hk, Option.bind_some]
 have hB := encS_bytes acc (wrap64 n) (Nat.le_trans hacc (by decide))
 unfold endS
 by_cases h : (encS acc (wrap64 n)).2 = 0
 ·rw [if_pos h, if_pos h]
  by_cases h3 : (encS acc (wrap64 n)).1 = b
  ·rw [if_pos h3, if_pos ((str_inj hB hb).2 h3)]
  ·rw [if_neg h3, if_neg (fun e => h3 ((str_inj hB hb).1 e))]
 ·rw [if_neg h, if_neg h]
theorem ref_l0_step (k : Nat) (b : List Int) (n : Int) (acc : List S36) (R : List (List Int)) (h2 : 2 ≤ R.length) (hR : R.length ≤ 1000000) (hk : 20 < k) (i : Nat) (hi : i < R.length - 1) (hlt : i < R.length) (hp : Bytes R[i]) (hpl : R[i].length ≤ 1000000) :
  r09_Decode.l0 (k + 1 + 1) b R n acc (i : Int) = (if (get R[i]).2.2 = 0 ∧ ¬ (get R[i]).1 > 255 then r09_Decode.l1 k b R n acc (i : Int) (get R[i]).1 (get R[i]).2.1 ⟨#[]⟩ 0 else some ([], 2)) := by
 have q1 : (i : Int) < ((R.length - 1 : Nat) : Int) := by omega
 have q2 : (0 : Int) ≤ (i : Int) := by omega
 have q3 : (i : Int) < (R.length : Int) := by omega
 rw [r09_Decode.l0, wl1 _ h2 hR, if_pos q1, if_pos q2, if_pos q3, rdL_eq R i hlt, NumLib.ref_get_f _ hp (by omega) (k + 1) (by omega), Option.bind_some]
 rcases get R[i] with ⟨n1, n2, n3⟩
 simp only
 by_cases c1 : n3 = 0
 ·rw [if_pos c1]
  by_cases c2 : n1 > 255
  ·rw [if_neg (fun h => h.2 c2), decide_eq_true c2, r09_Decode.j2, if_pos rfl]
  ·rw [if_pos ⟨c1, c2⟩, decide_eq_false c2, r09_Decode.j2, if_neg (by simp)]
 ·rw [if_neg c1, if_neg (fun h => c1 h.1), r09_Decode.j2, if_pos rfl]
theorem ref_l0_total (b : List Int) (hb : Bytes b) (n : Int) (R : List (List Int)) (hRb : ∀ p ∈ R, Bytes p) (h2 : 2 ≤ R.length) (hR : R.length ≤ 1000000) (hbl : b.length ≤ 30000) (d : Nat) : ∀ (k i : Nat) (acc : List S36), 300 * d + 1200000 < k → i + d = R.length - 1 → 3 * acc.length + sumLen (R.drop i) ≤ b.length →
  ∃ r, r09_Decode.l0 k b R n acc (i : Int) = some r ∧ (r = ([], 2) ∨ ∃ x, x.length ≤ b.length ∧ r = endS x (wrap64 n) b) := by
 induction d with
 | zero =>
  intro k i acc hk hi hs
  obtain ⟨k, rfl⟩ : ∃ m, k = m + 1 := ⟨k - 1, by omega⟩
  exact ⟨_, ref_dec_end k b hb n acc R h2 hR (by omega) (by omega) i (by omega), .inr ⟨acc, by omega, rfl⟩⟩
 | succ d ih =>
  intro k i acc hk hi hs
  obtain ⟨k, rfl⟩ : ∃ m, k = m + 1 + 1 := ⟨k - 2, by omega⟩
  have hlt : i < R.length := by omega
  rw [sumLen_drop R i hlt] at hs
  have hp := hRb _ (List.getElem_mem hlt)
  rw [ref_l0_step k b n acc R h2 hR (by omega) i (by omega) hlt hp (by omega)]
  rcases hg : get R[i] with ⟨n1, n2, n3⟩
  have g1 := get_bounds _ hp n1 n2 n3 hg
  clear hg
  simp only
  by_cases c : n3 = 0 ∧ ¬ n1 > 255
  ·rw [if_pos c]
   obtain ⟨a, rfl⟩ := Int.eq_ofNat_of_zero_le g1.1
   obtain ⟨o, rfl⟩ := Int.eq_ofNat_of_zero_le g1.2.2.1
   have ha : a ≤ 255 := by have := c.2; omega
   have ho : o ≤ R[i].length := by omega
   have hz : (⟨#[]⟩ : ByteArray).size = 0 := rfl
   rcases l1_total b R n i hlt hR a ha hp (by omega) a k 0 o ⟨#[]⟩ acc (Nat.zero_add a) (by omega) ho (by rw [hz]; omega) (by omega) with h | ⟨k', es, e1, e2, h⟩
   ·exact ⟨_, h, .inl rfl⟩
   ·rw [show ((0 : Nat) : Int) = (0 : Int) from rfl] at h
    rw [h]
    exact ih k' (i + 1) (acc ++ es) (by omega) (by omega) (by rw [List.length_append]; omega)
  ·rw [if_neg c]
   exact ⟨_, rfl, .inl rfl⟩
theorem ref_l0_chunks (b : List Int) (hb : Bytes b) (n : Int) (R : List (List Int)) (h2 : 2 ≤ R.length) (hR : R.length ≤ 1000000) (z : List Int) : ∀ (cs : List (List S36)) (k i : Nat) (acc : List S36), (∀ c ∈ cs, (∀ x ∈ c, fineS x) ∧ c.length ≤ 255) → 300 * cs.length + 1200000 < k → i < R.length → R.drop i = cs.map blockB ++ [z] → acc.length + cs.flatten.length ≤ 30000 →
  r09_Decode.l0 k b R n acc (i : Int) = some (endS (acc ++ cs.flatten) (wrap64 n) b)
 | [], k, i, acc, _, hk, hi, hy, ha => by
  obtain ⟨k, rfl⟩ : ∃ m, k = m + 1 := ⟨k - 1, by omega⟩
  have hlen := congrArg List.length hy
  rw [List.length_drop, List.map_nil, List.nil_append, List.length_singleton] at hlen
  rw [List.flatten_nil] at ha ⊢
  rw [List.append_nil]
  rw [List.length_nil] at ha
  exact ref_dec_end k b hb n acc R h2 hR (by omega) (by omega) i (by omega)
 | c :: cs, k, i, acc, hc, hk, hi, hy, ha => by
  obtain ⟨k, rfl⟩ : ∃ m, k = m + 1 + 1 := ⟨k - 2, by omega⟩
  have hlen := congrArg List.length hy
  rw [List.length_drop, List.map_cons, List.length_append, List.length_cons, List.length_map, List.length_singleton] at hlen
  rw [List.drop_eq_getElem_cons hi, List.map_cons, List.cons_append] at hy
  injection hy with hy1 hy2
  rw [List.length_cons] at hk
  rw [List.flatten_cons, List.length_append] at ha
  have hc0 := hc c List.mem_cons_self
  have hbb := blockB_bytes hc0.1 (Nat.le_trans hc0.2 (by decide))
  have hbl := blockB_len hc0.1 (Nat.le_trans hc0.2 (by decide))
  have hp : Bytes R[i] := by rw [hy1]; exact hbb
  have hpl : R[i].length ≤ 100000 := by
   rw [hy1]
   refine Nat.le_trans hbl ?_
   have := hc0.2
   generalize c.length = q at this ⊢
   omega
  have hgp : get R[i] = ((c.length : Int), ((putn (c.length : Int)).length : Int), 0) := by
   rw [hy1]
   unfold blockB
   rw [get_put _ (by have := hc0.2; omega) (by have := hc0.2; omega)]
  have hdr : R[i].drop (putn (c.length : Int)).length = entsB (bytesOf ⟨#[]⟩) c := by
   rw [hy1]
   unfold blockB
   rw [List.drop_left]
   rfl
  have hpo : (putn (c.length : Int)).length ≤ R[i].length := by
   rw [hy1]
   unfold blockB
   rw [List.length_append]
   exact Nat.le_add_right _ _
  have hpos : i < R.length - 1 := by omega
  rw [ref_l0_step k b n acc R h2 hR (by omega) i hpos hi hp (Nat.le_trans hpl (by decide)), hgp]
  simp only
  have hn : ¬ ((c.length : Nat) : Int) > 255 := by have := hc0.2; omega
  rw [if_pos ⟨trivial, hn⟩]
  generalize (putn (c.length : Int)).length = o at hdr hpo ⊢
  obtain ⟨k', e1, h⟩ := l1_exact b R n i hi hR c.length hc0.2 hp hpl c k 0 o ⟨#[]⟩ acc (Nat.zero_add _) (by have := hc0.2; omega) hpo (by decide) (by omega) hc0.1 hdr
  rw [show ((0 : Nat) : Int) = (0 : Int) from rfl] at h
  rw [h, ref_l0_chunks b hb n R h2 hR z cs k' (i + 1) (acc ++ c) (fun c' h' => hc c' (List.mem_cons_of_mem _ h')) (by have := hc0.2; omega) (by omega) hy2 (by rw [List.length_append]; omega), List.flatten_cons, List.append_assoc]
theorem ref_dec_total (b : List Int) (hb : Bytes b) (hlen : b.length ≤ 30000) (k : Nat) (hk : 300 * b.length + 1400000 < k) : ∃ r, r09_Decode.f k b = some r ∧ Read b r := by
 have hsl := scanN_len (b.length + 1) b hb
 have hsr := scanN_rows (b.length + 1) b hb
 unfold r09_Decode.f
 rw [ref_scan_f b hb (by omega) k (by omega), Option.bind_some]
 simp only
 generalize (scanN (b.length + 1) b).1 = R at hsl hsr ⊢
 generalize (scanN (b.length + 1) b).2 = q at hsl
 by_cases h2 : (R.length : Int) < 2
 ·rw [if_pos h2]; exact ⟨_, rfl, .inl rfl⟩
 have h0 : 0 < R.length := by omega
 have h0' : (0 : Int) < (R.length : Int) := by omega
 rw [if_neg h2, if_pos h0']
 have hR0 : Bytes R[0] := hsr.1 _ (List.getElem_mem h0)
 have e0 : rd_L4 R 0 = R[0] := rdL_eq R 0 h0
 have hd0 := sumLen_drop R 0 h0
 rw [List.drop_zero] at hd0
 have hd1 : sumLen (R.drop 1) ≤ sumLen R := sumLen_sub (List.drop_sublist _ _)
 rw [e0, NumLib.ref_get_f _ hR0 (by omega) k (by omega), Option.bind_some]
 rcases hg : get R[0] with ⟨n1, n2, n3⟩
 simp only
 have j0 : ∀ q, ∃ r, r09_Decode.j0 k b R n1 q = some r ∧ Read b r := by
  intro q
  obtain ⟨k, rfl⟩ : ∃ m, k = m + 1 := ⟨k - 1, by omega⟩
  rw [r09_Decode.j0]
  cases q with
  | true => rw [if_pos rfl]; exact ⟨_, rfl, .inl rfl⟩
  | false =>
   rw [if_neg (by simp)]
   obtain ⟨r, hr, h3⟩ := ref_l0_total b hb n1 R hsr.1 (by omega) (by omega) hlen (R.length - 2) k 1 [] (by omega) (by omega) (by rw [List.length_nil]; omega)
   refine ⟨r, hr, ?_⟩
   rcases h3 with h3 | ⟨x, hx, h3⟩
   ·exact .inl h3
   ·rw [h3]; exact read_end hx
 by_cases h3 : n3 = 0
 ·rw [if_pos h3]; exact j0 _
 ·rw [if_neg h3]; exact j0 _
theorem endS_enc (l : List S36) (hm : mayS l = 0) (size : Nat) (h1 : 1 ≤ size) (hs : size ≤ 255) : endS l (wrap64 (size : Int)) (encB l size) = (l, 0) := by
 have hw2 : wrap64 (size : Int) = size := by unfold wrap64; omega
 have hn : ¬ ((size : Int) < 1 ∨ (size : Int) > 255) := by omega
 have hE : encS l (size : Int) = (encB l size, 0) := by
  unfold encS
  rw [if_neg hn, if_pos hm, Int.toNat_natCast]
 unfold endS
 rw [hw2, hE, if_pos rfl, if_pos rfl]
theorem ref_dec_fin (l : List S36) (size : Nat) (h1 : 1 ≤ size) (hs : size ≤ 255) (B : List Int) (R : List (List Int)) (P : List Int) (hR2 : 2 ≤ R.length) (hR3 : R.length ≤ 1000000) (e0 : rd_L4 R 0 = P) (hp : Bytes P) (hgp : get P = ((size : Int), (P.length : Int), 0)) (hpl : 1 ≤ P.length ∧ P.length ≤ 10) (k : Nat) (hk : 300 * l.length + 1400000 < k)
  (hch : ∀ k', 300 * l.length + 1399990 < k' → r09_Decode.l0 k' B R (size : Int) [] 1 = some (l, 0)) :
  (if (R.length : Int) < 2 then (some (([] : List (S36)), 2)) else (if 0 < (R.length : Int) then ((r01_Get.f k (rd_L4 R 0)).bind fun bt367 => (if bt367.2.2 = 0 then (r09_Decode.j0 k B R bt367.1 (decide (bt367.1 > 255))) else (r09_Decode.j0 k B R bt367.1 true))) else (none))) = some (l, 0) := by
 have h3 : ¬ ((R.length : Nat) : Int) < 2 := by omega
 have h0' : (0 : Int) < (R.length : Int) := by omega
 have hde : decide ((size : Int) > 255) = false := decide_eq_false (by omega)
 rw [if_neg h3, if_pos h0', e0, NumLib.ref_get_f _ hp (by omega) k (by omega), hgp, Option.bind_some]
 simp only
 obtain ⟨k, rfl⟩ : ∃ m, k = m + 1 := ⟨k - 1, by omega⟩
 rw [if_pos trivial, hde, r09_Decode.j0, if_neg (show ¬ (false = true) by simp)]
 exact hch k (by omega)
theorem ref_dec_enc (l : List S36) (hm : mayS l = 0) (hl : l.length ≤ 30000) (size : Nat) (h1 : 1 ≤ size) (hs : size ≤ 255) (hbl : (encB l size).length ≤ 100000) (k : Nat) (hk : 300 * l.length + 1400000 < k) : r09_Decode.f k (encB l size) = some (l, 0) := by
 have hf := (mayS_zero hm).1
 have hok := encR_ok l hf (by omega) size hs h1
 have hb : Bytes (encB l size) := recs_bytes _ hok
 have hsc := scan_recs _ hok
 have hcn := chunks_count size h1 l.length l (Nat.le_refl _)
 have hcl : (chunks size l.length l).length ≤ l.length + 255 := by
  rw [hcn]
  exact Nat.le_trans (Nat.div_le_self _ _) (by omega)
 have hj := chunks_join size h1 l.length l (Nat.le_refl _)
 have hcs : ∀ c ∈ chunks size l.length l, (∀ x ∈ c, fineS x) ∧ c.length ≤ 255 := by
  intro c hc
  refine ⟨chunks_fine size _ l hf c hc, ?_⟩
  rcases chunks_mem size _ l c hc with h | h
  ·exact Nat.le_trans h.1 hs
  ·omega
 have hRl : (encR l size).length = (chunks size l.length l).length + 2 := by
  unfold encR
  rw [List.length_append, List.length_cons, List.length_map, List.length_singleton]
 have hR2 : 2 ≤ (encR l size).length := by rw [hRl]; exact Nat.le_add_left 2 _
 have hR3 : (encR l size).length ≤ 1000000 := by rw [hRl]; generalize (chunks size l.length l).length = q at hcl; omega
 have hdrop : (encR l size).drop 1 = (chunks size l.length l).map blockB ++ [putn 0 ++ putn (l.length : Int)] := rfl
 have he := endS_enc l hm size h1 hs
 have e0 : rd_L4 (encR l size) 0 = putn (size : Int) := rfl
 have hp := putn_bytes (size : Int) (by omega) (by omega)
 have hgp := get_put (size : Int) (by omega) (by omega) []
 rw [List.append_nil] at hgp
 have hpl := putn_len (size : Int) (by omega) (by omega)
 unfold r09_Decode.f
 rw [ref_scan_f _ hb hbl k (by omega), Option.bind_some, show scanN ((encB l size).length + 1) (encB l size) = (encR l size, (encB l size).length) from hsc]
 simp only
 exact ref_dec_fin l size h1 hs _ _ _ hR2 hR3 e0 hp hgp hpl k hk (fun k' hk' => by
  have h300 : 300 * (chunks size l.length l).length ≤ 300 * l.length + 76500 := by generalize (chunks size l.length l).length = q at hcl; omega
  have := ref_l0_chunks (encB l size) hb (size : Int) (encR l size) hR2 hR3 (putn 0 ++ putn (l.length : Int)) (chunks size l.length l) k' 1 [] hcs (by generalize (chunks size l.length l).length = q at h300; omega) (by generalize (encR l size).length = q at hR2; omega) hdrop (by rw [hj, List.length_nil]; omega)
  rw [hj, List.nil_append, he] at this
  exact this)
end Go.Proofs.Ytnabhfegbnfabaa.RunLib
end
section
namespace Go.Proofs.Ytnabhfegbnfabaa.RowKd
open Go.RowKit Go.ChangeShapes Go.WideShapes Go.Proofs.YtnabhfegbnfabaaW.PrintWords
structure Tells {α : Type} (P : Program) (t : TypeId) (d : Kd α) (wf : α → Prop) : Prop where
 cells : P.cellsOf t = d.sz
 down : ∀ {H : Type} {enc : TypeId × Value → H} {w : World} {base : Nat} {held : Bool} {fuel : Nat} {cs : List Value} {x : DataW H × List MemPlace},
  DataW.trod enc P w base (fun _ => true) held fuel t cs = some x → ∃ y, d.K w y cs ∧ wf y
theorem tells_int {P : Program} {t : TypeId} {k : IntKind} (ht : P.underlying t = some (.int k)) (hc : P.cellsOf t = 1) : Tells P t (Kd.int k) (fun n => (Lit.int k n).wf = true) := by
 refine ⟨hc, fun h => ?_⟩
 obtain ⟨n, rfl, _, hw⟩ := DataW.trod_int ht h
 exact ⟨n, rfl, hw⟩
theorem tells_slice {α : Type} {P : Program} {t e : TypeId} {d : Kd α} {wf : α → Prop} (ht : P.underlying t = some (.slice e)) (hc : P.cellsOf t = 1) (he : Tells P e d wf) :
  Tells P t (Kd.slice e d) (fun xs => xs.length ≤ maxLen ∧ ∀ x ∈ xs, wf x) := by
 refine ⟨hc, @fun H enc w base held fuel cs x h => ?_⟩
 rcases Go.Deep.open_slice ht h with ⟨rfl, _⟩ | ⟨a, len, cap, m, n, D, Pl, rfl, hb, hl, hm, hmm, _, hx⟩
 ·exact ⟨[], ⟨none, 0, rfl, Nat.le_refl _, rfl, by simp, fun h => absurd h (Nat.lt_irrefl _)⟩, by simp, by simp⟩
 ·have hlm : len ≤ m := by rw [hmm]; simp only [if_true]; exact hl
  have one : ∀ i, i < len → ∃ y : Option α, ∃ z, y = some z ∧ (∃ c, c.length = d.sz ∧ d.K w z c ∧ ∀ j u, c[j]? = some u → w.cell? (a.add (i * d.sz + j)) = some u) ∧ wf z := by
   intro i hi
   obtain ⟨cs', h1, h2⟩ := hx i (Nat.lt_of_lt_of_le hi hlm)
   obtain ⟨z, hK, hw⟩ := he.down h2
   obtain ⟨_, hlen, hcell⟩ := World.cells?_some h1
   rw [he.cells] at hlen hcell
   refine ⟨some z, z, rfl, ⟨cs', hlen, hK, fun j u hj => ?_⟩, hw⟩
   have hj' : j < d.sz := by rw [← hlen]; exact (List.getElem?_eq_some_iff.1 hj).1
   rw [← Go.Deep.add_add, ← hj]
   exact hcell j hj'
  obtain ⟨f, hf⟩ := Go.Deep.choose_lt (α := Option α) one
  have key : ∃ xs : List α, xs.length = len ∧ ∀ i z, xs[i]? = some z → (∃ c, c.length = d.sz ∧ d.K w z c ∧ ∀ j u, c[j]? = some u → w.cell? (a.add (i * d.sz + j)) = some u) ∧ wf z := by
   refine ⟨(List.range len).pmap (fun i (hi : i < len) => (f i).get (by obtain ⟨z, hz, _⟩ := hf i hi; rw [hz]; rfl)) (fun i hi => List.mem_range.1 hi), by simp, fun i z hz => ?_⟩
   obtain ⟨hi, hz⟩ := List.getElem?_eq_some_iff.1 hz
   simp only [List.length_pmap, List.length_range] at hi
   obtain ⟨z', hz', h1, h2⟩ := hf i hi
   simp only [List.getElem_pmap, List.getElem_range, hz', Option.get_some] at hz
   subst hz
   exact ⟨h1, h2⟩
  obtain ⟨xs, hxl, hxs⟩ := key
  refine ⟨xs, ⟨some a, cap, by rw [hxl], by rw [hxl]; exact hl, rfl, ?_, fun _ => ⟨a, rfl, fun j p hj => (hxs j p hj).1⟩⟩, ?_, fun x hx => ?_⟩
  ·rw [hxl]; simp only [maxLen] at hm; omega
  ·rw [hxl]; exact Nat.le_trans hl hm
  ·obtain ⟨i, hi, rfl⟩ := List.getElem_of_mem hx
   exact (hxs i _ (List.getElem?_eq_getElem hi)).2
theorem tells_arg {α : Type} {H : Type} {enc : TypeId × Value → H} {P : Program} {t e : TypeId} {d : Kd α} {wf : List α → Prop} {w : World} {base : Nat} {held : Bool} {a : Option Addr} {len cap : Nat} {x : DataW H} {ps : List MemPlace}
  (h : Tells P t (Kd.slice e d) wf) (hd : DataW.Trod enc P w base (fun _ => true) held t (.slice a len cap) x ps) :
  ∃ xs : List α, len = xs.length ∧ xs.length ≤ cap ∧ d.C w a xs.length xs ∧ wf xs := by
 obtain ⟨fuel, hf⟩ := hd
 obtain ⟨xs, ⟨A, c, hcs, hl, hC⟩, hw⟩ := h.down hf
 simp [Value.cells] at hcs
 obtain ⟨rfl, rfl, rfl⟩ := hcs
 exact ⟨xs, rfl, hl, hC, hw⟩
end Go.Proofs.Ytnabhfegbnfabaa.RowKd
end
section
namespace Go.Proofs.Ytnabhfegbnfabaa.RowKd
open Go.RowKit Go.ChangeShapes Go.WideShapes Go.Proofs.YtnabhfegbnfabaaW.PrintWords Go.Proofs.Ytnabhfegbnfabaa.PRd
end Go.Proofs.Ytnabhfegbnfabaa.RowKd
end
section
namespace Go.Proofs.Ytnabhfegbnfabaa.RunLib
open Go.RowKit Go.Proofs.Ytnabhfegbnfabaa.PRd Go.Proofs.YtnabhfegbnfabaaW.PrintWords Go.Proofs.YtnabhfegbnfabaaW.PrintLast Go.Proofs.YtnabhfegbnfabaaW.PrintMore Go.Proofs.Ytnabhfegbnfabaa.NumLib Go.Proofs.Ytnabhfegbnfabaa.FrameLib
set_option linter.unusedVariables false
set_option linter.unusedSimpArgs false
theorem encS_ok (l : List S36) (hm : mayS l = 0) (n : Nat) (h1 : 1 ≤ n) (h2 : n ≤ 255) : encS l (n : Int) = (encB l n, 0) := by
 have hn : ¬ ((n : Int) < 1 ∨ (n : Int) > 255) := by omega
 unfold encS
 rw [if_neg hn, if_pos hm, Int.toNat_natCast]
theorem dec_both (b : List Int) (hb : Bytes b) (hl : b.length ≤ 20000) : ∃ r : List S36 × Int, (∀ k, 10000000 < k → run_Decode.f k b = some r) ∧ (∀ k, 10000000 < k → r09_Decode.f k b = some r) ∧ r.1.length ≤ 20000 := by
 obtain ⟨r1, e1, h1⟩ := dec_total b hb (by omega) 10000001 (by omega)
 obtain ⟨r2, e2, h2⟩ := ref_dec_total b hb (by omega) 10000001 (by omega)
 rcases h1 with rfl | ⟨x, n, rfl, n1, n2, hm, hx, he⟩
 ·rcases h2 with rfl | ⟨x, n, rfl, n1, n2, hm, hx, he⟩
  ·exact ⟨_, fun k hk => at_rounds (run_Decode.mono b) (by omega) e1, fun k hk => at_rounds (r09_Decode.mono b) (by omega) e2, Nat.zero_le _⟩
  ·have := dec_enc x hm (by omega) n n1 n2 10000001 (by rw [he]; omega)
   rw [he] at this
   exact ⟨_, fun k hk => at_rounds (run_Decode.mono b) (by omega) this, fun k hk => at_rounds (r09_Decode.mono b) (by omega) e2, by simp only; omega⟩
 ·have := ref_dec_enc x hm (by omega) n n1 n2 (by rw [he]; omega) 10000001 (by omega)
  rw [he] at this
  exact ⟨_, fun k hk => at_rounds (run_Decode.mono b) (by omega) e1, fun k hk => at_rounds (r09_Decode.mono b) (by omega) this, by simp only; omega⟩
theorem one_may : mayS [exOne] = 0 := by decide +kernel
theorem shown_f (k : Nat) (hk : 10000000 < k) : l10_shown.f k = some true := by
 have he : encS [exOne] 1 = (encB [exOne] 1, 0) := encS_ok [exOne] one_may 1 (by omega) (by omega)
 have hbl := encB_len [exOne] (mayS_zero one_may).1 (by simp) 1 (by omega) (by omega)
 rw [List.length_singleton] at hbl
 have hd := dec_enc [exOne] one_may (by simp) 1 (by omega) (by omega) k (by omega)
 unfold l10_shown.f
 rw [enc_f k [exOne] 1 (by simp) (by simp; omega), he, Option.bind_some]
 simp only
 rw [hd, Option.bind_some, if_pos]
 exact ⟨trivial, rfl, rfl, (by decide +kernel : (rhd [exOne]).f0.toList = [97]), rfl⟩
end Go.Proofs.Ytnabhfegbnfabaa.RunLib
end
section
namespace Go.Proofs.Ytnabhfegbnfabaa.Pure
open Go.RowKit Go.Proofs.Ytnabhfegbnfabaa.PRd Go.Proofs.YtnabhfegbnfabaaW.PrintWords Go.Proofs.YtnabhfegbnfabaaW.PrintLast Go.Proofs.YtnabhfegbnfabaaW.PrintMore Go.Proofs.Ytnabhfegbnfabaa.NumLib Go.Proofs.Ytnabhfegbnfabaa.FrameLib Go.Proofs.Ytnabhfegbnfabaa.RunLib
set_option linter.unusedVariables false
set_option linter.unusedSimpArgs false
theorem ReaderNobody (l0 : List Int) (w0 : l0.length ≤ maxLen ∧ ∀ x ∈ l0, (Lit.int .u8 x).wf = true) : ∃ k, l10_ReaderNobody.f k l0 = some true := by
 refine ⟨20000000, ?_⟩
 unfold l10_ReaderNobody.f
 rw [shown_f 20000000 (by omega), Option.bind_some]
 by_cases h : (l0.length : Int) > 20000
 ·rw [if_pos h]
 ·rw [if_neg h]
  obtain ⟨r, h1, _⟩ := dec_both l0 (fun x hx => wf_byte (w0.2 x hx)) (by omega)
  rw [h1 20000000 (by omega), Option.bind_some, if_pos rfl]
end Go.Proofs.Ytnabhfegbnfabaa.Pure
end
