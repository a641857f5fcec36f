/- Plain laws of records, last: all records of bytes, by the program and by the reference. -/
import Derived.Test.YtlodjdghccejcaaFrameGet
namespace Go.Proofs.Ytlodjdghccejcaa.FrameLib
open Go.RowKit Go.Proofs.Ytlodjdghccejcaa.PFj Go.Proofs.YtlodjdghccejcaaW.PrintWords Go.Proofs.YtlodjdghccejcaaW.PrintLast Go.Proofs.Ytlodjdghccejcaa.NumLib

/-- All records with which bytes begin, and how many bytes they are. -/
def scanN : Nat → List Int → List (List Int) × Nat
  | 0, _ => ([], 0)
  | k + 1, l => if (getR l).2.2 = 0 then ((getR l).1 :: (scanN k (l.drop (getR l).2.1.toNat)).1, (getR l).2.1.toNat + (scanN k (l.drop (getR l).2.1.toNat)).2) else ([], 0)
theorem scan_l0 (l : List Int) (hl : Bytes l) (hlen : l.length ≤ 100000000) (d : Nat) : ∀ (k i : Nat) (acc : List (List Int)), d + 10 < k → i ≤ l.length → l.length - i < d → acc.length + d ≤ 1000000000 →
    frame_Scan.l0 k l acc i = some (acc ++ (scanN d (l.drop i)).1, ((i + (scanN d (l.drop i)).2 : Nat) : Int)) := by
  induction d with
  | zero => intro k i acc _ _ h _; omega
  | succ d ih =>
    intro k i acc hk hi hd hacc
    obtain ⟨k, rfl⟩ : ∃ m, k = m + 1 := ⟨k - 1, by omega⟩
    have hb : Bytes (l.drop i) := bytes_drop hl i
    rw [frame_Scan.l0, if_pos (show (0 : Int) ≤ i by omega), if_pos (show (i : Int) ≤ (l.length : Int) by omega), Int.toNat_natCast, get_f k (by omega) _ hb (by rw [List.length_drop]; omega), Option.bind_some, scanN]
    rcases hg : getR (l.drop i) with ⟨p, n, e⟩
    simp only
    by_cases he : e = 0
    · subst he
      obtain ⟨h1, h2, h3, h4, h5, h6⟩ := getR_ok _ hb p n hg
      rw [List.length_drop] at h4
      obtain ⟨m, rfl⟩ := Int.eq_ofNat_of_zero_le (show 0 ≤ n by omega)
      have hw : wrap64 ((i : Int) + (m : Int)) = ((i + m : Nat) : Int) := by unfold wrap64; omega
      have hacc2 : acc.length < 5864062014805 := by omega
      rw [if_pos rfl, if_pos rfl, if_pos hacc2, hw, ih k (i + m) (acc ++ [p]) (by omega) (by omega) (by omega) (by rw [List.length_append, List.length_singleton]; omega), Int.toNat_natCast, List.drop_drop]
      simp only [List.append_assoc, List.singleton_append, Nat.add_assoc]
    · rw [if_neg he, if_neg he]
      simp
theorem scan_f (l : List Int) (hl : Bytes l) (hlen : l.length ≤ 100000000) (k : Nat) (hk : l.length + 20 < k) : frame_Scan.f k l = some ((scanN (l.length + 1) l).1, ((scanN (l.length + 1) l).2 : Int)) := by
  unfold frame_Scan.f
  have := scan_l0 l hl hlen (l.length + 1) k 0 [] (by omega) (by omega) (by omega) (by simp; omega)
  rw [List.drop_zero, List.nil_append, Nat.zero_add, Int.natCast_zero] at this
  exact this
theorem scanN_len : ∀ (d : Nat) (l : List Int), Bytes l → (scanN d l).1.length ≤ d ∧ (scanN d l).2 ≤ l.length
  | 0, l, _ => by simp [scanN]
  | d + 1, l, hl => by
    rw [scanN]
    rcases hg : getR l with ⟨p, n, e⟩
    simp only
    by_cases he : e = 0
    · subst he
      obtain ⟨h1, h2, h3, h4, h5, h6⟩ := getR_ok _ hl p n hg
      have := scanN_len d (l.drop n.toNat) (bytes_drop hl _)
      rw [List.length_drop] at this
      rw [if_pos rfl]
      simp only [List.length_cons]
      omega
    · rw [if_neg he]
      simp
theorem lists_l0 (a b : List (List Int)) (hlen : a.length = b.length) (hsame : ∀ i : Nat, i < a.length → rd_L1 a i = rd_L1 b i) (ha : a.length ≤ 1000000000) (d : Nat) : ∀ (k i : Nat), d < k → i + d = a.length → manteletref03_Lists.l0 k a b i = some true := by
  induction d with
  | zero =>
    intro k i hk hi
    obtain ⟨k, rfl⟩ : ∃ m, k = m + 1 := ⟨k - 1, by omega⟩
    rw [manteletref03_Lists.l0, if_neg (by omega)]
  | succ d ih =>
    intro k i hk hi
    obtain ⟨k, rfl⟩ : ∃ m, k = m + 1 := ⟨k - 1, by omega⟩
    have hw : wrap64 ((i : Int) + 1) = ((i + 1 : Nat) : Int) := by unfold wrap64; omega
    rw [manteletref03_Lists.l0, if_pos (by omega), if_pos (by omega), if_pos (by omega), if_pos (by rw [hsame i (by omega)]), hw]
    exact ih k (i + 1) (by omega) (by omega)
theorem lists_f (a : List (List Int)) (ha : a.length ≤ 1000000000) (k : Nat) (hk : a.length < k) : manteletref03_Lists.f k a a = some true := by
  unfold manteletref03_Lists.f
  rw [if_pos rfl]
  exact lists_l0 a a rfl (fun _ _ => rfl) ha a.length k 0 hk (by omega)
end Go.Proofs.Ytlodjdghccejcaa.FrameLib
