/- Records cut anywhere are scanned as those that are whole, up to the end of the last whole one: for all payloads and all cuts. -/
import Derived.Test.YtlodjdghccejcaaFrameRows
namespace Go.Proofs.Ytlodjdghccejcaa.Pure
open Go.RowKit Go.Proofs.Ytlodjdghccejcaa.PFrame Go.Proofs.YtlodjdghccejcaaW.PrintWords Go.Proofs.YtlodjdghccejcaaW.PrintLast Go.Proofs.Ytlodjdghccejcaa.NumLib Go.Proofs.Ytlodjdghccejcaa.FrameLib

theorem rd_ends (n : Nat) (f : Nat → Int) (i : Nat) (hi : i < n) : rd ((List.range n).map f) i = f i := by
  unfold rd
  rw [Int.toNat_natCast, List.getD_eq_getElem?_getD, List.getElem?_eq_getElem (by simpa using hi)]
  simp
theorem scanN_fuel : ∀ (d : Nat) (l : List Int), Bytes l → ∀ d', l.length < d → l.length < d' → scanN d l = scanN d' l
  | 0, l, _, d', h, _ => by omega
  | d + 1, l, hl, 0, _, h => by omega
  | d + 1, l, hl, d' + 1, h, h' => by
    rw [scanN, scanN]
    by_cases h0 : (getR l).2.2 = 0
    · rcases hg : getR l with ⟨p, n, e⟩
      rw [hg] at h0
      simp only at h0 ⊢
      subst h0
      obtain ⟨g1, g2, g3, g4, g5, g6⟩ := getR_ok l hl p n hg
      have := scanN_fuel d (l.drop n.toNat) (bytes_drop hl _) d' (by rw [List.length_drop]; omega) (by rw [List.length_drop]; omega)
      rw [this]
    · rw [if_neg h0, if_neg h0]
/-- The last end that is not behind the cut. -/
theorem cuts_l1 (x : List (List Int)) (hx : Small (x.take 20)) (n c m : Nat) (hn : n = min 20 x.length) (hm : m ≤ n) (hc : c ≤ (recs (x.take 20)).length) (h1 : m = 0 ∨ upTo x m ≤ c) (h2 : m < n → c < upTo x (m + 1))
    (hs : scanN ((recs (x.take 20)).length + 1) ((recs (x.take 20)).take c) = (x.take m, upTo x m)) (hcl : (recs (x.take 20)).length ≤ 20280) (d : Nat) : ∀ (k i : Nat), d + 40000 < k → i + d = n →
    manteletlaw03_FrameCuts.l1 k x true (recs (x.take 20)) ((List.range n).map fun j => (upTo x (j + 1) : Int)) c (min i m : Nat) (upTo x (min i m) : Nat) i = some true := by
  have hb : Bytes (recs (x.take 20)) := recs_bytes _ hx
  induction d with
  | zero =>
    intro k i hk hi
    obtain ⟨k, rfl⟩ : ∃ m, k = m + 1 := ⟨k - 1, by omega⟩
    have e : min i m = m := by omega
    rw [e, manteletlaw03_FrameCuts.l1, if_neg (by rw [List.length_map, List.length_range]; omega), if_pos (by omega), if_pos (by omega), Int.toNat_natCast]
    have hlt : ((recs (x.take 20)).take c).length = c := by rw [List.length_take]; omega
    have hsc := scan_f ((recs (x.take 20)).take c) (bytes_take hb _) (by omega) k (by omega)
    have hmono : scanN (((recs (x.take 20)).take c).length + 1) ((recs (x.take 20)).take c) = (x.take m, upTo x m) := by
      rw [← hs]
      refine scanN_fuel _ _ (bytes_take hb _) _ (by omega) (by omega)
    rw [hsc, Option.bind_some, hmono]
    simp only
    rw [if_pos trivial, if_pos trivial, if_pos (by omega), if_pos (by omega), Int.toNat_natCast, lists_f (x.take m) (by rw [List.length_take]; omega) k (by rw [List.length_take]; omega), Option.bind_some]
  | succ d ih =>
    intro k i hk hi
    obtain ⟨k, rfl⟩ : ∃ m, k = m + 1 := ⟨k - 1, by omega⟩
    have hw : wrap64 ((i : Int) + 1) = ((i + 1 : Nat) : Int) := by unfold wrap64; omega
    rw [manteletlaw03_FrameCuts.l1, if_pos (by rw [List.length_map, List.length_range]; omega), if_pos (by omega), rd_ends n _ i (by omega), hw]
    by_cases him : i < m
    · have h3 := upTo_mono x (i := i + 1) (j := m) (by omega)
      have h4 : upTo x m ≤ c := by omega
      rw [if_pos (by omega)]
      have := ih k (i + 1) (by omega) (by omega)
      rw [Nat.min_eq_left (show i + 1 ≤ m by omega)] at this
      exact this
    · have h3 := upTo_mono x (i := m + 1) (j := i + 1) (by omega)
      have h4 := h2 (by omega)
      rw [if_neg (by omega)]
      have := ih k (i + 1) (by omega) (by omega)
      rw [Nat.min_eq_right (show m ≤ i + 1 by omega)] at this
      rw [Nat.min_eq_right (show m ≤ i by omega)]
      exact this
theorem cuts_rest (x : List (List Int)) (hx : Small (x.take 20)) (a : Int) (ha : 0 ≤ a ∧ a ≤ 65535) (k : Nat) (hk : 50000 < k) (i : Int) : manteletlaw03_FrameCuts.j1 (k + 1) x a true i false = some true := by
  have hle := recs_le _ hx
  rw [List.length_take] at hle
  have hw : wrap64 (((recs (x.take 20)).length : Int) + 1) = ((recs (x.take 20)).length : Int) + 1 := by unfold wrap64; omega
  have hwa : wrap64 a = a := by unfold wrap64; omega
  rw [manteletlaw03_FrameCuts.j1, if_neg (by decide), rows_f x hx k (by omega), Option.bind_some]
  simp only
  rw [hw, hwa, if_neg (by omega), Int.tmod_eq_emod_of_nonneg ha.1]
  obtain ⟨c, hc⟩ := Int.eq_ofNat_of_zero_le (Int.emod_nonneg a (show ((recs (x.take 20)).length : Int) + 1 ≠ 0 by omega))
  have hc2 := Int.emod_lt_of_pos a (show (0 : Int) < ((recs (x.take 20)).length : Int) + 1 by omega)
  rw [hc] at hc2 ⊢
  have small_len : ∀ R : List (List Int), Small R → R.length ≤ (recs R).length := by
    intro R
    induction R with
    | nil => intro _; simp [recs]
    | cons p r ih =>
      intro h
      have := ih (fun q hq => h q (List.mem_cons_of_mem _ hq))
      have h3 := rec_le (h p List.mem_cons_self).1
      rw [recs, List.length_append, List.length_cons]
      omega
  obtain ⟨m, a1, a2, a3, a4⟩ := scan_cut (x.take 20) c ((recs (x.take 20)).length + 1) hx (Nat.lt_succ_of_le (small_len _ hx))
  rw [List.length_take] at a1 a4
  have up : ∀ j, j ≤ 20 → upTo (x.take 20) j = upTo x j := fun j hj => by
    unfold upTo
    rw [List.take_take, Nat.min_eq_left hj]
  rw [List.take_take, Nat.min_eq_left (by omega), up m (by omega)] at a2
  rw [up m (by omega)] at a3
  have := cuts_l1 x hx (min 20 x.length) c m rfl a1 (by omega) a3 (fun h => by have := a4 h; rw [up _ (by omega)] at this; exact this) a2 (by omega) (min 20 x.length) k 0 (by omega) (by omega)
  rw [Nat.zero_min, upTo_zero] at this
  exact this
theorem cuts_l0 (x : List (List Int)) (hx : ∀ p ∈ x, Bytes p) (a : Int) (ha : 0 ≤ a ∧ a ≤ 65535) (d : Nat) : ∀ (k i : Nat), 60000 + 2 * d < k → i + d = min 20 x.length → (∀ j, j < i → ∀ (hj : j < x.length), x[j].length ≤ 1000) →
    manteletlaw03_FrameCuts.l0 k x a true i = some true := by
  have last : ∀ (k i : Nat), 55000 < k → i = min 20 x.length → (∀ j, j < i → ∀ (hj : j < x.length), x[j].length ≤ 1000) → Small (x.take 20) := by
    intro k i hk hi hj p hp
    obtain ⟨j, hj1, rfl⟩ := List.mem_take_iff_getElem.1 hp
    exact ⟨hj j (by omega) (by omega), hx _ (List.getElem_mem _)⟩
  induction d with
  | zero =>
    intro k i hk hi hj
    obtain ⟨k, rfl⟩ : ∃ m, k = m + 2 := ⟨k - 2, by omega⟩
    have hs := last k i (by omega) (by omega) hj
    rw [manteletlaw03_FrameCuts.l0]
    by_cases h : (i : Int) < (x.length : Int)
    · rw [if_pos h, decide_eq_false (by omega)]
      exact cuts_rest x hs a ha k (by omega) _
    · rw [if_neg h]
      exact cuts_rest x hs a ha k (by omega) _
  | succ d ih =>
    intro k i hk hi hj
    obtain ⟨k, rfl⟩ : ∃ m, k = m + 2 := ⟨k - 2, by omega⟩
    have hil : i < x.length := by omega
    have hw : wrap64 ((i : Int) + 1) = ((i + 1 : Nat) : Int) := by unfold wrap64; omega
    rw [manteletlaw03_FrameCuts.l0, if_pos (by omega), decide_eq_true (by omega), manteletlaw03_FrameCuts.j1, if_pos rfl, if_pos (by omega), if_pos (by omega), rd_L1_get x i hil]
    by_cases h : (x[i].length : Int) > 1000
    · rw [if_pos h]
    · rw [if_neg h, hw]
      refine ih k (i + 1) (by omega) (by omega) (fun j h1 h2 => ?_)
      by_cases e : j = i
      · subst e; omega
      · exact hj j (by omega) h2
theorem FrameCuts (l : List (List Int)) (a : Int) (hl : l.length ≤ maxLen ∧ ∀ x ∈ l, x.length ≤ maxLen ∧ ∀ n ∈ x, (Lit.int .u8 n).wf = true) (ha : (Lit.int .u16 a).wf = true) : ∃ k, manteletlaw03_FrameCuts.f k l a = some true := by
  have ha2 : 0 ≤ a ∧ a ≤ 65535 := by
    simp [Lit.wf, IntKind.min, IntKind.max, IntKind.bits, IntKind.signed] at ha; omega
  refine ⟨70000, ?_⟩
  unfold manteletlaw03_FrameCuts.f
  rw [show manteletlaw03_shown.f = some true from rfl, Option.bind_some]
  exact cuts_l0 l (fun p hp x hx => NumLib.wf_byte ((hl.2 p hp).2 x hx)) a ha2 (min 20 l.length) 70000 0 (by omega) (by omega) (fun j h _ => by omega)
end Go.Proofs.Ytlodjdghccejcaa.Pure
