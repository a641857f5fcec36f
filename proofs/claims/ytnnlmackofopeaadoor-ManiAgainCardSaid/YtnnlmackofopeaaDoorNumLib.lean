/- Plain laws of the numbers' bytes: how a number is put, what is read of bytes; no program's memory in it. -/
import Derived.Test.YtnnlmackofopeaaDoorPFrx
namespace Go.Proofs.YtnnlmackofopeaaDoor.NumLib
open Go.RowKit Go.Proofs.YtnnlmackofopeaaDoor.PFr Go.Proofs.YtnnlmackofopeaaDoorW.PrintWords Go.Proofs.YtnnlmackofopeaaDoorW.PrintLast

/-- A number's bytes, j more than one at the most. -/
def put : Nat → Int → List Int
  | 0, n => [n]
  | j + 1, n => if n ≥ 128 then (n % 128 + 128) :: put j (n / 128) else [n]
def scanL : Nat → List Int → Option Nat
  | 0, _ => some 0
  | _ + 1, [] => none
  | k + 1, x :: t => if x < 128 then some 0 else (scanL k t).map (· + 1)
def valL : Nat → List Int → Int
  | 0, _ => 0
  | _ + 1, [] => 0
  | c + 1, x :: t => x % 128 + 128 * valL c t
def Bytes (l : List Int) : Prop := ∀ x ∈ l, 0 ≤ x ∧ x ≤ 255

theorem rd_drop (l : List Int) (s : Nat) (h : s < l.length) : l.drop s = rd l s :: l.drop (s + 1) := by
  rw [List.drop_eq_getElem_cons h]
  unfold rd
  rw [Int.toNat_natCast, List.getD_eq_getElem?_getD, List.getElem?_eq_getElem h, Option.getD_some]
theorem scan_eq (l : List Int) : ∀ (k s : Nat), s ≤ l.length → num_Get.scan l k s = (scanL k (l.drop s)).map (s + ·)
  | 0, s, _ => by simp [num_Get.scan, scanL]
  | k + 1, s, h => by
    rw [num_Get.scan]
    by_cases he : s = l.length
    · rw [if_pos he, he, List.drop_length]; rfl
    · rw [if_neg he, rd_drop l s (by omega), scanL, scan_eq l k (s + 1) (by omega)]
      by_cases hx : rd l s < 128
      · rw [if_pos hx, if_pos hx]; rfl
      · rw [if_neg hx, if_neg hx, Option.map_map]
        congr 1
        funext z
        simp only [Function.comp_apply]
        omega
theorem vals_eq (l : List Int) : ∀ (c i : Nat), i + c ≤ l.length → num_Get.vals l i c = valL c (l.drop i)
  | 0, i, _ => by simp [num_Get.vals, valL]
  | c + 1, i, h => by
    rw [num_Get.vals, rd_drop l i (by omega), valL, vals_eq l c (i + 1) (by omega)]
theorem scanL_lt : ∀ (k : Nat) (l : List Int) (c : Nat), scanL k l = some c → c ≤ k ∧ (c < k → c < l.length)
  | 0, l, c, h => by simp [scanL] at h; omega
  | k + 1, [], c, h => by simp [scanL] at h
  | k + 1, x :: t, c, h => by
    rw [scanL] at h
    by_cases hx : x < 128
    · rw [if_pos hx] at h
      have := Option.some.inj h
      simp
      omega
    · rw [if_neg hx] at h
      cases hs : scanL k t with
      | none => rw [hs] at h; simp at h
      | some c' =>
        rw [hs] at h
        simp at h
        have := scanL_lt k t c' hs
        simp
        omega
/-- What is read of bytes. -/
def get (l : List Int) : Int × Int × Int :=
  match scanL 10 l with
  | none => (0, 0, 3)
  | some c => if c = 10 ∨ (c = 9 ∧ rd l c > 1) ∨ (0 < c ∧ rd l c = 0) then (0, 0, 2) else (valL (c + 1) l, (c : Int) + 1, 0)
theorem ans_eq (l : List Int) : num_Get.ans l = get l := by
  unfold num_Get.ans get
  rw [scan_eq l 10 0 (Nat.zero_le _), List.drop_zero]
  cases hs : scanL 10 l with
  | none => rfl
  | some c =>
    simp only [Option.map_some, Nat.zero_add]
    by_cases hb : c = 10 ∨ (c = 9 ∧ rd l c > 1) ∨ (0 < c ∧ rd l c = 0)
    · rw [if_pos hb, if_pos hb]
    · have := scanL_lt 10 l c hs
      rw [if_neg hb, if_neg hb, vals_eq l (c + 1) 0 (by omega), List.drop_zero]
theorem get_f (l : List Int) (h : Bytes l) : num_Get.f l = some (get l) := by
  have h' : ∀ x ∈ l, 0 ≤ x ∧ x ≤ 255 := h
  unfold num_Get.f
  rw [if_pos h', ans_eq]

theorem put_spec : ∀ (j : Nat) (n : Int), 0 ≤ n → n < 128 ^ (j + 1) → ∃ c, c ≤ j ∧ (put j n).length = c + 1 ∧ (∀ b, scanL (j + 1) (put j n ++ b) = some c) ∧ (∀ b, valL (c + 1) (put j n ++ b) = n) ∧ (∀ b, rd (put j n ++ b) c = n / 128 ^ c) ∧ n / 128 ^ c < 128 ∧ (0 < c → 128 ^ c ≤ n)
  | 0, n, h0, h1 => by
    refine ⟨0, Nat.le_refl _, rfl, fun b => ?_, fun b => ?_, fun b => ?_, by simp at h1 ⊢; omega, by simp⟩
    · simp only [put, List.singleton_append, scanL]
      rw [if_pos (by simpa using h1)]
    · simp only [put, List.singleton_append, valL]
      simp at h1
      omega
    · simp [put, rd]
  | j + 1, n, h0, h1 => by
    by_cases hn : n ≥ 128
    · have h2 : n / 128 < 128 ^ (j + 1) := by
        rw [Int.pow_succ] at h1
        generalize (128 : Int) ^ (j + 1) = p at *
        omega
      obtain ⟨c, hc, hl, hs, hv, hr, hlt, hge⟩ := put_spec j (n / 128) (by omega) h2
      have hd : n / 128 ^ (c + 1) = n / 128 / 128 ^ c := by
        rw [Int.pow_succ, Int.mul_comm, Int.ediv_ediv_of_nonneg (by decide)]
      have e : put (j + 1) n = (n % 128 + 128) :: put j (n / 128) := by rw [put, if_pos hn]
      refine ⟨c + 1, by omega, by rw [e, List.length_cons, hl], fun b => ?_, fun b => ?_, fun b => ?_, by rw [hd]; exact hlt, fun _ => ?_⟩
      · rw [e, List.cons_append, scanL, if_neg (by omega), hs b]; rfl
      · rw [e, List.cons_append, valL, hv b]; omega
      · have := hr b
        rw [e, hd, ← this]
        unfold rd
        rw [Int.toNat_natCast, Int.toNat_natCast]
        rfl
      · rw [Int.pow_succ]
        by_cases h : 0 < c
        · have := hge h
          generalize (128 : Int) ^ c = p at *
          omega
        · obtain rfl : c = 0 := by omega
          simp
          omega
    · have e : put (j + 1) n = [n] := by rw [put, if_neg hn]
      refine ⟨0, by omega, by rw [e]; rfl, fun b => ?_, fun b => ?_, fun b => ?_, by simp; omega, by simp⟩
      · rw [e]; simp only [List.singleton_append, scanL]; rw [if_pos (by omega)]
      · rw [e]; simp only [List.singleton_append, valL]; omega
      · rw [e]; simp [rd]
/-- A number's bytes. -/
abbrev putn (n : Int) : List Int := put 9 n
theorem get_put (n : Int) (h0 : 0 ≤ n) (h1 : n < 18446744073709551616) (b : List Int) : get (putn n ++ b) = (n, ((putn n).length : Int), 0) := by
  obtain ⟨c, hc, hl, hs, hv, hr, hlt, hge⟩ := put_spec 9 n h0 (by omega)
  unfold get
  rw [hs b]
  simp only
  rw [hr b, hv b, hl, if_neg]
  · simp
  · rintro (h | ⟨h, h'⟩ | ⟨h, h'⟩)
    · omega
    · subst h
      have : (128 : Int) ^ 9 = 9223372036854775808 := by decide
      rw [this] at h'
      omega
    · have := hge h
      have hp : (0 : Int) < 128 ^ c := Int.pow_pos (by decide)
      have := Int.le_ediv_of_mul_le hp (by rw [Int.one_mul]; exact this)
      omega
theorem put_bytes : ∀ (j : Nat) (n : Int), 0 ≤ n → n < 128 ^ (j + 1) → Bytes (put j n)
  | 0, n, h0, h1, x, hx => by
    simp [put] at hx h1
    omega
  | j + 1, n, h0, h1, x, hx => by
    rw [put] at hx
    by_cases hn : n ≥ 128
    · rw [if_pos hn, List.mem_cons] at hx
      rcases hx with hx | hx
      · omega
      · refine put_bytes j (n / 128) (by omega) ?_ x hx
        rw [Int.pow_succ] at h1
        generalize (128 : Int) ^ (j + 1) = p at *
        omega
    · rw [if_neg hn] at hx
      simp at hx
      omega
theorem putn_bytes (n : Int) (h0 : 0 ≤ n) (h1 : n < 18446744073709551616) : Bytes (putn n) := put_bytes 9 n h0 (by omega)
theorem bytes_append {a b : List Int} (ha : Bytes a) (hb : Bytes b) : Bytes (a ++ b) := fun x hx => by
  rcases List.mem_append.1 hx with h | h
  · exact ha x h
  · exact hb x h
theorem bytes_take {a : List Int} (ha : Bytes a) (k : Nat) : Bytes (a.take k) := fun x hx => ha x (List.mem_of_mem_take hx)
theorem bytes_drop {a : List Int} (ha : Bytes a) (k : Nat) : Bytes (a.drop k) := fun x hx => ha x (List.mem_of_mem_drop hx)
theorem wf_byte {x : Int} (h : (Lit.int .u8 x).wf = true) : 0 ≤ x ∧ x ≤ 255 := by simp [Lit.wf, IntKind.min, IntKind.max, IntKind.bits, IntKind.signed] at h; omega
theorem wf_u64 {x : Int} (h : (Lit.int .u64 x).wf = true) : 0 ≤ x ∧ x < 18446744073709551616 := by simp [Lit.wf, IntKind.min, IntKind.max, IntKind.bits, IntKind.signed] at h; omega
theorem putn_len (n : Int) (h0 : 0 ≤ n) (h1 : n < 18446744073709551616) : 1 ≤ (putn n).length ∧ (putn n).length ≤ 10 := by
  obtain ⟨c, hc, hl, _⟩ := put_spec 9 n h0 (by omega)
  rw [hl]
  omega
theorem put_one : ∀ (j : Nat) (n : Int), n < 128 → put j n = [n]
  | 0, n, _ => rfl
  | j + 1, n, h => by rw [put, if_neg (by omega)]
/-- What is read is put as it stood. -/
theorem put_of : ∀ (k c : Nat) (l : List Int), Bytes l → scanL (k + 1) l = some c → c ≤ k → (0 < c → rd l c ≠ 0) → put k (valL (c + 1) l) = l.take (c + 1)
  | k, c, [], _, hs, _, _ => by simp [scanL] at hs
  | k, c, x :: t, hb, hs, hc, hz => by
    have hx0 := hb x List.mem_cons_self
    rw [scanL] at hs
    by_cases hx : x < 128
    · rw [if_pos hx] at hs
      obtain rfl : 0 = c := Option.some.inj hs
      rw [valL]
      have : valL 0 t = 0 := by cases t <;> rfl
      rw [this, put_one _ _ (by omega)]
      simp
      omega
    · rw [if_neg hx] at hs
      cases k with
      | zero => simp [scanL] at hs; omega
      | succ k =>
        cases hs2 : scanL (k + 1) t with
        | none => rw [hs2] at hs; simp at hs
        | some d =>
          rw [hs2] at hs
          simp at hs
          subst hs
          have hbt : Bytes t := fun y hy => hb y (List.mem_cons_of_mem _ hy)
          have hrd : ∀ q : Nat, rd (x :: t) (q + 1 : Nat) = rd t q := fun q => by
            unfold rd
            rw [Int.toNat_natCast, Int.toNat_natCast]
            rfl
          have hz' : rd t d ≠ 0 := by have := hz (by omega); rwa [hrd] at this
          have ih := put_of k d t hbt hs2 (by omega) (fun _ => hz')
          have hpos : 0 < valL (d + 1) t := by
            have hd := scanL_lt _ _ _ hs2
            exact valL_pos d t hbt (hd.2 (by omega)) hz' (last_lt _ _ _ hs2 (by omega))
          rw [valL, put, if_pos (by omega), List.take_succ_cons]
          have e1 : (x % 128 + 128 * valL (d + 1) t) / 128 = valL (d + 1) t := by omega
          have e2 : (x % 128 + 128 * valL (d + 1) t) % 128 + 128 = x := by omega
          rw [e1, e2, ih]
where
  last_lt : ∀ (k : Nat) (l : List Int) (c : Nat), scanL k l = some c → c < k → rd l c < 128
    | 0, _, c, _, h => by omega
    | k + 1, [], c, hs, _ => by simp [scanL] at hs
    | k + 1, x :: t, c, hs, h => by
      rw [scanL] at hs
      by_cases hx : x < 128
      · rw [if_pos hx] at hs
        obtain rfl : 0 = c := Option.some.inj hs
        exact hx
      · rw [if_neg hx] at hs
        cases hs2 : scanL k t with
        | none => rw [hs2] at hs; simp at hs
        | some d =>
          rw [hs2] at hs
          simp at hs
          subst hs
          have := last_lt k t d hs2 (by omega)
          unfold rd at this ⊢
          rw [Int.toNat_natCast] at this ⊢
          exact this
  valL_pos : ∀ (d : Nat) (t : List Int), Bytes t → d < t.length → rd t d ≠ 0 → rd t d < 128 → 0 < valL (d + 1) t
    | _, [], _, h, _, _ => by simp at h
    | 0, x :: t, hb, _, hz, hl => by
      have := hb x List.mem_cons_self
      have e : rd (x :: t) (0 : Nat) = x := rfl
      rw [e] at hz hl
      have : valL 0 t = 0 := by cases t <;> rfl
      rw [valL, this]
      omega
    | d + 1, x :: t, hb, h, hz, hl => by
      have := hb x List.mem_cons_self
      have e : rd (x :: t) (d + 1 : Nat) = rd t d := by
        unfold rd
        rw [Int.toNat_natCast, Int.toNat_natCast]
        rfl
      rw [e] at hz hl
      have := valL_pos d t (fun y hy => hb y (List.mem_cons_of_mem _ hy)) (by simpa using h) hz hl
      rw [valL]
      omega
theorem valL_range : ∀ (c : Nat) (l : List Int), 0 ≤ valL c l ∧ valL c l < 128 ^ c
  | 0, l => by cases l <;> simp [valL]
  | c + 1, [] => by
    have : (0 : Int) < 128 ^ (c + 1) := Int.pow_pos (by decide)
    simp only [valL]
    omega
  | c + 1, x :: t => by
    have := valL_range c t
    rw [valL, Int.pow_succ]
    omega
theorem valL_top : ∀ (c : Nat) (l : List Int), rd l c % 128 ≤ 1 → valL (c + 1) l < 2 * 128 ^ c
  | 0, [], h => by simp [valL]
  | 0, x :: t, h => by
    have : valL 0 t = 0 := by cases t <;> rfl
    have e : rd (x :: t) (0 : Nat) = x := rfl
    rw [e] at h
    rw [valL, this]
    simp
    omega
  | c + 1, [], h => by
    have : (0 : Int) < 128 ^ (c + 1) := Int.pow_pos (by decide)
    simp only [valL]
    omega
  | c + 1, x :: t, h => by
    have e : rd (x :: t) (c + 1 : Nat) = rd t c := by
      unfold rd
      rw [Int.toNat_natCast, Int.toNat_natCast]
      rfl
    rw [e] at h
    have := valL_top c t h
    rw [valL, Int.pow_succ]
    generalize valL (c + 1) t = v at *
    generalize (128 : Int) ^ c = p at *
    omega
/-- What is read, and is a number, lies at the begin; put it is those bytes. -/
theorem get_ok (l : List Int) (hb : Bytes l) (x i : Int) (h : get l = (x, i, 0)) : 1 ≤ i ∧ i ≤ l.length ∧ 0 ≤ x ∧ x < 18446744073709551616 ∧ putn x = l.take i.toNat := by
  unfold get at h
  cases hs : scanL 10 l with
  | none => rw [hs] at h; simp at h
  | some c =>
    rw [hs] at h
    simp only at h
    by_cases hbad : c = 10 ∨ (c = 9 ∧ rd l c > 1) ∨ (0 < c ∧ rd l c = 0)
    · rw [if_pos hbad] at h; simp at h
    · rw [if_neg hbad] at h
      have hl := scanL_lt 10 l c hs
      obtain ⟨rfl, rfl⟩ : valL (c + 1) l = x ∧ (c : Int) + 1 = i := by simpa using h
      have hr := valL_range (c + 1) l
      refine ⟨by omega, by omega, hr.1, ?_, ?_⟩
      · by_cases h9 : c = 9
        · subst h9
          have ht := valL_top 9 l (by
            have hx : 0 ≤ rd l (9 : Nat) := by
              unfold rd
              rw [Int.toNat_natCast, List.getD_eq_getElem?_getD, List.getElem?_eq_getElem (by omega), Option.getD_some]
              exact (hb _ (List.getElem_mem _)).1
            omega)
          exact Int.lt_of_lt_of_le ht (by decide)
        · have h8 : (128 : Int) ^ (c + 1) ≤ 128 ^ 9 := by
            have := Nat.pow_le_pow_right (n := 128) (by decide) (show c + 1 ≤ 9 by omega)
            exact_mod_cast this
          exact Int.lt_of_lt_of_le hr.2 (Int.le_trans h8 (by decide))
      · have e : ((c : Int) + 1).toNat = c + 1 := by omega
        rw [e]
        exact put_of 9 c l hb hs (by omega) (fun h => by omega)
theorem get_bad (l : List Int) (x i e : Int) (h : get l = (x, i, e)) (he : e ≠ 0) : x = 0 ∧ i = 0 ∧ (e = 2 ∨ e = 3) := by
  unfold get at h
  split at h
  · simp at h; omega
  · split at h
    · simp at h; omega
    · simp at h; omega
/-- The program's own function puts so. -/
theorem put_l0 : ∀ (j k : Nat) (n : Int) (l : List Int), j < k → 0 ≤ n → n < 128 ^ (j + 1) → l.length + j < 140737488355328 → num_Put.l0 k n l = some (l ++ put j n)
  | j, 0, n, l, hk, _, _, _ => by omega
  | 0, k + 1, n, l, hk, h0, h1, hl => by
    simp at h1
    rw [num_Put.l0, if_neg (by omega), if_pos (by omega), put]
    congr 2
    simp
    omega
  | j + 1, k + 1, n, l, hk, h0, h1, hl => by
    rw [num_Put.l0, put]
    by_cases hn : n ≥ 128
    · have h2 : n / 128 < 128 ^ (j + 1) := by
        rw [Int.pow_succ] at h1
        generalize (128 : Int) ^ (j + 1) = p at *
        omega
      rw [if_pos hn, if_pos (by omega), if_pos hn, put_l0 j k _ _ (by omega) (by omega) h2 (by simp; omega), or128 n h0]
      simp
    · rw [if_neg hn, if_pos (by omega), if_neg hn]
      congr 3
      omega
where
  or128 (n : Int) (h0 : 0 ≤ n) : Go.bits .or .u8 (n % 256) 128 = n % 128 + 128 := by
    have h : ∀ m : Fin 256, Go.bits .or .u8 ((m.val : Nat) : Int) 128 = ((m.val : Nat) : Int) % 128 + 128 := by decide +kernel
    have hm : (n % 256).toNat < 256 := by omega
    have := h ⟨(n % 256).toNat, hm⟩
    simp only [Int.toNat_of_nonneg (show 0 ≤ n % 256 by omega)] at this
    rw [this]
    omega
theorem put_f (k : Nat) (n : Int) (l : List Int) (hk : 9 < k) (h0 : 0 ≤ n) (h1 : n < 18446744073709551616) (hl : l.length + 10 < 140737488355328) : num_Put.f k l n = some (l ++ putn n) := by
  unfold num_Put.f
  rw [Option.bind_some, if_pos (by simp; omega)]
  exact put_l0 9 k n l hk h0 (by omega) (by omega)
theorem u64_wrap (n : Int) : IntKind.u64.wrap n = n % 18446744073709551616 := by simp [IntKind.wrap, IntKind.bits, IntKind.signed]
end Go.Proofs.YtnnlmackofopeaaDoor.NumLib
