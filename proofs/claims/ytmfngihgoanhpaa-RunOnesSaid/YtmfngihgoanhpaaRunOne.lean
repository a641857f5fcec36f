/- No begin of a run is one, nothing that a run begins, and no run with a byte that is another one: plain laws. -/
import Derived.Test.YtmfngihgoanhpaaRunSize
import Derived.Test.YtmfngihgoanhpaaRunDecT
namespace Go.Proofs.Ytmfngihgoanhpaa.RunLib
open Go.RowKit Go.Proofs.Ytmfngihgoanhpaa.PRun Go.Proofs.YtmfngihgoanhpaaW.PrintWords Go.Proofs.YtmfngihgoanhpaaW.PrintLast Go.Proofs.YtmfngihgoanhpaaW.PrintMore Go.Proofs.Ytmfngihgoanhpaa.NumLib Go.Proofs.Ytmfngihgoanhpaa.FrameLib
set_option linter.unusedVariables false
set_option linter.unusedSimpArgs false

/-! ### A number's bytes -/
def numz (z : Bool) : List Int → Prop
  | [] => False
  | [x] => x < 128 ∧ (z = true → 1 ≤ x)
  | x :: y :: t => 128 ≤ x ∧ numz z (y :: t)
theorem put_numz (z : Bool) : ∀ (j : Nat) (n : Int), 0 ≤ n → n < 128 ^ (j + 1) → (z = true → 1 ≤ n) → numz z (put j n)
  | 0, n, h0, h1, hz => ⟨by simpa using h1, hz⟩
  | j + 1, n, h0, h1, hz => by
    rw [put]
    by_cases hn : n ≥ 128
    · have h2 : n / 128 < 128 ^ (j + 1) := by
        rw [Int.pow_succ] at h1
        generalize (128 : Int) ^ (j + 1) = p at *
        omega
      have ih := put_numz z j (n / 128) (by omega) h2 (fun _ => by omega)
      rw [if_pos hn]
      cases hp : put j (n / 128) with
      | nil => rw [hp] at ih; exact ih.elim
      | cons y t => rw [hp] at ih; exact ⟨by omega, ih⟩
    · rw [if_neg hn]
      exact ⟨by omega, hz⟩
theorem putn_numz (n : Nat) (h : n ≤ 100000000) : numz false (putn (n : Int)) := put_numz false 9 n (by omega) (by omega) (fun h => by simp at h)
theorem putn_numz1 (n : Nat) (h : n ≤ 100000000) (h1 : 1 ≤ n) : numz true (putn (n : Int)) := put_numz true 9 n (by omega) (by omega) (fun _ => by omega)
theorem numz_weak : ∀ a, numz true a → numz false a
  | [], h => h
  | [x], h => ⟨h.1, fun h => by simp at h⟩
  | x :: y :: t, h => ⟨h.1, numz_weak (y :: t) h.2⟩
theorem numz_pre : ∀ (a b s t : List Int), numz false a → numz false b → a ++ s = b ++ t → a = b ∧ s = t
  | [], _, _, _, h, _, _ => h.elim
  | _ :: _, [], _, _, _, h, _ => h.elim
  | [x], [y], s, t, _, _, h => by
    injection h with h1 h2
    exact ⟨by rw [h1], h2⟩
  | [x], y :: z :: b, s, t, ha, hb, h => by
    injection h with h1 h2
    have h3 := ha.1
    have h4 := hb.1
    omega
  | x :: z :: a, [y], s, t, ha, hb, h => by
    injection h with h1 h2
    have h3 := ha.1
    have h4 := hb.1
    omega
  | x :: x2 :: a, y :: y2 :: b, s, t, ha, hb, h => by
    injection h with h1 h2
    obtain ⟨i1, i2⟩ := numz_pre (x2 :: a) (y2 :: b) s t ha.2 hb.2 h2
    exact ⟨by rw [h1, i1], i2⟩
theorem numz_tail (z : Bool) : ∀ (u : List Int) (y : Int) (w : List Int), w ≠ [] → numz z (u ++ y :: w) → numz z w
  | [], y, [], hw, _ => absurd rfl hw
  | [], y, b :: w, _, h => h.2
  | [a], y, w, hw, h => numz_tail z [] y w hw h.2
  | a :: b :: u, y, w, hw, h => numz_tail z (b :: u) y w hw h.2
theorem three : ∀ (u q r s t : List Int) (x y : Int) (v : List Int), numz false q → numz false r → q ++ s = u ++ x :: v → r ++ t = u ++ y :: v →
    q.length = r.length ∨ (∃ w, w ≠ [] ∧ q = u ++ [x] ∧ r = u ++ y :: w) ∨ (∃ w, w ≠ [] ∧ r = u ++ [y] ∧ q = u ++ x :: w)
  | _, [], _, _, _, _, _, _, h, _, _, _ => h.elim
  | _, _ :: _, [], _, _, _, _, _, _, h, _, _ => h.elim
  | [], [a], [b], s, t, x, y, v, _, _, _, _ => .inl rfl
  | [], [a], b :: b2 :: r, s, t, x, y, v, _, _, h1, h2 => by
    injection h1 with e1 _
    injection h2 with e2 _
    refine .inr (.inl ⟨b2 :: r, by simp, by rw [e1]; rfl, by rw [e2]; rfl⟩)
  | [], a :: a2 :: q, [b], s, t, x, y, v, _, _, h1, h2 => by
    injection h1 with e1 _
    injection h2 with e2 _
    refine .inr (.inr ⟨a2 :: q, by simp, by rw [e2]; rfl, by rw [e1]; rfl⟩)
  | [], a :: a2 :: q, b :: b2 :: r, s, t, x, y, v, hq, hr, h1, h2 => by
    injection h1 with _ e1
    injection h2 with _ e2
    have := (numz_pre (a2 :: q) (b2 :: r) s t hq.2 hr.2 (e1.trans e2.symm)).1
    exact .inl (by rw [this]; rfl)
  | c :: u, [a], [b], s, t, x, y, v, _, _, _, _ => .inl rfl
  | c :: u, [a], b :: b2 :: r, s, t, x, y, v, hq, hr, h1, h2 => by
    injection h1 with e1 _
    injection h2 with e2 _
    have h3 := hq.1
    have h4 := hr.1
    omega
  | c :: u, a :: a2 :: q, [b], s, t, x, y, v, hq, hr, h1, h2 => by
    injection h1 with e1 _
    injection h2 with e2 _
    have h3 := hq.1
    have h4 := hr.1
    omega
  | c :: u, a :: a2 :: q, b :: b2 :: r, s, t, x, y, v, hq, hr, h1, h2 => by
    injection h1 with c1 e1
    injection h2 with c2 e2
    rcases three u (a2 :: q) (b2 :: r) s t x y v hq.2 hr.2 e1 e2 with h | ⟨w, hw, g1, g2⟩ | ⟨w, hw, g1, g2⟩
    · exact .inl (by rw [List.length_cons, h]; rfl)
    · exact .inr (.inl ⟨w, hw, by rw [c1, g1]; rfl, by rw [c2, g2]; rfl⟩)
    · exact .inr (.inr ⟨w, hw, by rw [c2, g1]; rfl, by rw [c1, g2]; rfl⟩)
theorem alike : ∀ (q r s t u : List Int) (x y : Int) (v : List Int), q.length = r.length → q ++ s = u ++ x :: v → r ++ t = u ++ y :: v →
    (∃ u1, q = r ∧ u = q ++ u1 ∧ s = u1 ++ x :: v ∧ t = u1 ++ y :: v) ∨ (∃ w, s = t ∧ q = u ++ x :: w ∧ r = u ++ y :: w)
  | [], [], s, t, u, x, y, v, _, h1, h2 => .inl ⟨u, rfl, rfl, h1, h2⟩
  | [], _ :: _, _, _, _, _, _, _, h, _, _ => by simp at h
  | _ :: _, [], _, _, _, _, _, _, h, _, _ => by simp at h
  | a :: q, b :: r, s, t, [], x, y, v, h, h1, h2 => by
    injection h1 with c1 e1
    injection h2 with c2 e2
    have h : q.length = r.length := by simpa using h
    obtain ⟨i1, i2⟩ := List.append_inj (e1.trans e2.symm) h
    exact .inr ⟨q, i2, by rw [c1]; rfl, by rw [c2, i1]; rfl⟩
  | a :: q, b :: r, s, t, c :: u, x, y, v, h, h1, h2 => by
    injection h1 with c1 e1
    injection h2 with c2 e2
    have h : q.length = r.length := by simpa using h
    rcases alike q r s t u x y v h e1 e2 with ⟨u1, g1, g2, g3, g4⟩ | ⟨w, g1, g2, g3⟩
    · exact .inl ⟨u1, by rw [c1, c2, g1], by rw [c1, g2]; rfl, g3, g4⟩
    · exact .inr ⟨w, g1, by rw [c1, g2]; rfl, by rw [c2, g3]; rfl⟩

/-! ### The sum tells a byte -/
theorem bv_inj {x y : Int} (hx : 0 ≤ x ∧ x ≤ 255) (hy : 0 ≤ y ∧ y ≤ 255) (h : CrcLib.bv x = CrcLib.bv y) : x = y := by
  rw [← CrcLib.num_bv x hx.1 (by omega), h, CrcLib.num_bv y hy.1 (by omega)]
theorem of_ne (pre post : List Int) (x v : Int) (hx : 0 ≤ x ∧ x ≤ 255) (hv : 0 ≤ v ∧ v ≤ 255) (hn : v ≠ x) : CrcLib.F CrcLib.ones (pre ++ v :: post) ≠ CrcLib.F CrcLib.ones (pre ++ x :: post) := by
  intro h
  rw [CrcLib.F_append, CrcLib.F_append, CrcLib.F_cons, CrcLib.F_cons] at h
  have h1 := CrcLib.it_inj 8 (CrcLib.F_inj _ _ _ h)
  generalize CrcLib.F CrcLib.ones pre = s at h1
  have h2 : s ^^^ (s ^^^ CrcLib.bv v) = s ^^^ (s ^^^ CrcLib.bv x) := by rw [h1]
  rw [← BitVec.xor_assoc, ← BitVec.xor_assoc, BitVec.xor_self, BitVec.zero_xor, BitVec.zero_xor] at h2
  exact hn (bv_inj hv hx h2)
theorem four_inj {a b : Int} (ha : 0 ≤ a ∧ a < 4294967296) (hb : 0 ≤ b ∧ b < 4294967296) (h : four a = four b) : a = b := by
  unfold four at h
  simp only [List.cons.injEq, and_true] at h
  omega
theorem sum_inj {a b : List Int} (h : sumL a = sumL b) : CrcLib.F CrcLib.ones a = CrcLib.F CrcLib.ones b := by
  have h1 := four_inj (CrcLib.num_lt _) (CrcLib.num_lt _) h
  have h2 := CrcLib.num_inj h1
  rw [← CrcLib.ones_twice (CrcLib.F CrcLib.ones a), h2, CrcLib.ones_twice]

/-! ### A record with a byte that is another one -/
def Apart (K : List Int → Prop) : Prop :=
  (∀ p r t t', K p → K r → p ++ t = r ++ t' → p = r) ∧
  (∀ p r w t t', K p → K r → w ≠ [] → numz true w → p ++ t = w ++ (r ++ t') → 128 ≤ r.length → False)
theorem rec_long (K : List Int → Prop) (hK : Apart K) (p r Z Z' u v : List Int) (x y : Int) (hr : r.length ≤ 1000000) (kp : K p) (kr : K r)
    (w : List Int) (hw : w ≠ []) (e1 : putn (p.length : Int) = u ++ [x]) (e2 : putn (r.length : Int) = u ++ y :: w)
    (hx : putn (p.length : Int) ++ (p ++ Z) = u ++ x :: v) (hy : putn (r.length : Int) ++ (r ++ Z') = u ++ y :: v) : False := by
  have h128 : 128 ≤ r.length := by
    rcases Nat.lt_or_ge r.length 128 with h | h
    · rw [show putn (r.length : Int) = [(r.length : Int)] from put_one 9 _ (by omega)] at e2
      have := congrArg List.length e2
      simp only [List.length_append, List.length_cons, List.length_nil] at this
      have hw1 : 1 ≤ w.length := by
        cases w with
        | nil => exact absurd rfl hw
        | cons b w => simp
      omega
    · exact h
  have hz := putn_numz1 r.length (by omega) (by omega)
  rw [e2] at hz hy
  rw [e1] at hx
  rw [List.append_assoc] at hx hy
  have hx := List.append_cancel_left hx
  have hy := List.append_cancel_left hy
  rw [List.singleton_append] at hx
  rw [List.cons_append] at hy
  injection hx with _ hx
  injection hy with _ hy
  exact hK.2 p r w Z Z' kp kr hw (numz_tail true u y w hw hz) (hx.trans hy.symm) h128
theorem rec_split (p Z : List Int) : recL p ++ Z = putn (p.length : Int) ++ (p ++ (sumL p ++ Z)) := by
  unfold recL
  rw [List.append_assoc, List.append_assoc]
theorem rec_one (K : List Int → Prop) (hK : Apart K) (p r Z Z' u v : List Int) (x y : Int) (hp : p.length ≤ 1000000) (hr : r.length ≤ 1000000) (bp : Bytes p) (br : Bytes r) (kp : K p) (kr : K r)
    (hx : recL p ++ Z = u ++ x :: v) (hy : recL r ++ Z' = u ++ y :: v) (hne : x ≠ y) (hu : u.length < (recL p).length) : False := by
  rw [rec_split] at hx hy
  have q1 := putn_numz p.length (by omega)
  have q2 := putn_numz r.length (by omega)
  rcases three u _ _ _ _ x y v q1 q2 hx hy with h | ⟨w, hw, e1, e2⟩ | ⟨w, hw, e1, e2⟩
  · rcases alike _ _ _ _ u x y v h hx hy with ⟨u1, e1, e2, e3, e4⟩ | ⟨w, e1, e2, e3⟩
    · have hl := putn_inj (by omega) (by omega) e1
      have hl : p.length = r.length := by omega
      rcases alike _ _ _ _ u1 x y v hl e3 e4 with ⟨u2, f1, f2, f3, f4⟩ | ⟨w, f1, f2, f3⟩
      · rcases alike _ _ _ _ u2 x y v (show (sumL p).length = (sumL r).length from rfl) f3 f4 with ⟨u3, g1, g2, g3, g4⟩ | ⟨w, g1, g2, g3⟩
        · rw [rec_len, e2, f2, g2, List.length_append, List.length_append, List.length_append, sum_len] at hu
          omega
        · rw [f1, g3] at g2
          have := List.append_cancel_left g2
          injection this with a _
          exact hne a.symm
      · have hs := (List.append_inj f1 (show (sumL p).length = (sumL r).length from rfl)).1
        have hF := sum_inj hs
        have bx : 0 ≤ x ∧ x ≤ 255 := bp x (by rw [f2]; simp)
        have by' : 0 ≤ y ∧ y ≤ 255 := br y (by rw [f3]; simp)
        rw [f2, f3] at hF
        exact of_ne u1 w y x by' bx hne hF
    · have := hK.1 p r _ _ kp kr e1
      rw [this, e3] at e2
      have := List.append_cancel_left e2
      injection this with a _
      exact hne a.symm
  · exact rec_long K hK p r _ _ u v x y hr kp kr w hw e1 e2 hx hy
  · exact rec_long K hK r p _ _ u v y x hp kr kp w hw e1 e2 hy hx
theorem rec_same {p r Z Z' : List Int} (hp : p.length ≤ 1000000) (hr : r.length ≤ 1000000) (h : recL p ++ Z = recL r ++ Z') : p = r ∧ Z = Z' := by
  have h1 := getR_rec p Z (by omega)
  have h2 := getR_rec r Z' (by omega)
  rw [h, h2] at h1
  have e : p = r := (congrArg Prod.fst h1).symm
  rw [e] at h
  exact ⟨e, List.append_cancel_left h⟩
/-- The byte lies behind the first record: the first records are the same. -/
theorem rec_step {p r Z Z' u v : List Int} {x y : Int} (hp : p.length ≤ 1000000) (hr : r.length ≤ 1000000)
    (hx : recL p ++ Z = u ++ x :: v) (hy : recL r ++ Z' = u ++ y :: v) (hu : ¬ u.length < (recL p).length) : ∃ u1, Z = u1 ++ x :: v ∧ Z' = u1 ++ y :: v := by
  have hh : recL p = u.take (recL p).length := by
    have := congrArg (List.take (recL p).length) hx
    rw [List.take_left, List.take_append_of_le_length (by omega)] at this
    exact this
  have hu2 : u = recL p ++ u.drop (recL p).length := by
    have := List.take_append_drop (recL p).length u
    rw [← hh] at this
    exact this.symm
  refine ⟨u.drop (recL p).length, ?_, ?_⟩
  · rw [hu2, List.append_assoc] at hx
    exact List.append_cancel_left hx
  · rw [hu2, List.append_assoc] at hy
    exact (rec_same hr hp hy).2
theorem recs_one (K : List Int → Prop) (hK : Apart K) : ∀ (R R' : List (List Int)) (u v : List Int) (x y : Int), (∀ p ∈ R, K p) → (∀ p ∈ R', K p) → Okay R → Okay R' → recs R = u ++ x :: v → recs R' = u ++ y :: v → x ≠ y → False
  | [], R', u, v, x, y, _, _, _, _, h, _, _ => by
    rw [recs] at h
    simp at h
  | p :: R, [], u, v, x, y, _, _, _, _, _, h, _ => by
    rw [recs] at h
    simp at h
  | p :: R, r :: R', u, v, x, y, k1, k2, o1, o2, h1, h2, hne => by
    have a1 := o1 p List.mem_cons_self
    have a2 := o2 r List.mem_cons_self
    rw [recs] at h1 h2
    by_cases hu : u.length < (recL p).length
    · exact rec_one K hK p r _ _ u v x y a1.1 a2.1 a1.2 a2.2 (k1 p List.mem_cons_self) (k2 r List.mem_cons_self) h1 h2 hne hu
    · obtain ⟨u1, g1, g2⟩ := rec_step a1.1 a2.1 h1 h2 hu
      exact recs_one K hK R R' u1 v x y (fun q hq => k1 q (List.mem_cons_of_mem _ hq)) (fun q hq => k2 q (List.mem_cons_of_mem _ hq)) (fun q hq => o1 q (List.mem_cons_of_mem _ hq)) (fun q hq => o2 q (List.mem_cons_of_mem _ hq)) g1 g2 hne
theorem recs_pre : ∀ (A B : List (List Int)) (z : List Int), Okay A → Okay B → recs A ++ z = recs B → ∃ T, B = A ++ T ∧ recs T = z
  | [], B, z, _, _, h => ⟨B, rfl, h.symm⟩
  | p :: A, [], z, o1, _, h => by
    have := (recL_le (o1 p List.mem_cons_self).1).2
    have hl := congrArg List.length h
    rw [recs, recs, List.length_append, List.length_append, List.length_nil] at hl
    omega
  | p :: A, r :: B, z, o1, o2, h => by
    rw [recs, recs, List.append_assoc] at h
    obtain ⟨e1, e2⟩ := rec_same (o1 p List.mem_cons_self).1 (o2 r List.mem_cons_self).1 h
    obtain ⟨T, g1, g2⟩ := recs_pre A B z (fun q hq => o1 q (List.mem_cons_of_mem _ hq)) (fun q hq => o2 q (List.mem_cons_of_mem _ hq)) e2
    exact ⟨T, by rw [e1, g1]; rfl, g2⟩

/-! ### What stands in a run's records -/
def First (p : List Int) : Prop := ∃ n : Nat, n ≤ 255 ∧ p = putn (n : Int)
def Pay (p : List Int) : Prop := (∃ c : List S44, c ≠ [] ∧ c.length ≤ 255 ∧ (∀ x ∈ c, fineS x) ∧ p = blockB c) ∨ (∃ n : Nat, n ≤ 100000 ∧ p = 0 :: putn (n : Int))
theorem first_apart : Apart First := by
  refine ⟨?_, ?_⟩
  · rintro p r t t' ⟨n, hn, rfl⟩ ⟨m, hm, rfl⟩ h
    exact (numz_pre _ _ _ _ (putn_numz n (by omega)) (putn_numz m (by omega)) h).1
  · rintro p r w t t' _ ⟨m, hm, rfl⟩ _ _ _ h
    have := putn_len (m : Int) (by omega) (by omega)
    omega
theorem numz_zero : numz false [0] := ⟨by decide, fun h => by simp at h⟩
theorem zero_not {w t s : List Int} (hw : numz true w) (h : 0 :: t = w ++ s) : False := by
  have := (numz_pre [0] w t s numz_zero (numz_weak w hw) h).1
  rw [← this] at hw
  have := hw.2 rfl
  omega
theorem block_head {c : List S44} (hc : c ≠ []) (hl : c.length ≤ 255) : ∃ w z, numz true w ∧ blockB c = w ++ (0 :: z) := by
  cases c with
  | nil => exact absurd rfl hc
  | cons x c =>
    refine ⟨putn ((x :: c).length : Int), putn (((wd x).length - sh [] (wd x) : Nat) : Int) ++ (wd x).drop (sh [] (wd x)) ++ putn x.f1 ++ entsB (wd x) c, putn_numz1 _ (by omega) (by simp), ?_⟩
    unfold blockB
    rw [entsB, entB]
    have e : putn ((sh [] (wd x) : Nat) : Int) = [0] := put_one 9 0 (by decide)
    rw [e]
    simp only [List.append_assoc, List.singleton_append, List.cons_append, List.nil_append]
theorem unblock_more (l : List S44) (h : ∀ x ∈ l, fineS x) (hl : l.length ≤ 255) (rest : List Int) (hr : Bytes rest) (hrl : rest.length ≤ 1000000) : run_unblock.f (blockB l ++ rest) = some (l, rest.length == 0) := by
  have hb := blockB_bytes h (by omega)
  unfold run_unblock.f
  rw [NumLib.get_f _ (bytes_append hb hr)]
  unfold blockB
  rw [List.append_assoc, get_put _ (by omega) (by omega), Option.bind_some]
  simp only [Int.toNat_natCast, List.drop_left]
  rw [if_neg (by simp), if_neg (by omega), if_pos (by omega)]
  exact unblock_go l ⟨#[]⟩ rest [] h hr (by decide) (by simp; omega) (by omega) hrl
theorem block_pre {c d : List S44} (hc : ∀ x ∈ c, fineS x) (hcl : c.length ≤ 255) (hd : ∀ x ∈ d, fineS x) (hdl : d.length ≤ 255) (a : List Int) (h : blockB d = blockB c ++ a) : a = [] := by
  have hb := blockB_bytes hd (by omega)
  have hl := blockB_len hd (by omega)
  rw [h] at hb hl
  rw [List.length_append] at hl
  have h1 := unblock_f d hd hdl
  rw [h, unblock_more c hc hcl a (fun x hx => hb x (List.mem_append_right _ hx)) (by omega)] at h1
  have h2 := congrArg Prod.snd (Option.some.inj h1)
  simp only at h2
  exact List.eq_nil_of_length_eq_zero (by simpa using h2)
theorem block_same {c d : List S44} (hc : ∀ x ∈ c, fineS x) (hcl : c.length ≤ 255) (hd : ∀ x ∈ d, fineS x) (hdl : d.length ≤ 255) (t t' : List Int) (h : blockB c ++ t = blockB d ++ t') : blockB c = blockB d := by
  rcases List.append_eq_append_iff.1 h with ⟨a, h1, _⟩ | ⟨a, h1, _⟩
  · have := block_pre hc hcl hd hdl a h1
    rw [h1, this, List.append_nil]
  · have := block_pre hd hdl hc hcl a h1
    rw [h1, this, List.append_nil]
theorem pay_apart : Apart Pay := by
  refine ⟨?_, ?_⟩
  · rintro p r t t' (⟨c, c1, c2, c3, rfl⟩ | ⟨n, hn, rfl⟩) (⟨d, d1, d2, d3, rfl⟩ | ⟨m, hm, rfl⟩) h
    · exact block_same c3 c2 d3 d2 t t' h
    · obtain ⟨w, z, hw, e⟩ := block_head c1 c2
      rw [e, List.append_assoc] at h
      exact (zero_not hw h.symm).elim
    · obtain ⟨w, z, hw, e⟩ := block_head d1 d2
      rw [e, List.append_assoc] at h
      exact (zero_not hw h).elim
    · rw [List.cons_append, List.cons_append] at h
      injection h with _ h
      rw [(numz_pre _ _ _ _ (putn_numz n (by omega)) (putn_numz m (by omega)) h).1]
  · rintro p r w t t' hp hr hw hz h hlong
    rcases hp with ⟨c, c1, c2, c3, rfl⟩ | ⟨n, hn, rfl⟩
    · obtain ⟨w2, z, hw2, e⟩ := block_head c1 c2
      rw [e, List.append_assoc] at h
      have h2 := (numz_pre _ _ _ _ (numz_weak _ hw2) (numz_weak _ hz) h).2
      rcases hr with ⟨d, d1, d2, d3, rfl⟩ | ⟨m, hm, rfl⟩
      · obtain ⟨w3, z3, hw3, e3⟩ := block_head d1 d2
        rw [e3, List.append_assoc] at h2
        exact zero_not hw3 h2
      · have := putn_len (m : Int) (by omega) (by omega)
        rw [List.length_cons] at hlong
        omega
    · exact zero_not hz h

/-! ### Runs -/
def restR (l : List S44) (size : Nat) : List (List Int) := (chunks size l.length l).map blockB ++ [0 :: putn (l.length : Int)]
theorem encR_rest (l : List S44) (size : Nat) : encR l size = putn (size : Int) :: restR l size := by
  unfold encR restR
  rw [show putn 0 ++ putn (l.length : Int) = 0 :: putn (l.length : Int) from by rw [show putn 0 = [0] from put_one 9 0 (by decide)]; rfl]
  rfl
theorem blocks_pay (l : List S44) (hf : ∀ x ∈ l, fineS x) (size : Nat) (h1 : 1 ≤ size) (hs : size ≤ 255) : ∀ p ∈ (chunks size l.length l).map blockB, ∃ c : List S44, c ≠ [] ∧ c.length ≤ 255 ∧ (∀ x ∈ c, fineS x) ∧ p = blockB c := by
  intro p hp
  obtain ⟨c, hc, rfl⟩ := List.mem_map.1 hp
  rcases chunks_mem size _ l c hc with hm | hm
  · exact ⟨c, hm.2, by omega, chunks_fine size _ l hf c hc, rfl⟩
  · omega
theorem rest_pay (l : List S44) (hf : ∀ x ∈ l, fineS x) (hl : l.length ≤ 100000) (size : Nat) (h1 : 1 ≤ size) (hs : size ≤ 255) : ∀ p ∈ restR l size, Pay p := by
  intro p hp
  rcases List.mem_append.1 hp with hp | hp
  · exact .inl (blocks_pay l hf size h1 hs p hp)
  · exact .inr ⟨l.length, hl, List.mem_singleton.1 hp⟩
def Runs (b : List Int) : Prop := ∃ (l : List S44) (size : Nat), 1 ≤ size ∧ size ≤ 255 ∧ mayS l = 0 ∧ l.length ≤ 100000 ∧ encB l size = b
theorem run_other {u v : List Int} {x y : Int} (h1 : Runs (u ++ x :: v)) (h2 : Runs (u ++ y :: v)) (hne : x ≠ y) : False := by
  obtain ⟨l, n, n1, n2, hm, hl, e1⟩ := h1
  obtain ⟨l', n', n1', n2', hm', hl', e2⟩ := h2
  have hf := (mayS_zero hm).1
  have hf' := (mayS_zero hm').1
  have o1 := encR_ok l hf hl n n2 n1
  have o2 := encR_ok l' hf' hl' n' n2' n1'
  unfold encB at e1 e2
  rw [encR_rest] at o1 o2 e1 e2
  rw [recs] at e1 e2
  have a1 := o1 _ List.mem_cons_self
  have a2 := o2 _ List.mem_cons_self
  by_cases hu : u.length < (recL (putn (n : Int))).length
  · exact rec_one First first_apart _ _ _ _ u v x y a1.1 a2.1 a1.2 a2.2 ⟨n, n2, rfl⟩ ⟨n', n2', rfl⟩ e1 e2 hne hu
  · obtain ⟨u1, g1, g2⟩ := rec_step a1.1 a2.1 e1 e2 hu
    exact recs_one Pay pay_apart _ _ u1 v x y (rest_pay l hf hl n n1 n2) (rest_pay l' hf' hl' n' n1' n2') (fun q hq => o1 q (List.mem_cons_of_mem _ hq)) (fun q hq => o2 q (List.mem_cons_of_mem _ hq)) g1 g2 hne
theorem run_more {b : List Int} {z : Int} (h1 : Runs b) (h2 : Runs (b ++ [z])) : False := by
  obtain ⟨l, n, n1, n2, hm, hl, e1⟩ := h1
  obtain ⟨l', n', n1', n2', hm', hl', e2⟩ := h2
  have o1 := encR_ok l (mayS_zero hm).1 hl n n2 n1
  have o2 := encR_ok l' (mayS_zero hm').1 hl' n' n2' n1'
  rw [← e1] at e2
  obtain ⟨T, hT, hz⟩ := recs_pre _ _ [z] o1 o2 e2.symm
  cases T with
  | nil => simp [recs] at hz
  | cons p T =>
    have := (recL_le (p := p) (o2 p (by rw [hT]; simp)).1).2
    have hl := congrArg List.length hz
    rw [recs, List.length_append, List.length_singleton] at hl
    omega
theorem run_begin {b z : List Int} (hz : z ≠ []) (h1 : Runs b) (h2 : Runs (b ++ z)) : False := by
  obtain ⟨l, n, n1, n2, hm, hl, e1⟩ := h1
  obtain ⟨l', n', n1', n2', hm', hl', e2⟩ := h2
  have o1 := encR_ok l (mayS_zero hm).1 hl n n2 n1
  have o2 := encR_ok l' (mayS_zero hm').1 hl' n' n2' n1'
  rw [← e1] at e2
  obtain ⟨T, hT, hTz⟩ := recs_pre _ _ z o1 o2 e2.symm
  have hne : T ≠ [] := fun e => hz (by rw [← hTz, e]; rfl)
  obtain ⟨T1, t, rfl⟩ : ∃ T1 t, T = T1 ++ [t] := ⟨T.dropLast, T.getLast hne, (List.dropLast_concat_getLast hne).symm⟩
  rw [encR_rest, encR_rest, List.cons_append] at hT
  injection hT with _ hT
  unfold restR at hT
  rw [← List.append_assoc] at hT
  have hT2 := (List.append_inj' hT rfl).1
  have hmem : (0 :: putn (l.length : Int)) ∈ (chunks n' l'.length l').map blockB := by
    rw [hT2]
    simp
  obtain ⟨c, c1, c2, c3, e⟩ := blocks_pay l' (mayS_zero hm').1 n' n1' n2' _ hmem
  obtain ⟨w, z2, hw, e3⟩ := block_head c1 c2
  rw [e3] at e
  exact zero_not hw e
theorem read_runs {b : List Int} {r : List S44 × Int} (hb : b.length ≤ 100000) (h : Read b r) (hn : ¬ Runs b) : r.2 = 2 := by
  rcases h with h | ⟨x, size, _, h1, h2, h3, h4, h5⟩
  · rw [h]
  · exact (hn ⟨x, size, h1, h2, h3, by omega, h5⟩).elim
end Go.Proofs.Ytmfngihgoanhpaa.RunLib
