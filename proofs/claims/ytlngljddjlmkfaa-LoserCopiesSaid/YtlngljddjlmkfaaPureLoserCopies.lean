/- As many copies of one list have counts as many times as great, if these aren't too great: for all lists. -/
import Derived.Test.YtlngljddjlmkfaaShownLib
import Derived.Test.YtlngljddjlmkfaaLoserRow
import Derived.Test.YtlngljddjlmkfaaPLsx6
namespace Go.Proofs.Ytlngljddjlmkfaa.Pure
open Go.RowKit Go.Proofs.Ytlngljddjlmkfaa.PLs Go.Proofs.YtlngljddjlmkfaaW.PrintWords Go.Proofs.YtlngljddjlmkfaaW.PrintLast Go.Proofs.YtlngljddjlmkfaaW.PrintMore Go.Proofs.Ytlngljddjlmkfaa.LoserLib
set_option linter.unusedVariables false
set_option linter.unusedSimpArgs false

theorem cnt_rep (l : List E1) (w : List UInt8) : ∀ k : Nat, cnt (List.replicate k l).flatten w = (k : Int) * cnt l w
  | 0 => by simp [cnt]
  | k + 1 => by
    rw [List.replicate_succ, List.flatten_cons, cnt_append, cnt_rep l w k]
    push_cast
    rw [Int.add_mul]
    omega
theorem len_rep (l : List E1) : ∀ k : Nat, (List.replicate k l).flatten.length = k * l.length
  | 0 => by simp
  | k + 1 => by
    rw [List.replicate_succ, List.flatten_cons, List.length_append, len_rep l k, Nat.succ_mul]
    omega
def times (k : Nat) (l : List E1) : List E1 := l.map fun x => (⟨x.f0, (k : Int) * x.f1⟩ : E1)
theorem cnt_times (k : Nat) : ∀ (l : List E1) (w : List UInt8), cnt (times k l) w = (k : Int) * cnt l w
  | [], w => by simp [times, cnt]
  | x :: l, w => by
    have ih := cnt_times k l w
    unfold times at ih ⊢
    rw [List.map_cons, cnt, cnt, ih, Int.mul_add]
    have hk : key (⟨x.f0, (k : Int) * x.f1⟩ : E1) = key x := rfl
    rw [hk]
    split
    · rfl
    · simp
theorem ris_times {k : Nat} {l : List E1} (h : Ris l) : Ris (times k l) := by
  unfold times Ris
  rw [List.pairwise_map]
  exact h
def fitE (m : Nat) (x : E1) : Bool := decide (m = 0 ∨ x.f1 ≤ MAXC / (m : Int))
theorem fitE_iff {m : Nat} (h1 : 1 ≤ m) (x : E1) : fitE m x = true ↔ (m : Int) * x.f1 ≤ MAXC := by
  unfold fitE
  rw [decide_eq_true_iff]
  have := Int.le_ediv_iff_mul_le (a := x.f1) (b := MAXC) (c := (m : Int)) (by omega)
  rw [Int.mul_comm]
  constructor
  · rintro (h | h)
    · omega
    · exact this.1 h
  · exact fun h => .inr (this.2 h)
theorem u64_nat (m : Nat) (h : m < 20) : IntKind.u64.wrap (m : Int) = m := by
  simp only [IntKind.wrap, IntKind.bits, IntKind.signed]
  simp
  omega
theorem u64_div (m : Nat) (h : m < 20) (h1 : 1 ≤ m) : IntKind.u64.wrap ((4611686018427387904 : Int) / (m : Int)) = 4611686018427387904 / (m : Int) := by
  have h2 : (0 : Int) ≤ 4611686018427387904 / (m : Int) := Int.ediv_nonneg (by decide) (by omega)
  have h3 : (4611686018427387904 : Int) / (m : Int) ≤ 4611686018427387904 := Int.ediv_le_self _ (by decide)
  generalize (4611686018427387904 : Int) / (m : Int) = q at h2 h3 ⊢
  simp only [IntKind.wrap, IntKind.bits, IntKind.signed]
  simp
  omega
theorem u64_id {a : Int} (h0 : 0 ≤ a) (h1 : a ≤ MAXC) : IntKind.u64.wrap a = a := by
  have hM : MAXC = 4611686018427387904 := rfl
  rw [hM] at h1
  simp only [IntKind.wrap, IntKind.bits, IntKind.signed]
  simp
  omega
def fin (k : Nat) (l all : List E1) (m : Nat) (e : Int) (b : Bool) : Option Bool :=
  if b = true then (if (m : Int) = 0 then (if e = 0 then some ((all.length : Int) == 0) else none) else (if e = 0 then manteletlaw11_LoserCopies.j3 k l true (m : Int) all ((all.length : Int) != (l.length : Int)) else manteletlaw11_LoserCopies.j3 k l true (m : Int) all true)) else (if e = 5 then some ((all.length : Int) == 0) else none)
theorem copies_l1 (l all : List E1) (e : Int) (m : Nat) (hm : m < 20) (hl : l.length ≤ 60) : ∀ (d i k : Nat) (b : Bool), i + d = l.length → d + 1 < k → manteletlaw11_LoserCopies.l1 k l true (m : Int) all e b i = fin (k - d - 1) l all m e (b && (l.drop i).all (fitE m)) := by
  intro d
  induction d with
  | zero =>
    intro i k b hi hk
    obtain ⟨k, rfl⟩ : ∃ m, k = m + 1 := ⟨k - 1, by omega⟩
    rw [manteletlaw11_LoserCopies.l1, if_neg (by omega), List.drop_of_length_le (by omega), List.all_nil, Bool.and_true]
    unfold fin
    rw [if_pos (show true = true from rfl), if_pos (show true = true from rfl)]
    rfl
  | succ d ih =>
    intro i k b hi hk
    obtain ⟨k, rfl⟩ : ∃ m, k = m + 1 := ⟨k - 1, by omega⟩
    have hil : i < l.length := by omega
    rw [List.drop_eq_getElem_cons hil, List.all_cons, manteletlaw11_LoserCopies.l1, if_pos (by omega), wr1 i (by omega)]
    have e2 : k + 1 - (d + 1) - 1 = k - d - 1 := by omega
    rw [e2]
    cases b with
    | false =>
      rw [if_neg (by simp), ih (i + 1) k false (by omega) (by omega), Bool.false_and, Bool.false_and]
    | true =>
      rw [if_pos rfl]
      by_cases h0 : m = 0
      · subst h0
        rw [if_pos (show ((0 : Nat) : Int) = 0 from rfl), ih (i + 1) k true (by omega) (by omega)]
        have : fitE 0 l[i] = true := by unfold fitE; exact decide_eq_true (.inl rfl)
        rw [this, Bool.true_and, Bool.true_and]
      · have hd : decide (l[i].f1 ≤ 4611686018427387904 / (m : Int)) = fitE m l[i] := by
          unfold fitE
          have hM : MAXC = 4611686018427387904 := rfl
          rw [hM]
          congr 1
          exact propext ⟨fun h => .inr h, fun h => h.resolve_left h0⟩
        rw [if_neg (by omega), if_pos (by omega), u64_nat m hm, if_neg (by omega), u64_div m hm (by omega), rdT_eq l i hil, hd, ih (i + 1) k _ (by omega) (by omega), Bool.true_and]
theorem copies_l2 (l : List E1) (m : Nat) (hm : m < 20) (hl : l.length ≤ 60) (hp : Pos (times m l)) : ∀ (d i k : Nat), i + d = l.length → d + 1 < k → manteletlaw11_LoserCopies.l2 k l true (m : Int) (times m l) i = some true := by
  have hlen : (times m l).length = l.length := by unfold times; rw [List.length_map]
  intro d
  induction d with
  | zero =>
    intro i k hi hk
    obtain ⟨k, rfl⟩ : ∃ m, k = m + 1 := ⟨k - 1, by omega⟩
    rw [manteletlaw11_LoserCopies.l2, if_neg (by omega)]
  | succ d ih =>
    intro i k hi hk
    obtain ⟨k, rfl⟩ : ∃ m, k = m + 1 := ⟨k - 1, by omega⟩
    have hil : i < l.length := by omega
    have hit : i < (times m l).length := by omega
    have hat : (times m l)[i] = (⟨l[i].f0, (m : Int) * l[i].f1⟩ : E1) := by simp [times]
    have hb := hp _ (List.getElem_mem hit)
    rw [hat] at hb
    have hw : IntKind.u64.wrap ((m : Int) * l[i].f1) = (m : Int) * l[i].f1 := u64_id (Int.le_trans (by decide) hb.1) hb.2
    rw [manteletlaw11_LoserCopies.l2, if_pos (by omega), if_pos (by omega), if_pos (by omega), rdT_eq _ i hit, rdT_eq l i hil, hat, if_pos rfl, u64_nat m hm, hw, if_pos rfl, wr1 i (by omega)]
    exact ih (i + 1) k (by omega) (by omega)
theorem copies_l0 (l : List E1) (m : Nat) (hm : m < 20) : ∀ (d i k : Nat), i + d = m → d < k → manteletlaw11_LoserCopies.l0 k l true (m : Int) (List.replicate i l) i = (loser_Merge.f (k - d - 1) (List.replicate m l)).bind fun b => manteletlaw11_LoserCopies.l1 (k - d - 1) l true (m : Int) b.1 b.2 true 0 := by
  intro d
  induction d with
  | zero =>
    intro i k hi hk
    obtain ⟨k, rfl⟩ : ∃ m, k = m + 1 := ⟨k - 1, by omega⟩
    rw [manteletlaw11_LoserCopies.l0, if_neg (by omega), show i = m by omega]
    rfl
  | succ d ih =>
    intro i k hi hk
    obtain ⟨k, rfl⟩ : ∃ m, k = m + 1 := ⟨k - 1, by omega⟩
    have hr : List.replicate i l ++ [l] = List.replicate (i + 1) l := List.replicate_succ'.symm
    have e2 : k + 1 - (d + 1) - 1 = k - d - 1 := by omega
    rw [manteletlaw11_LoserCopies.l0, if_pos (by omega), if_pos (by rw [List.length_replicate]; omega), wr1 i (by omega), hr, ih (i + 1) k (by omega) (by omega), e2]
theorem copies_all (l : List E1) (hl : l.length ≤ 60) (hmay : mayS l = 0) (m : Nat) (hm : m < 20) (k : Nat) (hk : 700000 < k) (hk2 : k ≤ 800000) : manteletlaw11_LoserCopies.l0 k l true (m : Int) [] 0 = some true := by
  obtain ⟨hr, hp⟩ := may_ris hmay
  have h0 := copies_l0 l m hm m 0 k (by omega) (by omega)
  rw [show List.replicate 0 l = ([] : List (List E1)) from rfl, Int.natCast_zero] at h0
  rw [h0]
  have hflat := len_rep l m
  have hfl : m * l.length ≤ 20 * 60 := Nat.mul_le_mul (by omega) hl
  have hallmay : ∀ x ∈ List.replicate m l, mayS x = 0 := fun x hx => by rw [(List.mem_replicate.1 hx).2]; exact hmay
  obtain ⟨r, r1, r2, _⟩ := merge_f (k - m - 1) (List.replicate m l) (by rw [List.length_replicate]; omega) (fun x hx => by rw [(List.mem_replicate.1 hx).2]; omega) (by omega) (by omega) (by omega)
  have hres := r2 (badS_of hallmay)
  have hc := fun w => cnt_rep l w m
  have h1 := copies_l1 l r.1 r.2 m hm hl l.length 0 (k - m - 1) true (by omega) (by omega)
  rw [Int.natCast_zero, List.drop_zero, Bool.true_and] at h1
  rw [r1, Option.bind_some, h1]
  by_cases hz : m = 0
  · subst hz
    have hall : l.all (fitE 0) = true := List.all_eq_true.2 (fun x _ => by unfold fitE; exact decide_eq_true (.inl rfl))
    have h2 : r.2 = 0 := res_ok hres (fun w => by rw [hc]; simp)
    have hlen : r.1.length < 1 := by
      rcases hres with ⟨_, q1, q2, q3⟩ | ⟨q, _⟩
      · exact ris_len q1 q2 q3 (by simp)
      · rw [q]; simp
    have he : r.1 = [] := List.eq_nil_of_length_eq_zero (by omega)
    rw [hall]
    unfold fin
    rw [if_pos rfl, if_pos (show ((0 : Nat) : Int) = 0 from rfl), if_pos h2, he]
    rfl
  · by_cases hall : l.all (fitE m) = true
    · have hfit := List.all_eq_true.1 hall
      have hpt : Pos (times m l) := fun y hy => by
        unfold times at hy
        obtain ⟨x, hx, rfl⟩ := List.mem_map.1 hy
        have h3 := (fitE_iff (by omega) x).1 (hfit x hx)
        have h4 := (hp x hx).1
        refine ⟨?_, h3⟩
        show 1 ≤ (m : Int) * x.f1
        have : (1 : Int) * 1 ≤ (m : Int) * x.f1 := Int.mul_le_mul (by omega) h4 (by decide) (by omega)
        omega
      have hrt := ris_times (k := m) hr
      have h2 : r.2 = 0 := res_ok hres (fun w => by rw [hc, ← cnt_times]; exact cnt_small hrt hpt w)
      have he : r.1 = times m l := by
        rcases hres with ⟨_, q1, q2, q3⟩ | ⟨q, _⟩
        · exact ris_same q1 hrt q2 hpt (fun w => by rw [q3, hc, cnt_times])
        · rw [q] at h2; exact absurd h2 (by simp)
      have hlen : (times m l).length = l.length := by unfold times; rw [List.length_map]
      obtain ⟨n, hn⟩ : ∃ n, k - m - 1 - l.length - 1 = n + 1 := ⟨k - m - 1 - l.length - 2, by omega⟩
      rw [hall]
      unfold fin
      rw [if_pos rfl, if_neg (by omega), if_pos h2, he, hlen, hn, show ((l.length : Int) != (l.length : Int)) = false from bne_self_eq_false _, manteletlaw11_LoserCopies.j3, if_neg (by simp)]
      exact copies_l2 l m hm hl hpt l.length 0 n (by omega) (by omega)
    · have hall : l.all (fitE m) = false := by simpa using hall
      obtain ⟨x, hx, hxf⟩ := List.all_eq_false.1 hall
      have h3 : MAXC < (m : Int) * x.f1 := by
        have := mt (fitE_iff (by omega) x).2 hxf
        omega
      have h4 := hc (key x)
      rw [cnt_one hr hx] at h4
      have he : r = ([], 5) := by
        rcases hres with ⟨_, q1, q2, q3⟩ | ⟨q, _⟩
        · have := cnt_small q1 q2 (key x)
          rw [q3, h4] at this
          omega
        · exact q
      rw [hall]
      unfold fin
      rw [if_neg (by simp), he, if_pos rfl]
      rfl
theorem LoserCopies (l0 : List E1) (a1 : Int) (w0 : l0.length ≤ maxLen ∧ ∀ y ∈ l0, y.f0.size ≤ maxLen ∧ (Lit.int .u64 y.f1).wf = true) (w1 : (Lit.int .u8 a1).wf = true) : ∃ k, manteletlaw11_LoserCopies.f k l0 a1 = some true := by
  refine ⟨750000 + 1, ?_⟩
  have hw : 0 ≤ a1 ∧ a1 ≤ 255 := by simp [Lit.wf, IntKind.min, IntKind.max, IntKind.bits, IntKind.signed] at w1; omega
  have hj : ∀ q, q = true → manteletlaw11_LoserCopies.j0 (750000 + 1) l0 a1 true q = some true := by
    intro q hq
    rw [hq, manteletlaw11_LoserCopies.j0, if_pos rfl]
  unfold manteletlaw11_LoserCopies.f
  rw [shown_f (750000 + 1) (by omega) (by omega), Option.bind_some]
  by_cases hl : (l0.length : Int) > 60
  · rw [if_pos hl]
    exact hj _ rfl
  · rw [if_neg hl, may_f (750000 + 1) l0 (by omega) (by omega), Option.bind_some]
    by_cases hm : mayS l0 = 0
    · obtain ⟨m, h1, h2⟩ : ∃ m : Nat, m < 20 ∧ wrap64 (Int.tmod a1 20) = (m : Int) := by
        refine ⟨(a1 % 20).toNat, by omega, ?_⟩
        rw [Int.tmod_eq_emod_of_nonneg hw.1]
        unfold wrap64
        omega
      rw [hm, show ((0 : Int) != 0) = false from rfl, manteletlaw11_LoserCopies.j0, if_neg (by simp), h2]
      exact copies_all l0 (by omega) hm m h1 750000 (by omega) (by omega)
    · exact hj _ (bne_iff_ne.2 hm)
end Go.Proofs.Ytlngljddjlmkfaa.Pure
