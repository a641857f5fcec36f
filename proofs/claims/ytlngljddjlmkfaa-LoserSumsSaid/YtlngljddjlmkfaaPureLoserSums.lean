/- Each word of each list is told, with its counts together, and none else: for all lists. -/
import Derived.Test.YtlngljddjlmkfaaRefMerge
import Derived.Test.YtlngljddjlmkfaaLoserRow
import Derived.Test.YtlngljddjlmkfaaPLoserx8
namespace Go.Proofs.Ytlngljddjlmkfaa.Pure
open Go.RowKit Go.Proofs.Ytlngljddjlmkfaa.PLoser Go.Proofs.YtlngljddjlmkfaaW.PrintWords Go.Proofs.YtlngljddjlmkfaaW.PrintLast Go.Proofs.YtlngljddjlmkfaaW.PrintMore Go.Proofs.Ytlngljddjlmkfaa.LoserLib
set_option linter.unusedVariables false
set_option linter.unusedSimpArgs false

theorem u64_id {a : Int} (h0 : 0 ≤ a) (h1 : a ≤ MAXC) : IntKind.u64.wrap a = a := by
  have hM : MAXC = 4611686018427387904 := rfl
  rw [hM] at h1
  simp only [IntKind.wrap, IntKind.bits, IntKind.signed]
  simp
  omega
theorem flat_take_succ (ls : List (List E1)) (j : Nat) (hj : j < ls.length) (w : List UInt8) : cnt (ls.take (j + 1)).flatten w = cnt (ls.take j).flatten w + cnt ls[j] w := by
  rw [List.take_add_one, List.getElem?_eq_getElem hj]
  show cnt (ls.take j ++ [ls[j]]).flatten w = _
  rw [List.flatten_append, cnt_append, List.flatten_cons, List.flatten_nil, List.append_nil]
theorem flat_take_le (ls : List (List E1)) (hp : Pos ls.flatten) (j : Nat) (w : List UInt8) : 0 ≤ cnt (ls.take j).flatten w ∧ cnt (ls.take j).flatten w ≤ cnt ls.flatten w := by
  have e : ls.flatten = (ls.take j).flatten ++ (ls.drop j).flatten := by rw [← List.flatten_append, List.take_append_drop]
  have h1 : Pos (ls.take j).flatten := fun x hx => hp x (by rw [e]; exact List.mem_append_left _ hx)
  have h2 : Pos (ls.drop j).flatten := fun x hx => hp x (by rw [e]; exact List.mem_append_right _ hx)
  have h3 := cnt_ge h1 w
  have h4 := cnt_ge h2 w
  rw [e, cnt_append]
  omega
section
variable (ls : List (List E1)) (hl : ls.length ≤ 20) (hll : ∀ l ∈ ls, l.length ≤ 60) (hmay : ∀ l ∈ ls, Ris l ∧ Pos l) (all : List E1) (hr : Ris all) (hp : Pos all) (hc : ∀ w, cnt all w = cnt ls.flatten w) (ha : all.length ≤ 2000)
include hl hll hmay hr hp hc ha
theorem sums_l3 (i : Nat) (hi : i < ls.length) (K : Nat) (hK : 3000 < K) (h : ∀ k, K < k → manteletlaw11_LoserSums.l2 k ls true all ((i + 1 : Nat) : Int) = some true) : ∀ (d j k : Nat), j + d = ls[i].length → K + d + 1 < k → manteletlaw11_LoserSums.l3 k ls true all i j = some true := by
  have _hp := hp
  have hli := hll _ (List.getElem_mem hi)
  have hrd := rdL_eq ls i hi
  intro d
  induction d with
  | zero =>
    intro j k hj hk
    obtain ⟨k, rfl⟩ : ∃ m, k = m + 1 := ⟨k - 1, by omega⟩
    rw [manteletlaw11_LoserSums.l3, if_pos (by omega), if_pos (by omega), hrd, if_neg (by omega), wr1 i (by omega)]
    exact h k (by omega)
  | succ d ih =>
    intro j k hj hk
    obtain ⟨k, rfl⟩ : ∃ m, k = m + 1 := ⟨k - 1, by omega⟩
    have hjl : j < ls[i].length := by omega
    have hx := (hmay _ (List.getElem_mem hi)).2 _ (List.getElem_mem hjl)
    have hmem : ls[i][j] ∈ ls.flatten := List.mem_flatten.2 ⟨_, List.getElem_mem hi, List.getElem_mem hjl⟩
    have hpf : Pos ls.flatten := flat_pos hmay
    have hcm := cnt_mem hpf hmem
    rw [manteletlaw11_LoserSums.l3, if_pos (by omega), if_pos (by omega), hrd, if_pos (by omega), if_pos (by omega), rdT_eq _ j hjl, get_f all hr (by omega) _ k (by omega), Option.bind_some, show ls[i][j].f0.toList = key ls[i][j] from rfl, hc, if_neg (by omega), wr1 j (by omega)]
    exact ih (j + 1) k (by omega) (by omega)
theorem sums_l2 : ∀ (d i k : Nat), i + d = ls.length → 100 * d + 3100 < k → manteletlaw11_LoserSums.l2 k ls true all i = some true := by
  intro d
  induction d with
  | zero =>
    intro i k hi hk
    obtain ⟨k, rfl⟩ : ∃ m, k = m + 1 := ⟨k - 1, by omega⟩
    rw [manteletlaw11_LoserSums.l2, if_neg (by omega)]
  | succ d ih =>
    intro i k hi hk
    obtain ⟨k, rfl⟩ : ∃ m, k = m + 1 := ⟨k - 1, by omega⟩
    have hil : i < ls.length := by omega
    have hli := hll _ (List.getElem_mem hil)
    rw [manteletlaw11_LoserSums.l2, if_pos (by omega)]
    exact sums_l3 ls hl hll hmay all hr hp hc ha i hil (100 * d + 3100) (by omega) (fun k' hk' => ih (i + 1) k' (by omega) hk') ls[i].length 0 k (by omega) (by omega)
theorem sums_l1 (i : Nat) (hi : i < all.length) (K : Nat) (hK : 3000 < K) (h : ∀ k, K < k → manteletlaw11_LoserSums.l0 k ls true all ((i + 1 : Nat) : Int) = some true) : ∀ (d j k : Nat), j + d = ls.length → K + d + 1 < k → manteletlaw11_LoserSums.l1 k ls true all i (cnt (ls.take j).flatten (key all[i])) j = some true := by
  intro d
  induction d with
  | zero =>
    intro j k hj hk
    obtain ⟨k, rfl⟩ : ∃ m, k = m + 1 := ⟨k - 1, by omega⟩
    have e : cnt (ls.take j).flatten (key all[i]) = all[i].f1 := by
      rw [List.take_of_length_le (by omega), ← hc, cnt_one hr (List.getElem_mem hi)]
    rw [manteletlaw11_LoserSums.l1, if_neg (by omega), if_pos (by omega), if_pos (by omega), rdT_eq all i hi, if_pos e, wr1 i (by omega)]
    exact h k (by omega)
  | succ d ih =>
    intro j k hj hk
    obtain ⟨k, rfl⟩ : ∃ m, k = m + 1 := ⟨k - 1, by omega⟩
    have hjl : j < ls.length := by omega
    have hlj := hll _ (List.getElem_mem hjl)
    have hpf : Pos ls.flatten := flat_pos hmay
    have hs := flat_take_succ ls j hjl (key all[i])
    have hle := flat_take_le ls hpf (j + 1) (key all[i])
    have hsm := cnt_small hr hp (key all[i])
    rw [hc] at hsm
    rw [manteletlaw11_LoserSums.l1, if_pos (by omega), if_pos (by omega), if_pos (by omega), if_pos (by omega), rdL_eq ls j hjl, rdT_eq all i hi, get_f _ (hmay _ (List.getElem_mem hjl)).1 (by omega) _ k (by omega), Option.bind_some, show all[i].f0.toList = key all[i] from rfl, ← hs, u64_id hle.1 (by omega), wr1 j (by omega)]
    exact ih (j + 1) k (by omega) (by omega)
theorem sums_l0 : ∀ (d i k : Nat), i + d = all.length → 100 * d + 10000 < k → manteletlaw11_LoserSums.l0 k ls true all i = some true := by
  intro d
  induction d with
  | zero =>
    intro i k hi hk
    obtain ⟨k, rfl⟩ : ∃ m, k = m + 1 := ⟨k - 1, by omega⟩
    rw [manteletlaw11_LoserSums.l0, if_neg (by omega)]
    exact sums_l2 ls hl hll hmay all hr hp hc ha ls.length 0 k (by omega) (by omega)
  | succ d ih =>
    intro i k hi hk
    obtain ⟨k, rfl⟩ : ∃ m, k = m + 1 := ⟨k - 1, by omega⟩
    have hil : i < all.length := by omega
    rw [manteletlaw11_LoserSums.l0, if_pos (by omega)]
    have := sums_l1 ls hl hll hmay all hr hp hc ha i hil (100 * d + 10000) (by omega) (fun k' hk' => ih (i + 1) k' (by omega) hk') ls.length 0 k (by omega) (by omega)
    rw [List.take_zero] at this
    exact this
end
theorem LoserSums (l0 : List (List E1)) (w0 : l0.length ≤ maxLen ∧ ∀ x ∈ l0, x.length ≤ maxLen ∧ ∀ y ∈ x, y.f0.size ≤ maxLen ∧ (Lit.int .u64 y.f1).wf = true) : ∃ k, manteletlaw11_LoserSums.f k l0 = some true := by
  refine ⟨800000, ?_⟩
  obtain ⟨b, hb, h2⟩ := few_f l0 800000 (by omega)
  unfold manteletlaw11_LoserSums.f
  rw [shown_f 800000 (by omega) (by omega), Option.bind_some, hb, Option.bind_some]
  cases b with
  | false => rw [if_neg (by simp)]
  | true =>
    have hf := h2 rfl
    have hfl := few_flat hf
    obtain ⟨r, r1, r2, r3⟩ := merge_f 800000 l0 (by have := hf.1; omega) (fun l hl => by have := hf.2 l hl; omega) (by omega) (by omega) (by omega)
    rw [if_pos rfl, r1, Option.bind_some]
    by_cases hz : r.2 = 0
    · rw [if_pos hz]
      have hbad : badS l0 = 0 := by
        by_cases hbad : badS l0 = 0
        · exact hbad
        · rw [r3 hbad] at hz
          exact absurd hz hbad
      rcases r2 hbad with ⟨_, q1, q2, q3⟩ | ⟨q, _⟩
      · have hlen := ris_len q1 q2 q3 (n := 1201) (by omega)
        exact sums_l0 l0 hf.1 hf.2 (fun l hlm => may_ris (badS_zero hbad l hlm)) r.1 q1 q2 q3 (by omega) r.1.length 0 800000 (by omega) (by omega)
      · rw [q] at hz
        exact absurd hz (by simp)
    · rw [if_neg hz]
end Go.Proofs.Ytlngljddjlmkfaa.Pure
