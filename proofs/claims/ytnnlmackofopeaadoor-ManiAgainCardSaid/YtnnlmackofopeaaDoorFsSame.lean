/- Contract of Same: two rows of the same strings. -/
import Derived.Test.YtnnlmackofopeaaDoorFsC
import Derived.BigQuiet
namespace Go.Proofs.YtnnlmackofopeaaDoor.Fs
open Go.RowKit Go.Lib Go.Maps Go.Shelf Go.Sort Go.Proofs.YtnnlmackofopeaaDoorW.PrintWords Go.Proofs.YtnnlmackofopeaaDoorW.PrintLast Go.Proofs.YtnnlmackofopeaaDoorW.PrintMore
set_option linter.unusedVariables false
set_option linter.unusedSimpArgs false
def bOf (l : List UInt8) : ByteArray := ⟨l.toArray⟩
theorem enc_bOf (l : List UInt8) : encStr l = .string (bOf l) := rfl
theorem row_SR {w : World} {base : Nat} {v : Value} {xs : List (List UInt8)} (h : w.ownsRow base 9 1 v xs.length (xs.map encStr)) : ∃ A c, v = .slice A xs.length c ∧ SR w A (xs.map bOf) := by
  rcases h.2 with ⟨rfl, h0⟩ | ⟨b, c, cur, rfl, hb, hc, _, _, _, ht⟩
  · refine ⟨none, 0, by rw [h0], fun i hi => ?_⟩
    rw [List.length_map] at hi
    omega
  · refine ⟨_, c, rfl, fun i hi => ⟨_, rfl, ?_⟩⟩
    have hi2 : i < xs.length := by simpa using hi
    have hadd : (⟨b, 0, none⟩ : Addr).add i = ⟨b, i, none⟩ := by unfold Addr.add; split <;> simp_all
    rw [hadd, cell_of_row w b i cur 9 (0, 0) hc]
    have h1 : (cur.toList.take (xs.length * 1))[i]? = (xs.map encStr)[i]? := by rw [ht]
    rw [List.getElem?_take_of_lt (by omega), List.getElem?_map, List.getElem?_eq_getElem hi2] at h1
    rw [List.getElem_map, ← enc_bOf]
    simpa using h1
set_option maxHeartbeats 4000000 in
set_option maxRecDepth 100000 in
theorem same_calls (ns : List ByteArray) (n : Nat) (hn : n = ns.length) (hl : n ≤ maxLen) (A : Option Addr) (c : Nat) (A' : Option Addr) (c' : Nat) (w : World) (h1 : SR w A ns) (h2 : SR w A' ns) :
    Calls Tryd.prog 19 #[.slice A n c, .slice A' n c'] w fun e w' => e = .returned (.bool true) ∧ Below w.heap.size w w' := by
  have HS := Aside0.mk (And.intro h1 (And.intro h2 (And.intro hn hl)))
  clear h1 h2 hn hl
  go_enter Tryd.func19, Tryd.ntmps19
  go_wp2
  go_loopg [5] n (fun kq v5 wr => ∃ (i : Nat), v5 = .int .i64 (i : Int) ∧ i + kq = n ∧ Aside0 (Below w.heap.size w wr))
  case atStart => exact ⟨0, rfl, by omega, ⟨Below.refl _ _⟩⟩
  case round =>
    obtain ⟨i, rfl, hi, HB⟩ := hrel
    cases gk with
    | zero =>
      have e1 : ((i : Int) < (n : Int)) = False := eq_false (by omega)
      clear hi
      go_wp2
      go_ret
      exact ⟨rfl, HB.out⟩
    | succ d =>
      have e1 : ((i : Int) < (n : Int)) = True := eq_true (by omega)
      have e3 : (i < n) = True := eq_true (by omega)
      have hil : i < ns.length := by have := HS.out.2.2.1; omega
      obtain ⟨ad, rfl, k1⟩ := (HS.out.1.below HB.out) i hil
      obtain ⟨ad', rfl, k2⟩ := (HS.out.2.1.below HB.out) i hil
      generalize ns[i] = s at k1 k2
      have HI := Aside0.mk hi
      clear hi hil
      go_upto_region 6 with (fail)
      have j1 : ∀ j, (wr.drewN j).cell? (ad.add i) = some (.string s) := fun j => k1
      have j2 : ∀ j, (wr.drewN j).cell? (ad'.add i) = some (.string s) := fun j => k2
      go_quiet (fail)
      go_wp2
      go_roundg d
      case measure => have := HI.out; omega
      case rel => exact ⟨i + 1, by rw [wrap64_small (by omega) (by have := HI.out; have := HS.out.2.2.2; simp only [maxLen] at this; omega)]; rfl, by have := HI.out; omega, ⟨below_step HB.out (below_drew _ _)⟩⟩
theorem One.listS {wB w : World} {B : Nat → Prop} {g : Nat} {S : FsS} (h : One wB B w g S) (hops : S.ops ≤ 1000000) : Calls Tryd.prog 20 #[.pointer (some ⟨g, 0, none⟩)] w fun e w' => ∃ A c, e = .returned (.slice A (listD S.names).length c) ∧ (listD S.names).length ≤ maxLen ∧ SR w' A ((listD S.names).map bOf) ∧ (∀ ad, A = some ad → w.heap.size ≤ ad.block ∧ ad.block < w'.heap.size) ∧ Below w.heap.size w w' ∧ One wB B w' g S :=
  (h.list hops).mono fun e w' ⟨v, he, hr, hb, ho⟩ => by
    obtain ⟨A, c, hv, hs⟩ := row_SR hr
    refine ⟨A, c, by rw [he, hv], ?_, hs, fun ad hA => ?_, hb, ho⟩
    · rcases hr.2 with ⟨_, e⟩ | ⟨b, cap, cur, e, h1, h2, h3, h4, _⟩
      · rw [e]; exact Nat.zero_le _
      · exact Nat.le_trans h3 h4
    subst hA
    obtain ⟨cells, hc⟩ := own_typed hr ad.block (by rw [hv]; rfl)
    rcases hr.2 with ⟨e, _⟩ | ⟨b, cap, cur, e, h1, h2, _⟩
    · rw [hv] at e
      cases e
    · rw [hv] at e
      injection e with e
      injection e with e
      subst e
      exact ⟨h1, blk_lt h2⟩
end Go.Proofs.YtnnlmackofopeaaDoor.Fs
