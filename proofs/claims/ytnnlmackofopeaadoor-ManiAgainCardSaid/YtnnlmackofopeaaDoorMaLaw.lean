/- Mani: the states of a saving. -/
import Derived.Test.YtnnlmackofopeaaDoorMaRun
namespace Go.Proofs.YtnnlmackofopeaaDoor.Fs
open Go.RowKit Go.Lib Go.Maps Go.Shelf Go.Sort Go.Proofs.YtnnlmackofopeaaDoorW.PrintWords Go.Proofs.YtnnlmackofopeaaDoorW.PrintLast Go.Proofs.YtnnlmackofopeaaDoorW.PrintMore
set_option linter.unusedVariables false
set_option linter.unusedSimpArgs false
abbrev nT : ByteArray := ⟨#[97, 46, 116, 109, 112]⟩
theorem nT_eq : na ++ (⟨#[46, 116, 109, 112]⟩ : ByteArray) = nT := by kernel_rfl
theorem may_T : mayS nT = true := by kernel_rfl
/-- Names: the record's, and the one beside it. -/
def nmS : Option Nat → Option Nat → Names
  | none, none => .map []
  | some i, none => .map [(kl na, num i)]
  | none, some j => .map [(kl nT, num j)]
  | some i, some j => .map [(kl na, num i), (kl nT, num j)]
theorem nm_put (x y : Option Nat) (L : Nat) : (nmS x y).put (kl nT) (num L) = nmS x (some L) := by
  cases x <;> cases y <;> kernel_rfl
theorem nm_moved (x : Option Nat) (L : Nat) : ((nmS x (some L)).put (kl na) (num L)).del (kl nT) = nmS (some L) none := by
  cases x <;> kernel_rfl
theorem nm_has (x : Option Nat) (L : Nat) : has (nmS x (some L)) (kl nT) = true := by
  cases x <;> kernel_rfl
theorem nm_atT {S : FsS} {x : Option Nat} {L : Nat} (h : S.names = nmS x (some L)) : S.at_ nT = some L := by
  unfold FsS.at_
  rw [h]
  cases x <;> kernel_rfl
theorem nm_atA {S : FsS} {i : Nat} {y : Option Nat} (h : S.names = nmS (some i) y) : S.at_ na = some i := by
  unfold FsS.at_
  rw [h]
  cases y <;> kernel_rfl
theorem nm_noA {S : FsS} {y : Option Nat} (h : S.names = nmS none y) : S.at_ na = none := by
  unfold FsS.at_
  rw [h]
  cases y <;> kernel_rfl
theorem nm_len (x y : Option Nat) : (entries (nmS x y)).length ≤ 2 := by
  cases x <;> cases y <;> simp [nmS, entries]
theorem nm_list (i : Nat) : listD (nmS (some i) none) = [[97]] := by kernel_rfl
/-- The state behind k operations of a saving. -/
def sv (S : FsS) (zs : List Int) : Nat → Int → FsS
  | 0, l => { S with left := l }
  | 1, l => { S with left := l, files := S.files ++ [([], 0)], names := S.names.put (kl nT) (num S.files.length), changes := S.changes ++ [.link nT S.files.length], ops := S.ops + 1 + 1 }
  | 2, l => { S with left := l, files := S.files ++ [(zs, 0)], names := S.names.put (kl nT) (num S.files.length), changes := S.changes ++ [.link nT S.files.length], ops := S.ops + 1 + 1, dat := S.dat + zs.length }
  | 3, l => { S with left := l, files := S.files ++ [(zs, zs.length)], names := S.names.put (kl nT) (num S.files.length), changes := S.changes ++ [.link nT S.files.length], ops := S.ops + 1 + 1, dat := S.dat + zs.length }
  | 4, l => { S with left := l, files := S.files ++ [(zs, zs.length)], names := ((S.names.put (kl nT) (num S.files.length)).put (kl na) (num S.files.length)).del (kl nT), changes := S.changes ++ [.link nT S.files.length] ++ [.moved na S.files.length nT], ops := S.ops + 1 + 1 + 1, dat := S.dat + zs.length }
  | _, l => { S with left := l, files := S.files ++ [(zs, zs.length)], names := ((S.names.put (kl nT) (num S.files.length)).put (kl na) (num S.files.length)).del (kl nT), durable := ((S.names.put (kl nT) (num S.files.length)).put (kl na) (num S.files.length)).del (kl nT), changes := [], ops := S.ops + 1 + 1 + 1, dat := S.dat + zs.length }
def nextL (S : FsS) (l : Int) : Int := if S.limited = true then wrap64 (l - 1) else l
theorem sv_limited (S : FsS) (zs : List Int) (k : Nat) (l : Int) : (sv S zs k l).limited = S.limited ∧ (sv S zs k l).left = l := by
  unfold sv
  split <;> exact ⟨rfl, rfl⟩
theorem sv_stops (S : FsS) (zs : List Int) (k : Nat) (l : Int) : (sv S zs k l).stops = (S.limited && (l == 0)) := by
  obtain ⟨h1, h2⟩ := sv_limited S zs k l
  unfold FsS.stops
  rw [h1, h2]
theorem go_begin {S : FsS} (h : S.stops = false) {ns : List ByteArray} (hm : ns.all mayS = true) : S.beginC ns = 0 ∧ S.beginT = S.tick := by
  unfold FsS.beginC FsS.beginT
  rw [h, hm]
  exact ⟨rfl, rfl⟩
theorem sv_tick (S : FsS) (zs : List Int) (k : Nat) (l : Int) : (sv S zs k l).tick = sv S zs k (nextL S l) := by
  obtain ⟨h1, h2⟩ := sv_limited S zs k l
  unfold FsS.tick nextL
  rw [h1, h2]
  split
  · unfold sv
    split <;> rfl
  · rfl
theorem modify_last {α : Type} (l : List α) (a : α) (f : α → α) : (l ++ [a]).modify l.length f = l ++ [f a] := by
  refine List.ext_getElem? fun j => ?_
  rw [List.getElem?_modify]
  by_cases e : l.length = j
  · subst e
    simp
  · by_cases hj : j < l.length
    · simp [e, List.getElem?_append_left hj]
    · rw [List.getElem?_eq_none (by simp; omega), List.getElem?_eq_none (by simp; omega)]
      rfl
section
variable {S : FsS} {zs : List Int} {l : Int}
theorem op0 (h : (sv S zs 0 l).stops = false) : opAt nT na zs 0 (sv S zs 0 l) = (0, sv S zs 1 (nextL S l)) := by
  obtain ⟨h1, h2⟩ := go_begin h (ns := [nT]) (by simp [may_T])
  show (sv S zs 0 l).create nT = _
  unfold FsS.create
  rw [h1, if_pos rfl, h2, sv_tick]
  rfl
theorem op1 (h : (sv S zs 1 l).stops = false) {x y : Option Nat} (hn : S.names = nmS x y) (hq : ((sv S zs 1 l).used : Int) + (zs.length : Int) ≤ S.quota) : opAt nT na zs 1 (sv S zs 1 l) = (0, sv S zs 2 (nextL S l)) := by
  obtain ⟨h1, h2⟩ := go_begin h (ns := [nT]) (by simp [may_T])
  have hat : (sv S zs 1 l).at_ nT = some S.files.length := nm_atT (x := x) (by
    show S.names.put (kl nT) (num S.files.length) = _
    rw [hn, nm_put])
  show (sv S zs 1 l).append nT zs = _
  unfold FsS.append
  rw [h1, if_pos rfl, h2, hat]
  simp only
  rw [if_neg (show ¬ (sv S zs 1 l).quota < ((sv S zs 1 l).used : Int) + (zs.length : Int) from by show ¬ S.quota < _; omega), sv_tick]
  unfold FsS.app FsS.upd sv
  simp only [modify_last, List.nil_append]
theorem op1_full (h : (sv S zs 1 l).stops = false) {x y : Option Nat} (hn : S.names = nmS x y) (hq : S.quota < ((sv S zs 1 l).used : Int) + (zs.length : Int)) : opAt nT na zs 1 (sv S zs 1 l) = (10, sv S zs 1 (nextL S l)) := by
  obtain ⟨h1, h2⟩ := go_begin h (ns := [nT]) (by simp [may_T])
  have hat : (sv S zs 1 l).at_ nT = some S.files.length := nm_atT (x := x) (by
    show S.names.put (kl nT) (num S.files.length) = _
    rw [hn, nm_put])
  show (sv S zs 1 l).append nT zs = _
  unfold FsS.append
  rw [h1, if_pos rfl, h2, hat]
  simp only
  rw [if_pos (show (sv S zs 1 l).quota < ((sv S zs 1 l).used : Int) + (zs.length : Int) from hq), sv_tick]
theorem op2 (h : (sv S zs 2 l).stops = false) {x y : Option Nat} (hn : S.names = nmS x y) : opAt nT na zs 2 (sv S zs 2 l) = (0, sv S zs 3 (nextL S l)) := by
  obtain ⟨h1, h2⟩ := go_begin h (ns := [nT]) (by simp [may_T])
  have hat : (sv S zs 2 l).at_ nT = some S.files.length := nm_atT (x := x) (by
    show S.names.put (kl nT) (num S.files.length) = _
    rw [hn, nm_put])
  show (sv S zs 2 l).sync nT = _
  unfold FsS.sync
  rw [h1, if_pos rfl, h2, hat]
  simp only
  rw [sv_tick]
  unfold FsS.upd sv
  simp only [modify_last]
theorem op3 (h : (sv S zs 3 l).stops = false) {x y : Option Nat} (hn : S.names = nmS x y) : opAt nT na zs 3 (sv S zs 3 l) = (0, sv S zs 4 (nextL S l)) := by
  obtain ⟨h1, h2⟩ := go_begin h (ns := [nT, na]) (by simp [may_T, may_a])
  have hnm : (sv S zs 3 l).names = nmS x (some S.files.length) := by
    show S.names.put (kl nT) (num S.files.length) = _
    rw [hn, nm_put]
  have hhas : has (sv S zs 3 l).names (kl nT) = true := by rw [hnm]; exact nm_has _ _
  show (sv S zs 3 l).rename nT na = _
  unfold FsS.rename
  rw [h1, if_pos rfl, if_pos hhas, if_neg (by rw [toList_data, toList_data]; decide), h2, nm_atT hnm, sv_tick]
  rfl
theorem op4 (h : (sv S zs 4 l).stops = false) : opAt nT na zs 4 (sv S zs 4 l) = (0, sv S zs 5 (nextL S l)) := by
  show (sv S zs 4 l).syncNames = _
  unfold FsS.syncNames
  rw [h, if_neg (by decide), sv_tick]
  rfl
/-- Where no operation is left. -/
theorem op_stop {S : FsS} (h : S.stops = true) (k : Nat) : opAt nT na zs k S = (11, S) := by
  have hb : ∀ ns, S.beginC ns = 11 := fun ns => by unfold FsS.beginC; rw [if_pos h]
  have ht : S.beginT = S := by unfold FsS.beginT; rw [if_pos h]
  have h11 : ¬ ((11 : Int) = 0) := by decide
  unfold opAt
  split
  · unfold FsS.create; rw [hb, if_neg h11, ht]
  · unfold FsS.append; rw [hb, if_neg h11, ht]
  · unfold FsS.sync; rw [hb, if_neg h11, ht]
  · unfold FsS.rename; rw [hb, if_neg h11, ht]
  · unfold FsS.syncNames; rw [if_pos h]
/-- One operation more. -/
theorem op_next (k : Nat) (hk : k < 5) (h : (S.limited && (l == 0)) = false) {x y : Option Nat} (hn : S.names = nmS x y) (hq : ((sv S zs 1 l).used : Int) + (zs.length : Int) ≤ S.quota) : opAt nT na zs k (sv S zs k l) = (0, sv S zs (k + 1) (nextL S l)) := by
  have hs : ∀ j, (sv S zs j l).stops = false := fun j => by rw [sv_stops]; exact h
  have h5 : k = 0 ∨ k = 1 ∨ k = 2 ∨ k = 3 ∨ k = 4 := by omega
  rcases h5 with rfl | rfl | rfl | rfl | rfl
  · exact op0 (hs 0)
  · exact op1 (hs 1) hn hq
  · exact op2 (hs 2) hn
  · exact op3 (hs 3) hn
  · exact op4 (hs 4)
theorem sv_used (l l' : Int) : (sv S zs 1 l).used = (sv S zs 1 l').used := rfl
/-- A saving without a limit. -/
theorem turn_free (hl : S.limited = false) {x y : Option Nat} (hn : S.names = nmS x y) (hq : ((sv S zs 1 l).used : Int) + (zs.length : Int) ≤ S.quota) : ∀ d, d ≤ 5 → turnS nT na zs d (sv S zs (5 - d) l) = (0, sv S zs 5 l)
  | 0, _ => rfl
  | d + 1, hd => by
    have ho := op_next (S := S) (zs := zs) (l := l) (5 - (d + 1)) (by omega) (by rw [hl]; rfl) hn hq
    have e1 : nextL S l = l := by unfold nextL; rw [hl]; rfl
    rw [e1, show 5 - (d + 1) + 1 = 5 - d by omega] at ho
    have e2 : 4 - d = 5 - (d + 1) := by omega
    rw [turn_go (by rw [e2, ho]), e2, ho]
    exact turn_free hl hn hq d (by omega)
/-- A saving with a limit. -/
theorem turn_limit (hl : S.limited = true) {x y : Option Nat} (hn : S.names = nmS x y) (hq : ∀ l, ((sv S zs 1 l).used : Int) + (zs.length : Int) ≤ S.quota) : ∀ d, d ≤ 5 → ∀ l : Nat, l ≤ 1000 → turnS nT na zs d (sv S zs (5 - d) (l : Int)) = if d ≤ l then (0, sv S zs 5 ((l - d : Nat) : Int)) else (11, sv S zs (5 - d + l) 0)
  | 0, _, l, _ => by
    rw [if_pos (Nat.zero_le _)]
    rfl
  | d + 1, hd, 0, _ => by
    have e2 : 4 - d = 5 - (d + 1) := by omega
    have hs : (sv S zs (5 - (d + 1)) ((0 : Nat) : Int)).stops = true := by
      rw [sv_stops, hl]
      rfl
    have ho := op_stop (zs := zs) hs (4 - d)
    rw [turn_end (by rw [ho]; exact (show ¬ (11 : Int) = 0 by decide)), ho, if_neg (by omega)]
    rfl
  | d + 1, hd, l + 1, hl2 => by
    have ho := op_next (S := S) (zs := zs) (l := ((l + 1 : Nat) : Int)) (5 - (d + 1)) (by omega) (by
      rw [hl]
      have : (((l + 1 : Nat) : Int) == 0) = false := by
        rw [beq_eq_false_iff_ne]
        omega
      rw [this]
      rfl) hn (hq _)
    have e1 : nextL S ((l + 1 : Nat) : Int) = (l : Int) := by
      unfold nextL
      rw [hl, if_pos rfl, wrap64_small (by omega) (by omega)]
      omega
    rw [e1, show 5 - (d + 1) + 1 = 5 - d by omega] at ho
    have e2 : 4 - d = 5 - (d + 1) := by omega
    rw [turn_go (by rw [e2, ho]), e2, ho]
    show turnS nT na zs d (sv S zs (5 - d) (l : Int)) = _
    rw [turn_limit hl hn hq d (by omega) l (by omega)]
    by_cases hdl : d ≤ l
    · rw [if_pos hdl, if_pos (by omega), show l + 1 - (d + 1) = l - d by omega]
    · rw [if_neg hdl, if_neg (by omega), show 5 - (d + 1) + (l + 1) = 5 - d + l by omega]
end
end Go.Proofs.YtnnlmackofopeaaDoor.Fs
