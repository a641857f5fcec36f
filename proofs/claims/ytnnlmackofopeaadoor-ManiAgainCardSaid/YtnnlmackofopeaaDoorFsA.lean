/- Contracts of the file system's functions, by hand: what every text of them imports; whether a name may be. -/
import Derived.Test.YtnnlmackofopeaaDoorProg
import Derived.Below
import Derived.Deep.Draws
import Derived.Deep.AppendLies
import Derived.Maps.AppendAt
import Derived.OwnWalk
import Derived.Laws.BytesArg
import Derived.Laws.MakeOwn
import Derived.Laws.OwnMore
import Derived.Deep.OwnRows
import Derived.Tactics
import Derived.Lib.ConvBytes
import Derived.Laws.Slices
import Derived.WalkKit
import Derived.KernelRfl
import Derived.RowKit3
import Derived.Deep.LoopGhost
import Derived.Deep.QuietTactic
import Derived.BigQuiet
import Derived.WideLaws
import Derived.Deep.DeepCutAuto
import Derived.Deep.CutBlock
import Derived.Deep.RegionHeld3
import Derived.Laws.Rows
import Derived.Lib.AppendStr
import Derived.ArgAppend
import Derived.Laws.IdiomCopy
import Derived.OrdersHeld
import Derived.Laws.BitsLemmas
import Derived.RowKit
import Derived.WalkMore
import Derived.ScopeJumps
import Derived.Laws.CopyOwn
import Derived.Lib.SlBytesConst
import Derived.Lib.SliceRun
import Derived.ChangeKeysEq
import Derived.Test.YtnnlmackofopeaaDoorWWords
import Derived.Test.YtnnlmackofopeaaDoorWLast
import Derived.Test.YtnnlmackofopeaaDoorWTab
import Derived.Test.YtnnlmackofopeaaDoorWFour
import Derived.Test.YtnnlmackofopeaaDoorWQPut
import Derived.Test.YtnnlmackofopeaaDoorWApart
import Derived.Test.YtnnlmackofopeaaDoorWArr
import Derived.Test.YtnnlmackofopeaaDoorWZeros
import Derived.Test.YtnnlmackofopeaaDoorWFoot
import Derived.Test.YtnnlmackofopeaaDoorWKept
import Derived.Test.YtnnlmackofopeaaDoorWShare
import Derived.Test.YtnnlmackofopeaaDoorWN
import Derived.Test.YtnnlmackofopeaaDoorWFootNe
import Derived.Test.YtnnlmackofopeaaDoorWAt
import Derived.Test.YtnnlmackofopeaaDoorWEqStruct
import Derived.Test.YtnnlmackofopeaaDoorWRepsOne
import Derived.Test.YtnnlmackofopeaaDoorWInv
import Derived.Test.YtnnlmackofopeaaDoorWInvWords
import Derived.Test.YtnnlmackofopeaaDoorWGuard
import Derived.Test.YtnnlmackofopeaaDoorWNEv
import Derived.Test.YtnnlmackofopeaaDoorWMore
import Derived.Maps.OwnSet
import Derived.Maps.RangeWalk
import Derived.Maps.Ext
import Derived.Deep.AppendSrc
import Derived.Lib.OthersKept
import Derived.Lib.TrimU
import Derived.Test.YtnnlmackofopeaaDoorLay
import Derived.StringKeys
namespace Go.Proofs.YtnnlmackofopeaaDoor.Fs
open Go.RowKit Go.Lib Go.Maps Go.Proofs.YtnnlmackofopeaaDoorW.PrintWords Go.Proofs.YtnnlmackofopeaaDoorW.PrintLast Go.Proofs.YtnnlmackofopeaaDoorW.PrintMore
set_option linter.unusedVariables false
set_option linter.unusedSimpArgs false
theorem toList_data (s : ByteArray) : s.toList = s.data.toList := by
  cases s
  exact ByteArray.toList_mk _
def letters : List UInt8 := [97, 98, 99, 100, 101, 102, 103, 104, 105, 106, 107, 108, 109, 110, 111, 112, 113, 114, 115, 116, 117, 118, 119, 120, 121, 122, 48, 49, 50, 51, 52, 53, 54, 55, 56, 57, 45, 46]
def lettersB : ByteArray := ⟨#[97, 98, 99, 100, 101, 102, 103, 104, 105, 106, 107, 108, 109, 110, 111, 112, 113, 114, 115, 116, 117, 118, 119, 120, 121, 122, 48, 49, 50, 51, 52, 53, 54, 55, 56, 57, 45, 46]⟩
/-- Whether a name may be. -/
def mayS (s : ByteArray) : Bool := decide (s.size ≠ 0) && (decide (s.size ≤ 32) && s.data.toList.all (fun b => letters.contains b))
theorem dropWhile_all {p : UInt8 → Bool} : ∀ {l : List UInt8}, l.dropWhile p = [] ↔ l.all p = true
  | [] => by simp
  | a :: l => by
    rw [List.dropWhile_cons, List.all_cons]
    cases h : p a
    · simp
    · simp [dropWhile_all (l := l)]
theorem trim_all (l cs : List UInt8) : Lib.trimS l cs = [] ↔ l.all (fun b => cs.contains b) = true := by
  unfold Lib.trimS Lib.trimLeftS
  rw [dropWhile_all]
  constructor
  · intro h
    have h0 : Lib.trimLeftS (Lib.trimRightS l cs) cs = [] := dropWhile_all.2 h
    by_cases hr : Lib.trimRightS l cs = []
    · unfold Lib.trimRightS at hr
      rw [List.reverse_eq_nil_iff, dropWhile_all, List.all_reverse] at hr
      exact hr
    · -- the last one that is left is none of them
      exfalso
      unfold Lib.trimRightS at h hr
      rw [List.all_reverse] at h
      cases hd : l.reverse.dropWhile (cs.contains ·) with
      | nil => rw [hd] at hr; exact hr rfl
      | cons a t =>
        rw [hd] at h
        have h1 : cs.contains a = true := by simpa using List.all_eq_true.1 h a List.mem_cons_self
        have h2 := List.head?_dropWhile_not (cs.contains ·) l.reverse
        rw [hd] at h2
        simp only [List.head?_cons] at h2
        rw [h1] at h2
        simp at h2
  · intro h
    unfold Lib.trimRightS
    rw [List.all_reverse, dropWhile_all.2 (by rw [List.all_reverse]; exact h)]
    rfl
theorem index_in {l : List UInt8} {c : UInt8} (h : l.contains c = true) : 0 ≤ Lib.indexByte l c := by
  induction l with
  | nil => simp at h
  | cons b l ih =>
    unfold Lib.indexByte
    split
    · exact Int.le_refl _
    · rename_i hb
      have hl : l.contains c = true := by
        simp only [List.contains_cons, Bool.or_eq_true] at h
        rcases h with h | h
        · exfalso
          apply hb
          rw [beq_iff_eq] at h ⊢
          exact h.symm
        · exact h
      have := ih hl
      split
      · rename_i h1
        rw [beq_iff_eq] at h1
        omega
      · omega
theorem letters_ascii : letters.all (fun b => decide (b.toNat < 128)) = true := by decide
theorem letter_lt {b : UInt8} (h : letters.contains b = true) : b.toNat < 128 := by
  have := List.all_eq_true.1 letters_ascii b (by simpa using h)
  simpa using this
set_option maxHeartbeats 2000000 in
set_option maxRecDepth 100000 in
theorem may1_calls (b : UInt8) (hb : letters.contains b = true) (w : World) :
    Calls Tryd.prog 63 #[.int .i32 (b.toNat : Int)] w fun e w' => e = .returned (.bool false) ∧ w' = w := by
  have hc := Any.strings_ContainsRune_ascii Tryd.lays151 lettersB (b.toNat : Int) w (by omega) (by have := letter_lt hb; omega)
  change Calls Tryd.prog 64 _ _ _ at hc
  rw [show ((b.toNat : Int)).toNat.toUInt8 = b by rw [Int.toNat_natCast]; exact UInt8.ofNat_toNat] at hc
  rw [show lettersB.data.toList = letters from rfl, decide_eq_true (index_in hb)] at hc
  unfold lettersB at hc
  go_enter Tryd.func63, Tryd.ntmps63
  go_wp2_with (go_at_call 64; refine hc.mono ?_; rintro e w' ⟨rfl, rfl⟩)
  go_ret
  exact ⟨rfl, rfl⟩
theorem decode_letter (s : ByteArray) (i : Nat) (h : (s.get! i).toNat < 128) : Utf8.decode s i = ((s.get! i).toNat, 1) := by
  rw [Lib.decode_at]
  simp [Lib.decodeN, h]
theorem all_at {s : ByteArray} (h : s.data.toList.all (fun b => letters.contains b) = true) (i : Nat) (hi : i < s.size) : letters.contains (s.get! i) = true := by
  refine List.all_eq_true.1 h (s.get! i) ?_
  have e : s.get! i = s.data[i]'(by exact hi) := by
    unfold ByteArray.get!
    exact getElem!_pos s.data i hi
  rw [e]
  exact Array.getElem_mem_toList _
set_option maxHeartbeats 2000000 in
set_option maxRecDepth 100000 in
/-- strings.indexFunc over a name of letters alone: no rune is none of them. -/
theorem indexFunc_calls (s : ByteArray) (hs : s.data.toList.all (fun b => letters.contains b) = true) (w : World) :
    Calls Tryd.prog 94 #[.string s, .func (.func 63) #[] #[], .bool true] w fun e w' => e = .returned (.int .i64 (-1)) ∧ Below w.heap.size w w' := by
  have eg : ∀ args w, (callFunc 63 args).run Tryd.prog w = .ok (.enter 63 args) w := enters_of Tryd.func63 (by kernel_rfl) rfl
  have HS := Aside0.mk hs
  clear hs
  go_enter Tryd.func94, Tryd.ntmps94
  go_wp2
  go_loopg [] s.size (fun gf wx => ∃ pos : Nat, Aside0 (wx.heap[w.heap.size]? = some (.stringIter s pos)) ∧ Aside0 (Below w.heap.size w wx) ∧ pos + gf = s.size)
  case atStart => exact ⟨0, ⟨World.iter_heap w s 0⟩, ⟨(Below.refl _ w).alloc (Nat.le_refl _) _⟩, by omega⟩
  case round =>
    obtain ⟨pos, hit, hbw, hfu⟩ := hrel
    cases gk with
    | zero =>
      have hnx : ∀ ty, (Instr.next (.pointer (some ⟨w.heap.size, 0, none⟩)) true ty).run Tryd.prog wr = _ := fun ty => Lib.run_next_end_at wr w.heap.size s pos ty hit.out (by omega)
      clear hfu
      go_wp2
      go_ret
      exact ⟨rfl, hbw.out⟩
    | succ g' =>
      have hps : pos < s.size := by omega
      have hl := all_at HS.out pos hps
      have hnx : ∀ ty, (Instr.next (.pointer (some ⟨w.heap.size, 0, none⟩)) true ty).run Tryd.prog wr = _ := fun ty => Lib.run_next_any_at wr w.heap.size s pos ty hit.out hps
      have hdc := decode_letter s pos (letter_lt hl)
      obtain ⟨b, hb⟩ : ∃ b, s.get! pos = b := ⟨_, rfl⟩
      rw [hb] at hl hdc
      rw [hdc] at hnx
      have hit2 := Aside0.mk (Lib.iterAt_heap wr w.heap.size s pos (pos + 1) hit.out)
      have hbw2 := Aside0.mk (Lib.below_iterAt hbw.out (k := w.heap.size) (Nat.le_refl _) s (pos + 1))
      obtain ⟨W, hWd⟩ : ∃ W, wr.iterAt w.heap.size s (pos + 1) = W := ⟨_, rfl⟩
      rw [hWd] at hnx hit2 hbw2
      have HL := Aside0.mk hl
      have HF := Aside0.mk hfu
      clear hb hdc hps hl hfu
      go_wp2_with (go_at_fn 63; refine (may1_calls b HL.out _).mono ?_; rintro e w' ⟨rfl, rfl⟩)
      go_roundg g'
      case measure => omega
      case rel => exact ⟨pos + 1, hit2, hbw2, by have := HF.out; omega⟩
set_option maxHeartbeats 2000000 in
set_option maxRecDepth 100000 in
theorem containsFunc_calls (s : ByteArray) (hs : s.data.toList.all (fun b => letters.contains b) = true) (w : World) :
    Calls Tryd.prog 62 #[.string s, .func (.func 63) #[] #[]] w fun e w' => e = .returned (.bool false) ∧ Below w.heap.size w w' := by
  have hi : Calls Tryd.prog 77 #[.string s, .func (.func 63) #[] #[]] w fun e w' => e = .returned (.int .i64 (-1)) ∧ Below w.heap.size w w' := by
    have hc := indexFunc_calls s hs w
    clear hs
    go_enter Tryd.func77, Tryd.ntmps77
    go_wp2_with (go_at_call 94; refine hc.mono ?_; rintro e w' ⟨rfl, hb⟩; have HB := Aside0.mk hb; clear hb)
    go_ret
    exact ⟨rfl, HB.out⟩
  clear hs
  go_enter Tryd.func62, Tryd.ntmps62
  go_wp2_with (go_at_call 77; refine hi.mono ?_; rintro e w' ⟨rfl, hb⟩; have HB := Aside0.mk hb; clear hb)
  go_ret
  exact ⟨rfl, HB.out⟩
set_option maxHeartbeats 4000000 in
set_option maxRecDepth 100000 in
/-- fs.may. -/
theorem may_calls (s : ByteArray) (w : World) : Calls Tryd.prog 44 #[.string s] w fun e w' => e = .returned (.bool (mayS s)) ∧ Below w.heap.size w w' := by
  by_cases h0 : s.size = 0
  · have em : mayS s = false := by unfold mayS; rw [decide_eq_false (by omega)]; rfl
    obtain rfl : s = ⟨#[]⟩ := by
      cases s with
      | mk d => rw [show d = #[] from Array.eq_empty_of_size_eq_zero h0]
    rw [em]
    go_enter Tryd.func44, Tryd.ntmps44
    go_wp2
    go_ret
    exact ⟨rfl, Below.refl _ _⟩
  have hsz : s.toList.length = s.size := by rw [toList_data]; rfl
  have hn1 : s.toList.isEmpty = false := by
    cases h : s.toList with
    | nil => rw [h] at hsz; exact absurd hsz.symm h0
    | cons a l => rfl
  have hn2 : (s.toList = []) = False := eq_false (fun h => by rw [h] at hsz; exact h0 hsz.symm)
  by_cases h32 : s.size ≤ 32
  case neg =>
    have em : mayS s = false := by unfold mayS; rw [decide_eq_false h32]; simp
    rw [em]
    have e1 : ((s.size : Int) ≤ 32) = False := eq_false (by omega)
    have e2 : (32 < (s.size : Int)) = True := eq_true (by omega)
    have e3 : (s.size ≤ 32) = False := eq_false (by omega)
    clear h0 h32 hsz em
    go_enter Tryd.func44, Tryd.ntmps44
    go_wp2
    go_ret
    exact ⟨rfl, Below.refl _ _⟩
  have e1 : ((s.size : Int) ≤ 32) = True := eq_true (by omega)
  have e3 : (s.size ≤ 32) = True := eq_true (by omega)
  have hT := Any.strings_Trim_laid Tryd.lays160 (by kernel_rfl) s lettersB w (by omega) (by decide) (ascii_of_all letters_ascii)
  change Calls Tryd.prog 61 _ _ (fun e w' => e = .returned (.string ⟨(Lib.trimS s.data.toList letters).toArray⟩) ∧ Below w.heap.size w w') at hT
  unfold lettersB at hT
  obtain ⟨r, hr⟩ : ∃ r : ByteArray, r = ⟨(Lib.trimS s.data.toList letters).toArray⟩ := ⟨_, rfl⟩
  rw [← hr] at hT
  have hrl : r.toList = Lib.trimS s.data.toList letters := by rw [hr, toList_data]
  by_cases ha : s.data.toList.all (fun b => letters.contains b) = true
  · have em : mayS s = true := by unfold mayS; rw [decide_eq_true h0, decide_eq_true h32, ha]; rfl
    rw [em]
    have hre : r.toList = [] := by rw [hrl]; exact (trim_all _ _).2 ha
    have hr1 : r.toList.isEmpty = true := by rw [hre]; rfl
    have hr2 : (r.toList = []) = True := eq_true hre
    have HA := Aside0.mk ha
    clear h0 h32 hsz em hr hrl hre ha
    go_enter Tryd.func44, Tryd.ntmps44
    go_wp2_with (first | (go_at_call 61; refine hT.mono ?_; rintro e w1 ⟨rfl, hb⟩; have HB1 := Aside0.mk hb; clear hb) | (go_at_call 62; refine (containsFunc_calls s HA.out _).mono ?_; rintro e w2 ⟨rfl, hb⟩; have HB2 := Aside0.mk (below_step HB1.out hb); clear hb))
    go_ret
    exact ⟨rfl, HB2.out⟩
  · have em : mayS s = false := by unfold mayS; rw [Bool.eq_false_iff.mpr ha]; simp
    rw [em]
    have hre : ¬ r.toList = [] := by rw [hrl]; exact fun h => ha ((trim_all _ _).1 h)
    have hr1 : r.toList.isEmpty = false := by
      cases h : r.toList with
      | nil => exact absurd h hre
      | cons a l => rfl
    have hr2 : (r.toList = []) = False := eq_false hre
    clear h0 h32 hsz em hr hrl hre ha
    go_enter Tryd.func44, Tryd.ntmps44
    go_wp2_with (go_at_call 61; refine hT.mono ?_; rintro e w1 ⟨rfl, hb⟩; have HB1 := Aside0.mk hb; clear hb)
    go_ret
    exact ⟨rfl, HB1.out⟩
end Go.Proofs.YtnnlmackofopeaaDoor.Fs
/- The file system in memory: what its blocks hold; what a call of it may turn. -/
namespace Go.Proofs.YtnnlmackofopeaaDoor.Fs
open Go.RowKit Go.Lib Go.Maps Go.Proofs.YtnnlmackofopeaaDoorW.PrintWords Go.Proofs.YtnnlmackofopeaaDoorW.PrintLast Go.Proofs.YtnnlmackofopeaaDoorW.PrintMore
set_option linter.unusedVariables false
set_option linter.unusedSimpArgs false
/-! ### what a call turns -/
/-- All but the blocks of own lies as it lay. -/
structure Turn (own : Nat → Prop) (w w' : World) : Prop where
  os : w'.os = w.os
  tape : w'.tape = w.tape
  output : w'.output = w.output
  size : w.heap.size ≤ w'.heap.size
  block : ∀ k, k < w.heap.size → ¬ own k → w'.heap[k]? = w.heap[k]?
theorem Turn.refl (own : Nat → Prop) (w : World) : Turn own w w := ⟨rfl, rfl, rfl, Nat.le_refl _, fun _ _ _ => rfl⟩
theorem Turn.mono {own own' : Nat → Prop} {w w' : World} (h : Turn own w w') (hs : ∀ k, own k → own' k) : Turn own' w w' := ⟨h.os, h.tape, h.output, h.size, fun k h1 h2 => h.block k h1 (fun h3 => h2 (hs k h3))⟩
theorem Turn.trans {own own2 : Nat → Prop} {w w1 w2 : World} (h : Turn own w w1) (k : Turn own2 w1 w2) (hs : ∀ i, own2 i → own i ∨ w.heap.size ≤ i) : Turn own w w2 :=
  ⟨k.os.trans h.os, k.tape.trans h.tape, k.output.trans h.output, Nat.le_trans h.size k.size, fun i h1 h2 => (k.block i (Nat.lt_of_lt_of_le h1 h.size) (fun h3 => (hs i h3).elim h2 (fun h4 => by omega))).trans (h.block i h1 h2)⟩
theorem Turn.below {w w' : World} (h : Below w.heap.size w w') (own : Nat → Prop) : Turn own w w' := ⟨h.os, h.tape, h.output, h.size, fun k h1 _ => h.block k h1⟩
theorem Turn.then_below {own : Nat → Prop} {w w1 w2 : World} (h : Turn own w w1) (k : Below w1.heap.size w1 w2) : Turn own w w2 := h.trans (Turn.below k (fun _ => False)) (fun _ h => h.elim)
theorem Turn.grown {own : Nat → Prop} {w w' : World} {row : Option Nat} (h : w.grownBy w' row) (hr : ∀ k, row = some k → own k) : Turn own w w' := ⟨h.os, h.tape, h.output, h.size, fun k h1 h2 => h.block k h1 (fun e => h2 (hr k e.symm))⟩
theorem Turn.set {own : Nat → Prop} {w : World} (g i : Nat) (u : Value) (hg : own g) : Turn own w (w.setCell ⟨g, i, none⟩ u) :=
  ⟨rfl, rfl, rfl, by rw [World.size_setCell]; exact Nat.le_refl _, fun k _ h2 => Below.heap_setCell w ⟨g, i, none⟩ u k (fun e => h2 (by rw [show k = g from e]; exact hg))⟩
theorem Turn.low {own : Nat → Prop} {w0 w w' : World} (h : Turn own w w') (hb : Below w0.heap.size w0 w) (ho : ∀ k, own k → w0.heap.size ≤ k) : Below w0.heap.size w0 w' :=
  ⟨h.os.trans hb.os, h.tape.trans hb.tape, h.output.trans hb.output, Nat.le_trans hb.size h.size, fun k hk => (h.block k (Nat.lt_of_lt_of_le hk hb.size) (fun h3 => by have := ho k h3; omega)).trans (hb.block k hk)⟩
theorem Turn.blk {own : Nat → Prop} {w w' : World} {b : Nat} {o : Obj} (h : Turn own w w') (hb : w.heap[b]? = some o) (hn : ¬ own b) : w'.heap[b]? = some o := (h.block b (blk_lt hb) hn).trans hb
/-- What is the file system's, after a call: what was, and all that is new. -/
def More (own : Nat → Prop) (w w' : World) : Nat → Prop := fun k => own k ∨ (w.heap.size ≤ k ∧ k < w'.heap.size)
theorem More.old {own : Nat → Prop} {w w' : World} {k : Nat} (h : own k) : More own w w' k := .inl h
/-! ### a file's bytes -/
/-- Bytes in a row of which own holds: nil, or the begin of a row (of as much room as the slice says, or more). -/
def DRow (w : World) (own : Nat → Prop) (v : Value) (xs : List Int) : Prop :=
  ∃ A c, v = .slice A xs.length c ∧ xs.length ≤ c ∧ ((A = none ∧ c = 0) ∨ ∃ b cells, A = some ⟨b, 0, none⟩ ∧ own b ∧ w.heap[b]? = some (.cells cells 5 (0, 0)) ∧ c ≤ cells.size ∧ cells.toList.take xs.length = xs.map (Value.int .u8))
theorem DRow.step {w w' : World} {own own' : Nat → Prop} {v : Value} {xs : List Int} (h : DRow w own v xs) (hk : ∀ b, v.ownBlock = some b → w'.heap[b]? = w.heap[b]?) (ho : ∀ k, own k → own' k) : DRow w' own' v xs := by
  obtain ⟨A, c, rfl, hl, h⟩ := h
  refine ⟨A, c, rfl, hl, ?_⟩
  rcases h with h | ⟨b, cells, rfl, h1, h2, h3, h4⟩
  · exact .inl h
  · exact .inr ⟨b, cells, rfl, ho b h1, (hk b rfl).trans h2, h3, h4⟩
theorem DRow.own {w : World} {own : Nat → Prop} {v : Value} {xs : List Int} (h : DRow w own v xs) : ∀ b, v.ownBlock = some b → own b ∧ b < w.heap.size ∧ ∃ cells, w.heap[b]? = some (.cells cells 5 (0, 0)) := by
  obtain ⟨A, c, rfl, hl, h⟩ := h
  intro k hk
  rcases h with ⟨rfl, _⟩ | ⟨b, cells, rfl, h1, h2, h3, h4⟩
  · simp [Value.ownBlock] at hk
  · simp only [Value.ownBlock, Option.some.injEq] at hk
    subst hk
    exact ⟨h1, blk_lt h2, cells, h2⟩
theorem DRow.nil (w : World) (own : Nat → Prop) : DRow w own (.slice none 0 0) [] := ⟨none, 0, rfl, Nat.le_refl _, .inl ⟨rfl, rfl⟩⟩
theorem DRow.slice {w : World} {own : Nat → Prop} {v : Value} {xs : List Int} (h : DRow w own v xs) : ∃ A c, v = .slice A xs.length c := by
  obtain ⟨A, c, rfl, _⟩ := h
  exact ⟨A, c, rfl⟩
/-! ### the state -/
inductive Chg where
  | link (n : ByteArray) (i : Nat)
  | gone (n : ByteArray)
  | moved (n : ByteArray) (i : Nat) (o : ByteArray)
def Chg.val : Chg → Value
  | .link n i => .iface 81 (.agg #[.string n, .int .i64 (i : Int)])
  | .gone n => .iface 87 (.agg #[.string n])
  | .moved n i o => .iface 90 (.agg #[.string n, .int .i64 (i : Int), .string o])
abbrev Names := DataW Unit
/-- A name as a key. -/
abbrev kl (s : ByteArray) : Lit := .string s.data.toList
abbrev num (i : Nat) : Names := .lit (.int .i64 (i : Int))
def Chg.app (D : Names) : Chg → Names
  | .link n i => D.put (kl n) (num i)
  | .gone n => D.del (kl n)
  | .moved n i o => (D.put (kl n) (num i)).del (kl o)
def Chg.okL (L : Nat) : Chg → Prop
  | .link n i => i < L ∧ n.size ≤ maxLen
  | .gone n => n.size ≤ maxLen
  | .moved n i o => i < L ∧ n.size ≤ maxLen ∧ o.size ≤ maxLen
structure FsS where
  quota : Int
  left : Int
  limited : Bool
  files : List (List Int × Nat)
  names : Names
  durable : Names
  changes : List Chg
  ops : Nat     -- a bound: files, changes, names
  dat : Nat     -- a bound: a file's bytes
structure FsG where
  fv : Value
  cv : Value
  fs : List (Nat × Value)
  nb : Nat
  db : Nat
  nn : Nat
  dn : Nat
def ptr (b : Nat) : Value := .pointer (some ⟨b, 0, none⟩)
/-- All names lead to files. -/
def Leads (D : Names) (L : Nat) : Prop := ∀ k, has D k = true → ∃ i, i < L ∧ ∀ z, D.atKey k z = num i
structure FsAt (w : World) (own : Nat → Prop) (g : Nat) (S : FsS) (G : FsG) : Prop where
  blk : w.heap[g]? = some (.cells #[.int .i64 S.quota, .int .i64 S.left, .bool S.limited, G.fv, .map (some G.nb), .map (some G.db), G.cv] 65 (0, 0))
  og : own g
  fv : w.ownsRow 0 68 1 G.fv S.files.length (G.fs.map (fun x => ptr x.1))
  ofv : ∀ b, G.fv.ownBlock = some b → own b
  len : G.fs.length = S.files.length
  file : ∀ (i : Nat) (b : Nat) (v : Value) (f : List Int × Nat), G.fs[i]? = some (b, v) → S.files[i]? = some f → w.heap[b]? = some (.cells #[v, .int .i64 (f.2 : Int)] 70 (0, 0)) ∧ own b ∧ DRow w own v f.1 ∧ f.2 ≤ f.1.length ∧ f.1.length ≤ S.dat
  inj : ∀ (i j : Nat) (x y : Nat × Value), G.fs[i]? = some x → G.fs[j]? = some y → i ≠ j → x.1 ≠ y.1 ∧ ∀ k, x.2.ownBlock = some k → y.2.ownBlock ≠ some k
  nm : w.ownsMap Tryd.prog 9 (plainElem Tryd.prog 3) G.nb G.nn S.names
  dm : w.ownsMap Tryd.prog 9 (plainElem Tryd.prog 3) G.db G.dn S.durable
  om : own G.nb ∧ own G.db ∧ G.nb ≠ G.db
  cv : w.ownsRow 0 20 1 G.cv S.changes.length (S.changes.map Chg.val)
  ocv : ∀ b, G.cv.ownBlock = some b → own b
  bnd : S.files.length ≤ S.ops ∧ S.changes.length ≤ S.ops ∧ G.nn ≤ S.ops ∧ G.dn + S.changes.length ≤ S.ops
  ln : Leads S.names S.files.length
  ld : Leads S.durable S.files.length
  lc : ∀ c ∈ S.changes, c.okL S.files.length
def FsIs (w : World) (own : Nat → Prop) (g : Nat) (S : FsS) : Prop := ∃ G, FsAt w own g S G
theorem ptr_block {b : Nat} : ∀ v, v = ptr b → v.ownBlock = none := fun v h => by rw [h]; rfl
/-- A row of the system's own is of its own type. -/
theorem row_typed {w : World} {e : TypeId} {n : Nat} {v : Value} {xs : List Value} {base sz : Nat} (h : w.ownsRow base e sz v n xs) (k : Nat) (hk : v.ownBlock = some k) : k < w.heap.size ∧ ∃ cells, w.heap[k]? = some (.cells cells e (0, 0)) := by
  obtain ⟨cells, hc⟩ := own_typed h k hk
  exact ⟨blk_lt hc, cells, hc⟩
theorem row_kept {w w' : World} {e : TypeId} {n : Nat} {v : Value} {xs : List Value} {base sz : Nat} (h : w.ownsRow base e sz v n xs) (hk : ∀ b, v.ownBlock = some b → w'.heap[b]? = w.heap[b]?) : w'.ownsRow base e sz v n xs := by
  refine ⟨h.1, h.2.imp id ?_⟩
  rintro ⟨g, cap, cur, rfl, h1, h2, h3⟩
  exact ⟨g, cap, cur, rfl, h1, (hk g rfl).trans h2, h3⟩
theorem map_kept {w w' : World} {b n : Nat} {D : Names} (h : w.ownsMap Tryd.prog 9 (plainElem Tryd.prog 3) b n D) (hk : w'.heap[b]? = w.heap[b]?) : w'.ownsMap Tryd.prog 9 (plainElem Tryd.prog 3) b n D := by
  obtain ⟨es, clock, h1, r⟩ := h
  exact ⟨es, clock, hk.trans h1, r⟩
theorem map_blk {w : World} {b n : Nat} {D : Names} (h : w.ownsMap Tryd.prog 9 (plainElem Tryd.prog 3) b n D) : ∃ es clock, w.heap[b]? = some (.map es clock) := by
  obtain ⟨es, clock, h1, r⟩ := h
  exact ⟨es, clock, h1⟩
/-- All of the state's blocks lie as they lay. -/
theorem FsAt.move {w w' : World} {own own' : Nat → Prop} {g : Nat} {S : FsS} {G : FsG} (h : FsAt w own g S G) (hk : ∀ k, k < w.heap.size → own k → w'.heap[k]? = w.heap[k]?) (ho : ∀ k, own k → own' k) : FsAt w' own' g S G := by
  obtain ⟨es, c, hn⟩ := map_blk h.nm
  obtain ⟨es', c', hd⟩ := map_blk h.dm
  refine ⟨(hk g (blk_lt h.blk) h.og).trans h.blk, ho g h.og, row_kept h.fv (fun b hb => hk b (row_typed h.fv b hb).1 (h.ofv b hb)), fun b hb => ho b (h.ofv b hb), h.len, fun i b v f h1 h2 => ?_, h.inj, map_kept h.nm (hk _ (blk_lt hn) h.om.1), map_kept h.dm (hk _ (blk_lt hd) h.om.2.1), ⟨ho _ h.om.1, ho _ h.om.2.1, h.om.2.2⟩,
    row_kept h.cv (fun b hb => hk b (row_typed h.cv b hb).1 (h.ocv b hb)), fun b hb => ho b (h.ocv b hb), h.bnd, h.ln, h.ld, h.lc⟩
  obtain ⟨q1, q2, q3, q4, q5⟩ := h.file i b v f h1 h2
  exact ⟨(hk b (blk_lt q1) q2).trans q1, ho b q2, q3.step (fun k hb => hk k (q3.own k hb).2.1 (q3.own k hb).1) ho, q4, q5⟩
theorem FsIs.move {w w' : World} {own own' : Nat → Prop} {g : Nat} {S : FsS} (h : FsIs w own g S) (hk : ∀ k, k < w.heap.size → own k → w'.heap[k]? = w.heap[k]?) (ho : ∀ k, own k → own' k) : FsIs w' own' g S := by
  obtain ⟨G, h⟩ := h
  exact ⟨G, h.move hk ho⟩
theorem FsIs.below {w w' : World} {own : Nat → Prop} {g : Nat} {S : FsS} (h : FsIs w own g S) (hb : Below w.heap.size w w') : FsIs w' own g S := h.move (fun k hk _ => hb.block k hk) (fun _ h => h)
theorem FsIs.turn {w w' : World} {own own2 : Nat → Prop} {g : Nat} {S : FsS} (h : FsIs w own g S) (hb : Turn own2 w w') (hn : ∀ k, own2 k → ¬ own k) : FsIs w' own g S := h.move (fun k hk ho => hb.block k hk (fun h2 => hn k h2 ho)) (fun _ h => h)
theorem FsIs.mono {w : World} {own own' : Nat → Prop} {g : Nat} {S : FsS} (h : FsIs w own g S) (ho : ∀ k, own k → own' k) : FsIs w own' g S := h.move (fun _ _ _ => rfl) ho
theorem FsIs.lt {w : World} {own : Nat → Prop} {g : Nat} {S : FsS} (h : FsIs w own g S) : g < w.heap.size := by
  obtain ⟨G, h⟩ := h
  exact blk_lt h.blk
theorem FsIs.og {w : World} {own : Nat → Prop} {g : Nat} {S : FsS} (h : FsIs w own g S) : own g := by
  obtain ⟨G, h⟩ := h
  exact h.og
end Go.Proofs.YtnnlmackofopeaaDoor.Fs
/- Contracts of (*Fs).begin, Quota, Limit. -/
namespace Go.Proofs.YtnnlmackofopeaaDoor.Fs
open Go.RowKit Go.Lib Go.Maps Go.Proofs.YtnnlmackofopeaaDoorW.PrintWords Go.Proofs.YtnnlmackofopeaaDoorW.PrintLast Go.Proofs.YtnnlmackofopeaaDoorW.PrintMore
set_option linter.unusedVariables false
set_option linter.unusedSimpArgs false
theorem ne_of_obj {w : World} {a b : Nat} {o o' : Obj} (h : w.heap[a]? = some o) (h' : w.heap[b]? = some o') (hn : o ≠ o') : a ≠ b := fun e => by
  subst e
  rw [h] at h'
  exact hn (Option.some.inj h')
theorem ne_of_type {w : World} {a b : Nat} {cs cs' : Array Value} {t t' : TypeId} {f f' : Nat × Nat} (h : w.heap[a]? = some (.cells cs t f)) (h' : w.heap[b]? = some (.cells cs' t' f')) (hn : t ≠ t') : a ≠ b :=
  ne_of_obj h h' (fun e => by injection e with _ e2; exact hn e2)
/-- The head is written: quota, left, limited. -/
theorem FsAt.head {w w' : World} {own : Nat → Prop} {g : Nat} {S : FsS} {G : FsG} (h : FsAt w own g S G) (q l : Int) (b : Bool)
    (hb : w'.heap[g]? = some (.cells #[.int .i64 q, .int .i64 l, .bool b, G.fv, .map (some G.nb), .map (some G.db), G.cv] 65 (0, 0))) (hk : ∀ k, k ≠ g → k < w.heap.size → own k → w'.heap[k]? = w.heap[k]?) :
    FsAt w' own g { S with quota := q, left := l, limited := b } G := by
  obtain ⟨es, c, hn⟩ := map_blk h.nm
  obtain ⟨es', c', hd⟩ := map_blk h.dm
  refine ⟨hb, h.og, row_kept h.fv (fun k hb => ?_), h.ofv, h.len, fun i b v f h1 h2 => ?_, h.inj, map_kept h.nm (hk _ (ne_of_obj hn h.blk (by simp)) (blk_lt hn) h.om.1), map_kept h.dm (hk _ (ne_of_obj hd h.blk (by simp)) (blk_lt hd) h.om.2.1), h.om,
    row_kept h.cv (fun k hb => ?_), h.ocv, h.bnd, h.ln, h.ld, h.lc⟩
  · obtain ⟨hl, cells, hc⟩ := row_typed h.fv k hb
    exact hk k (ne_of_type hc h.blk (by decide)) hl (h.ofv k hb)
  · obtain ⟨q1, q2, q3, q4, q5⟩ := h.file i b v f h1 h2
    refine ⟨(hk b (ne_of_type q1 h.blk (by decide)) (blk_lt q1) q2).trans q1, q2, q3.step (fun k hb => ?_) (fun _ h => h), q4, q5⟩
    obtain ⟨o1, o2, cells, hc⟩ := q3.own k hb
    exact hk k (ne_of_type hc h.blk (by decide)) o2 o1
  · obtain ⟨hl, cells, hc⟩ := row_typed h.cv k hb
    exact hk k (ne_of_type hc h.blk (by decide)) hl (h.ocv k hb)
/-- Names in a row, read. -/
def SR (w : World) (A : Option Addr) (ns : List ByteArray) : Prop := ∀ (i : Nat) (h : i < ns.length), ∃ ad, A = some ad ∧ w.cell? (ad.add i) = some (.string ns[i])
theorem SR.nil (w : World) (A : Option Addr) : SR w A [] := fun i h => absurd h (Nat.not_lt_zero i)
theorem add_block (ad : Addr) (i : Nat) : (ad.add i).block = ad.block := by unfold Addr.add; split <;> rfl
theorem SR.below {w w' : World} {A : Option Addr} {ns : List ByteArray} (h : SR w A ns) (hb : Below w.heap.size w w') : SR w' A ns := fun i hi => by
  obtain ⟨ad, e, hc⟩ := h i hi
  exact ⟨ad, e, (hb.cell (World.block_lt_of_cell? w _ hc)).trans hc⟩
theorem SR.turn {w w' : World} {own : Nat → Prop} {A : Option Addr} {ns : List ByteArray} (h : SR w A ns) (hb : Turn own w w') (hn : ∀ ad, A = some ad → ¬ own ad.block) : SR w' A ns := fun i hi => by
  obtain ⟨ad, e, hc⟩ := h i hi
  refine ⟨ad, e, ?_⟩
  rw [← hc]
  refine World.cell?_of_block (hb.block _ (World.block_lt_of_cell? w _ hc) ?_)
  rw [add_block]
  exact hn ad e
set_option maxHeartbeats 2000000 in
set_option maxRecDepth 100000 in
theorem begin1_calls (s : ByteArray) (w : World) : Calls Tryd.prog 60 #[.string s] w fun e w' => e = .returned (.bool (!mayS s)) ∧ Below w.heap.size w w' := by
  have hm := may_calls s w
  obtain ⟨b, hb⟩ : ∃ b, b = mayS s := ⟨_, rfl⟩
  rw [← hb] at hm ⊢
  clear hb
  go_enter Tryd.func60, Tryd.ntmps60
  go_wp2_with (go_at_call 44; refine hm.mono ?_; rintro e w1 ⟨rfl, hb⟩; have HB1 := Aside0.mk hb; clear hb)
  all_goals (go_ret; exact ⟨rfl, HB1.out⟩)
set_option maxHeartbeats 2000000 in
set_option maxRecDepth 100000 in
theorem idx_calls (A : Option Addr) (c : Nat) (ns : List ByteArray) (w : World) (hr : SR w A ns) (hl : ns.length ≤ 1000) :
    Calls Tryd.prog 69 #[.slice A ns.length c, .func (.func 60) #[] #[]] w fun e w' => (∃ i : Int, e = .returned (.int .i64 i) ∧ (0 ≤ i ↔ ns.all mayS = false)) ∧ Below w.heap.size w w' := by
  have eg : ∀ args w, (callFunc 60 args).run Tryd.prog w = .ok (.enter 60 args) w := enters_of Tryd.func60 (by kernel_rfl) rfl
  have HR := Aside0.mk hr
  have HL := Aside0.mk hl
  clear hr hl
  go_enter Tryd.func69, Tryd.ntmps69
  go_wp2
  go_loopg [8] ns.length (fun kq v8 wx => ∃ i : Nat, v8 = .int .i64 (i : Int) ∧ i + kq = ns.length ∧ Aside0 ((ns.take i).all mayS = true) ∧ Aside0 (Below w.heap.size w wx))
  case atStart => exact ⟨0, rfl, by omega, ⟨by simp⟩, ⟨Below.refl _ _⟩⟩
  case round =>
    obtain ⟨i, rfl, hi, HM, HB⟩ := hrel
    cases gk with
    | zero =>
      have e1 : ((i : Int) < (ns.length : Int)) = False := eq_false (by omega)
      have hm := HM.out
      rw [List.take_of_length_le (by omega)] at hm
      have HM2 := Aside0.mk hm
      clear hi hm
      go_wp2
      go_ret
      exact ⟨⟨-1, rfl, by simp [HM2.out]⟩, HB.out⟩
    | succ d =>
      have e1 : ((i : Int) < (ns.length : Int)) = True := eq_true (by omega)
      have e2 : (i < ns.length) = True := eq_true (by omega)
      have hil : i < ns.length := by omega
      obtain ⟨ad, rfl, hc⟩ := (HR.out.below HB.out) i hil
      have hb := begin1_calls ns[i] wr
      have htk : ns.take (i + 1) = ns.take i ++ [ns[i]] := by rw [List.take_add_one, List.getElem?_eq_getElem hil]; rfl
      have HHI := Aside0.mk hi
      cases hmay : mayS ns[i] with
      | true =>
        rw [hmay] at hb
        have HM2 : Aside0 ((ns.take (i + 1)).all mayS = true) := ⟨by rw [htk, List.all_append, HM.out]; simp [hmay]⟩
        generalize ns[i] = s at hc hb
        clear hi hil htk hmay
        go_wp2_with (go_at_fn 60; refine hb.mono ?_; rintro e w1 ⟨rfl, hb1⟩; have HB1 := Aside0.mk (below_step HB.out hb1); clear hb1)
        go_roundg d
        case measure => omega
        case rel => exact ⟨i + 1, by rw [show wrap64 ((i : Int) + 1) = ((i + 1 : Nat) : Int) by have := HHI.out; have := HL.out; unfold wrap64; omega], by have := HHI.out; omega, HM2, HB1⟩
      | false =>
        rw [hmay] at hb
        have HM2 : Aside0 (ns.all mayS = false) := ⟨by
          rw [← List.take_append_drop (i + 1) ns, htk, List.all_append, List.all_append]
          simp [hmay]⟩
        generalize ns[i] = s at hc hb
        clear hi hil htk hmay
        go_wp2_with (go_at_fn 60; refine hb.mono ?_; rintro e w1 ⟨rfl, hb1⟩; have HB1 := Aside0.mk (below_step HB.out hb1); clear hb1)
        go_ret
        exact ⟨⟨i, rfl, by simp [HM2.out]⟩, HB1.out⟩
set_option maxHeartbeats 2000000 in
set_option maxRecDepth 100000 in
theorem any_calls (A : Option Addr) (c : Nat) (ns : List ByteArray) (w : World) (hr : SR w A ns) (hl : ns.length ≤ 1000) :
    Calls Tryd.prog 59 #[.slice A ns.length c, .func (.func 60) #[] #[]] w fun e w' => e = .returned (.bool (!ns.all mayS)) ∧ Below w.heap.size w w' := by
  have hi := idx_calls A c ns w hr hl
  clear hr hl
  obtain ⟨n, hn⟩ : ∃ n, n = ns.length := ⟨_, rfl⟩
  obtain ⟨b, hb⟩ : ∃ b, b = ns.all mayS := ⟨_, rfl⟩
  rw [← hn, ← hb] at hi
  rw [← hn, ← hb]
  clear hn hb
  go_enter Tryd.func59, Tryd.ntmps59
  cases b with
  | true =>
    go_wp2_with (go_at_call 69; refine hi.mono ?_; rintro e w1 ⟨⟨i, rfl, hx⟩, hb1⟩; have HB1 := Aside0.mk hb1; have e1 : (0 ≤ i) = False := eq_false (fun h => by have := hx.1 h; simp at this); clear hb1 hx)
    go_ret
    exact ⟨rfl, HB1.out⟩
  | false =>
    go_wp2_with (go_at_call 69; refine hi.mono ?_; rintro e w1 ⟨⟨i, rfl, hx⟩, hb1⟩; have HB1 := Aside0.mk hb1; have e1 : (0 ≤ i) = True := eq_true (hx.2 rfl); clear hb1 hx)
    go_ret
    exact ⟨rfl, HB1.out⟩
def FsS.stops (S : FsS) : Bool := S.limited && (S.left == 0)
def FsS.tick (S : FsS) : FsS := if S.limited = true then { S with left := wrap64 (S.left - 1) } else S
/-- An operation's begin: its answer, and the state. -/
def FsS.beginC (S : FsS) (ns : List ByteArray) : Int := if S.stops = true then 11 else if ns.all mayS = true then 0 else 1
def FsS.beginT (S : FsS) : FsS := if S.stops = true then S else S.tick
set_option maxHeartbeats 4000000 in
set_option maxRecDepth 100000 in
theorem begin_calls (A : Option Addr) (c : Nat) (ns : List ByteArray) (w : World) (own : Nat → Prop) (g : Nat) (S : FsS) (hS : FsIs w own g S) (hr : SR w A ns) (hl : ns.length ≤ 1000) (hA : ∀ ad, A = some ad → ¬ own ad.block) :
    Calls Tryd.prog 41 #[.pointer (some ⟨g, 0, none⟩), .slice A ns.length c] w fun e w' => e = .returned (.int .i64 (S.beginC ns)) ∧ FsIs w' own g S.beginT ∧ Turn own w w' := by
  obtain ⟨G, hG⟩ := hS
  have hb0 := hG.blk
  have c0 : w.cell? ⟨g, 1, none⟩ = some (.int .i64 S.left) := blk_cell hb0 1
  have c1 : w.cell? ⟨g, 2, none⟩ = some (.bool S.limited) := blk_cell hb0 2
  have f1 := blk_frozen hb0 1
  have HG := Aside0.mk hG
  have HR := Aside0.mk hr
  have HL := Aside0.mk hl
  have HA := Aside0.mk hA
  clear hG hr hl hA hb0
  obtain ⟨lim, hlim⟩ : ∃ lim, lim = S.limited := ⟨_, rfl⟩
  rw [← hlim] at c1
  cases lim with
  | false =>
    have es : S.stops = false := by unfold FsS.stops; rw [← hlim]; rfl
    have et : S.tick = S := by unfold FsS.tick; rw [← hlim]; rfl
    have EC := Aside0.mk (show S.beginC ns = if ns.all mayS = true then 0 else 1 by unfold FsS.beginC; rw [es, if_neg Bool.false_ne_true])
    have ET := Aside0.mk (show S.beginT = S by unfold FsS.beginT; rw [es, if_neg Bool.false_ne_true, et])
    obtain ⟨bb, hbb⟩ : ∃ bb, bb = ns.all mayS := ⟨_, rfl⟩
    rw [← hbb] at EC
    have EB := Aside0.mk hbb
    clear es et hlim hbb
    go_enter Tryd.func41, Tryd.ntmps41
    cases bb with
    | true =>
      go_wp2_with (go_at_call 59; refine (any_calls A c ns w HR.out HL.out).mono ?_; rintro e w1 ⟨he, hb1⟩; rw [← EB.out] at he; subst he; have HB1 := Aside0.mk hb1; clear hb1)
      go_ret
      exact ⟨by rw [EC.out]; rfl, by rw [ET.out]; exact FsIs.below ⟨G, HG.out⟩ HB1.out, Turn.below HB1.out own⟩
    | false =>
      go_wp2_with (go_at_call 59; refine (any_calls A c ns w HR.out HL.out).mono ?_; rintro e w1 ⟨he, hb1⟩; rw [← EB.out] at he; subst he; have HB1 := Aside0.mk hb1; clear hb1)
      go_ret
      exact ⟨by rw [EC.out]; rfl, by rw [ET.out]; exact FsIs.below ⟨G, HG.out⟩ HB1.out, Turn.below HB1.out own⟩
  | true =>
    by_cases h0 : S.left = 0
    · have es : S.stops = true := by unfold FsS.stops; rw [← hlim, h0]; rfl
      have EC := Aside0.mk (show S.beginC ns = 11 by unfold FsS.beginC; rw [es, if_pos rfl])
      have ET := Aside0.mk (show S.beginT = S by unfold FsS.beginT; rw [es, if_pos rfl])
      have e1 : (S.left == 0) = true := beq_iff_eq.mpr h0
      clear es hlim h0
      go_enter Tryd.func41, Tryd.ntmps41
      go_wp2
      go_ret
      exact ⟨by rw [EC.out]; rfl, by rw [ET.out]; exact ⟨G, HG.out⟩, Turn.refl _ _⟩
    · have e0 : (S.left == 0) = false := beq_eq_false_iff_ne.mpr h0
      have es : S.stops = false := by unfold FsS.stops; rw [e0, Bool.and_false]
      have et : S.tick = { S with left := wrap64 (S.left - 1) } := by unfold FsS.tick; rw [← hlim]; rfl
      have EC := Aside0.mk (show S.beginC ns = if ns.all mayS = true then 0 else 1 by unfold FsS.beginC; rw [es, if_neg Bool.false_ne_true])
      have ET := Aside0.mk (show S.beginT = { S with left := wrap64 (S.left - 1) } by unfold FsS.beginT; rw [es, if_neg Bool.false_ne_true, et])
      have hw : FsAt (w.setCell ⟨g, 1, none⟩ (.int .i64 (wrap64 (S.left - 1)))) own g { S with left := wrap64 (S.left - 1) } G := by
        have := HG.out.head (w' := w.setCell ⟨g, 1, none⟩ (.int .i64 (wrap64 (S.left - 1)))) S.quota (wrap64 (S.left - 1)) S.limited (blk_put HG.out.blk 1 _ rfl) (fun k hk _ _ => Below.heap_setCell _ ⟨g, 1, none⟩ _ k hk)
        exact this
      have HW := Aside0.mk hw
      have HT := Aside0.mk (Turn.set (own := own) (w := w) g 1 (.int .i64 (wrap64 (S.left - 1))) HG.out.og)
      have HR2 := Aside0.mk (HR.out.turn HT.out HA.out)
      obtain ⟨bb, hbb⟩ : ∃ bb, bb = ns.all mayS := ⟨_, rfl⟩
      rw [← hbb] at EC
      have EB := Aside0.mk hbb
      clear es et hlim hbb h0 hw
      go_enter Tryd.func41, Tryd.ntmps41
      cases bb with
      | true =>
        go_wp2_with (go_at_call 59; refine (any_calls A c ns _ HR2.out HL.out).mono ?_; rintro e w1 ⟨he, hb1⟩; rw [← EB.out] at he; subst he; have HB1 := Aside0.mk hb1; clear hb1)
        go_ret
        exact ⟨by rw [EC.out]; rfl, by rw [ET.out]; exact FsIs.below ⟨G, HW.out⟩ HB1.out, HT.out.then_below HB1.out⟩
      | false =>
        go_wp2_with (go_at_call 59; refine (any_calls A c ns _ HR2.out HL.out).mono ?_; rintro e w1 ⟨he, hb1⟩; rw [← EB.out] at he; subst he; have HB1 := Aside0.mk hb1; clear hb1)
        go_ret
        exact ⟨by rw [EC.out]; rfl, by rw [ET.out]; exact FsIs.below ⟨G, HW.out⟩ HB1.out, HT.out.then_below HB1.out⟩
theorem begin_nil (A : Option Addr) (n c : Nat) (w : World) : Calls Tryd.prog 41 #[.pointer none, .slice A n c] w fun e w' => e = .returned (.int .i64 1) ∧ w' = w := by
  go_enter Tryd.func41, Tryd.ntmps41
  go_wp2
  go_ret
  exact ⟨rfl, rfl⟩
set_option maxHeartbeats 2000000 in
theorem quota_calls (q : Int) (w : World) (own : Nat → Prop) (g : Nat) (S : FsS) (hS : FsIs w own g S) :
    Calls Tryd.prog 32 #[.pointer (some ⟨g, 0, none⟩), .int .i64 q] w fun e w' => e = .returned (.tuple #[]) ∧ FsIs w' own g { S with quota := q } ∧ Turn own w w' := by
  obtain ⟨G, hG⟩ := hS
  have hb0 := hG.blk
  have c0 : w.cell? ⟨g, 0, none⟩ = some (.int .i64 S.quota) := blk_cell hb0 0
  have f1 := blk_frozen hb0 0
  have HG := Aside0.mk hG
  have HW := Aside0.mk (HG.out.head (w' := w.setCell ⟨g, 0, none⟩ (.int .i64 q)) q S.left S.limited (blk_put HG.out.blk 0 _ rfl) (fun k hk _ _ => Below.heap_setCell _ ⟨g, 0, none⟩ _ k hk))
  clear hG hb0
  go_enter Tryd.func32, Tryd.ntmps32
  go_wp2
  go_end0
  exact ⟨rfl, ⟨G, HW.out⟩, Turn.set g 0 _ HG.out.og⟩
theorem quota_nil (q : Int) (w : World) : Calls Tryd.prog 32 #[.pointer none, .int .i64 q] w fun e w' => e = .returned (.tuple #[]) ∧ w' = w := by
  go_enter Tryd.func32, Tryd.ntmps32
  go_wp2
  go_end0
  exact ⟨rfl, rfl⟩
theorem limit_nil (q : Int) (w : World) : Calls Tryd.prog 16 #[.pointer none, .int .i64 q] w fun e w' => e = .returned (.tuple #[]) ∧ w' = w := by
  go_enter Tryd.func16, Tryd.ntmps16
  go_wp2
  go_end0
  exact ⟨rfl, rfl⟩
set_option maxHeartbeats 2000000 in
theorem limit_calls (n : Int) (w : World) (own : Nat → Prop) (g : Nat) (S : FsS) (hS : FsIs w own g S) :
    Calls Tryd.prog 16 #[.pointer (some ⟨g, 0, none⟩), .int .i64 n] w fun e w' => e = .returned (.tuple #[]) ∧ FsIs w' own g { S with left := n, limited := decide (0 ≤ n) } ∧ Turn own w w' := by
  obtain ⟨G, hG⟩ := hS
  have hb0 := hG.blk
  have c0 : w.cell? ⟨g, 1, none⟩ = some (.int .i64 S.left) := blk_cell hb0 1
  have c1 : w.cell? ⟨g, 2, none⟩ = some (.bool S.limited) := blk_cell hb0 2
  have f1 := blk_frozen hb0 1
  have f2 := blk_frozen hb0 2
  have HG := Aside0.mk hG
  clear hG hb0
  go_enter Tryd.func16, Tryd.ntmps16
  go_wp2
  go_end0
  refine ⟨rfl, ⟨G, ?_⟩, (Turn.set g 1 _ HG.out.og).trans (Turn.set g 2 _ HG.out.og) (fun _ h => .inl h)⟩
  refine HG.out.head S.quota n (decide (0 ≤ n)) ?_ (fun k hk _ _ => (Below.heap_setCell _ ⟨g, 2, none⟩ _ k hk).trans (Below.heap_setCell _ ⟨g, 1, none⟩ _ k hk))
  exact blk_put (blk_put HG.out.blk 1 _ rfl) 2 _ rfl
end Go.Proofs.YtnnlmackofopeaaDoor.Fs
/- Contracts of (*Fs).of, apply, (*Fs).change. -/
namespace Go.Proofs.YtnnlmackofopeaaDoor.Fs
open Go.RowKit Go.Lib Go.Maps Go.Proofs.YtnnlmackofopeaaDoorW.PrintWords Go.Proofs.YtnnlmackofopeaaDoorW.PrintLast Go.Proofs.YtnnlmackofopeaaDoorW.PrintMore
set_option linter.unusedVariables false
set_option linter.unusedSimpArgs false
theorem keyLaw : Keyed Tryd.prog 9 := string_keyed Tryd.underlying9
theorem zero3 (w : World) : (zeroValue 3).run Tryd.prog w = .ok (.int .i64 0) w := by kernel_rfl
/-- A name's file: its place. -/
def FsS.at_ (S : FsS) (n : ByteArray) : Option Nat := if has S.names (kl n) = true then (match S.names.atKey (kl n) .nil with | .lit (.int .i64 i) => some i.toNat | _ => none) else none
theorem at_some {S : FsS} {n : ByteArray} {L : Nat} (hl : Leads S.names L) (h : has S.names (kl n) = true) : ∃ i, i < L ∧ S.at_ n = some i ∧ ∀ z, S.names.atKey (kl n) z = num i := by
  obtain ⟨i, h1, h2⟩ := hl _ h
  refine ⟨i, h1, ?_, h2⟩
  unfold FsS.at_
  rw [if_pos h, h2]
  simp
theorem at_none {S : FsS} {n : ByteArray} (h : has S.names (kl n) = false) : S.at_ n = none := by
  unfold FsS.at_
  rw [if_neg (by rw [h]; decide)]
/-- A file's cells, by its place. -/
theorem FsAt.get {w : World} {own : Nat → Prop} {g : Nat} {S : FsS} {G : FsG} (h : FsAt w own g S G) (i : Nat) (hi : i < S.files.length) : ∃ b v f fb cap, G.fs[i]? = some (b, v) ∧ S.files[i]? = some f ∧ G.fv = .slice (some ⟨fb, 0, none⟩) S.files.length cap ∧ w.cell? ⟨fb, i, none⟩ = some (ptr b) := by
  have hi2 : i < G.fs.length := by rw [h.len]; exact hi
  obtain ⟨hl, hv⟩ := h.fv
  rcases hv with ⟨_, h0⟩ | ⟨fb, cap, cur, e, _, hc, h1, _, h2, h3⟩
  · omega
  · refine ⟨G.fs[i].1, G.fs[i].2, S.files[i], fb, cap, List.getElem?_eq_getElem hi2, List.getElem?_eq_getElem hi, e, ?_⟩
    rw [blk_cell hc i]
    have h4 : (cur.toList.take (S.files.length * 1))[i]? = (G.fs.map (fun x => ptr x.1))[i]? := by rw [h3]
    rw [List.getElem?_take_of_lt (by omega), List.getElem?_map, List.getElem?_eq_getElem hi2] at h4
    rw [← Array.getElem?_toList]
    exact h4
set_option maxHeartbeats 2000000 in
set_option maxRecDepth 100000 in
/-- (*Fs).of: the file that has a name. -/
theorem of_calls (n : ByteArray) (hn : n.size ≤ maxLen) (w : World) (own : Nat → Prop) (g : Nat) (S : FsS) (G : FsG) (hG : FsAt w own g S G) :
    Calls Tryd.prog 43 #[.pointer (some ⟨g, 0, none⟩), .string n] w fun e w' => w' = w ∧ ((has S.names (kl n) = false ∧ e = .returned (.tuple #[.pointer none, .int .i64 7])) ∨
      ∃ i b v, S.at_ n = some i ∧ G.fs[i]? = some (b, v) ∧ i < S.files.length ∧ e = .returned (.tuple #[.pointer (some ⟨b, 0, none⟩), .int .i64 0])) := by
  have hb0 := hG.blk
  have c4 : w.cell? ⟨g, 4, none⟩ = some (.map (some G.nb)) := blk_cell hb0 4
  have c3 : w.cell? ⟨g, 3, none⟩ = some G.fv := blk_cell hb0 3
  have hkey : keyOf Tryd.prog 9 (.string n) = some (kl n) := WideMaps.keyOf_string_mk Tryd.underlying9 hn
  have HG := Aside0.mk hG
  have HK := Aside0.mk hkey
  clear hG hb0 hkey
  obtain ⟨hb, hhb⟩ : ∃ hb, hb = has S.names (kl n) := ⟨_, rfl⟩
  cases hb with
  | false =>
    have HH := Aside0.mk hhb.symm
    clear hhb
    go_enter Tryd.func43, Tryd.ntmps43
    go_wp2_with (at_lookup; refine wpList_lookup_own_ok_int _ rfl _ _ 61 rfl 9 3 .i64 keyLaw Tryd.underlying61 Tryd.underlying3 (zero3 _) G.nb G.nn S.names rfl HG.out.nm _ _ rfl HK.out ?_; intro c hat hwc; rw [HH.out]; clear hat hwc)
    go_ret2
    exact ⟨rfl, .inl ⟨HH.out, rfl⟩⟩
  | true =>
    obtain ⟨i, h1, h2, h3⟩ := at_some HG.out.ln hhb.symm
    obtain ⟨b, v, f, fb, cap, h4, h5, h6, h7⟩ := HG.out.get i h1
    have HH := Aside0.mk hhb.symm
    have H1 := Aside0.mk h1
    have H2 := Aside0.mk h2
    have H3 := Aside0.mk (h3 (.lit (.int .i64 0)))
    have H4 := Aside0.mk h4
    rw [h6] at c3
    have e1 : ((i : Int) < (S.files.length : Int)) = True := eq_true (by omega)
    have e2 : (i < S.files.length) = True := eq_true h1
    unfold ptr at h7
    clear hhb h1 h2 h3 h4 h5 h6
    go_enter Tryd.func43, Tryd.ntmps43
    go_wp2_with (at_lookup; refine wpList_lookup_own_ok_int _ rfl _ _ 61 rfl 9 3 .i64 keyLaw Tryd.underlying61 Tryd.underlying3 (zero3 _) G.nb G.nn S.names rfl HG.out.nm _ _ rfl HK.out ?_; intro c hat hwc; rw [HH.out]; obtain rfl : c = (i : Int) := (by rw [H3.out] at hat; unfold num at hat; injection hat with h_; injection h_ with _ h_; exact h_.symm); clear hat hwc)
    go_ret2
    exact ⟨rfl, .inr ⟨i, b, v, H2.out, H4.out, H1.out, rfl⟩⟩
theorem ta81_81 (v : Value) (w : World) : (Instr.typeAssert (.iface 81 v) 20 81 true).run Tryd.prog w = .ok (.tuple #[v, .bool true]) w := by
  have u := run_underlying (P := Tryd.prog) Tryd.underlying81
  simp [Instr.typeAssert, u, Result.andThen]
theorem ta87_81 (v : Value) (w : World) : (Instr.typeAssert (.iface 87 v) 20 81 true).run Tryd.prog w = .ok (.tuple #[.agg #[.string ⟨#[]⟩, .int .i64 0], .bool false]) w := by kernel_rfl
theorem ta90_81 (v : Value) (w : World) : (Instr.typeAssert (.iface 90 v) 20 81 true).run Tryd.prog w = .ok (.tuple #[.agg #[.string ⟨#[]⟩, .int .i64 0], .bool false]) w := by kernel_rfl
theorem ta87_87 (v : Value) (w : World) : (Instr.typeAssert (.iface 87 v) 20 87 true).run Tryd.prog w = .ok (.tuple #[v, .bool true]) w := by
  have u := run_underlying (P := Tryd.prog) Tryd.underlying87
  simp [Instr.typeAssert, u, Result.andThen]
theorem ta90_87 (v : Value) (w : World) : (Instr.typeAssert (.iface 90 v) 20 87 true).run Tryd.prog w = .ok (.tuple #[.agg #[.string ⟨#[]⟩], .bool false]) w := by kernel_rfl
theorem ta90_90 (v : Value) (w : World) : (Instr.typeAssert (.iface 90 v) 20 90 false).run Tryd.prog w = .ok v w := by
  have u := run_underlying (P := Tryd.prog) Tryd.underlying90
  simp [Instr.typeAssert, u, Result.andThen]
theorem wf_small (i : Nat) (hi : i ≤ 1000000) : (Lit.int .i64 (i : Int)).wf = true := by simp [Lit.wf, IntKind.min, IntKind.max, IntKind.bits, IntKind.signed]; omega
set_option maxHeartbeats 2000000 in
set_option maxRecDepth 100000 in
theorem apply_link (n : ByteArray) (hn : n.size ≤ maxLen) (i : Nat) (hi : i ≤ 1000000) (D : Names) (b nn : Nat) (hnn : nn ≤ 1000000) (w : World) (hm : w.ownsMap Tryd.prog 9 (plainElem Tryd.prog 3) b nn D) :
    Calls Tryd.prog 36 #[.map (some b), .iface 81 (.agg #[.string n, .int .i64 (i : Int)])] w fun e w' => e = .returned (.tuple #[]) ∧ w'.ownsMap Tryd.prog 9 (plainElem Tryd.prog 3) b (nn + 1) (D.put (kl n) (num i)) ∧ w.grownBy w' (some b) := by
  have hkey : keyOf Tryd.prog 9 (.string n) = some (kl n) := WideMaps.keyOf_string_mk Tryd.underlying9 hn
  have HK := Aside0.mk hkey
  have HM := Aside0.mk hm
  have HW := Aside0.mk (wf_small i hi)
  have HN := Aside0.mk (show nn < maxLen by unfold maxLen; omega)
  clear hkey hm hn hi hnn
  have t1 := fun w => ta81_81 (.agg #[.string n, .int .i64 (i : Int)]) w
  go_enter Tryd.func36, Tryd.ntmps36
  go_wp2_with (at_mapUpdate; refine wpList_mapUpdate_own _ rfl _ _ _ 61 rfl 9 3 keyLaw Tryd.underlying61 _ b nn _ rfl (HM.out.alloc _) HN.out _ _ _ rfl rfl HK.out _ [] (plainElem_int Tryd.underlying3 HW.out) ?_; intro w1 hown1 hgrow1; have HO1 := Aside0.mk hown1; have HG1 := Aside0.mk hgrow1; clear hown1 hgrow1)
  refine bodyPost_ret (results_none rfl _ _ _) rfl ?_
  exact ⟨rfl, HO1.out, (World.grownBy_alloc w _ (some b)).trans HG1.out⟩
set_option maxHeartbeats 2000000 in
set_option maxRecDepth 100000 in
theorem apply_gone (n : ByteArray) (hn : n.size ≤ maxLen) (D : Names) (b nn : Nat) (w : World) (hm : w.ownsMap Tryd.prog 9 (plainElem Tryd.prog 3) b nn D) :
    Calls Tryd.prog 36 #[.map (some b), .iface 87 (.agg #[.string n])] w fun e w' => e = .returned (.tuple #[]) ∧ w'.ownsMap Tryd.prog 9 (plainElem Tryd.prog 3) b nn (D.del (kl n)) ∧ w.grownBy w' (some b) := by
  have hkey : keyOf Tryd.prog 9 (.string n) = some (kl n) := WideMaps.keyOf_string_mk Tryd.underlying9 hn
  have HK := Aside0.mk hkey
  have HM := Aside0.mk hm
  clear hkey hm hn
  have t1 := fun w => ta87_81 (.agg #[.string n]) w
  have t2 := fun w => ta87_87 (.agg #[.string n]) w
  go_enter Tryd.func36, Tryd.ntmps36
  go_wp2_with (at_delete; refine wpList_delete_own _ rfl _ _ 61 9 rfl 3 keyLaw Tryd.underlying61 _ b nn D rfl ((HM.out.alloc _).alloc _) _ _ rfl HK.out ?_; intro w1 hown1 hturn1; have HO1 := Aside0.mk hown1; have HG1 := Aside0.mk hturn1.grown; clear hown1 hturn1)
  refine bodyPost_ret (results_none rfl _ _ _) rfl ?_
  exact ⟨rfl, HO1.out, ((World.grownBy_alloc w _ (some b)).trans (World.grownBy_alloc _ _ (some b))).trans HG1.out⟩
set_option maxHeartbeats 2000000 in
set_option maxRecDepth 100000 in
theorem apply_moved (n o : ByteArray) (hn : n.size ≤ maxLen) (ho : o.size ≤ maxLen) (i : Nat) (hi : i ≤ 1000000) (D : Names) (b nn : Nat) (hnn : nn ≤ 1000000) (w : World) (hm : w.ownsMap Tryd.prog 9 (plainElem Tryd.prog 3) b nn D) :
    Calls Tryd.prog 36 #[.map (some b), .iface 90 (.agg #[.string n, .int .i64 (i : Int), .string o])] w fun e w' => e = .returned (.tuple #[]) ∧ w'.ownsMap Tryd.prog 9 (plainElem Tryd.prog 3) b (nn + 1) ((D.put (kl n) (num i)).del (kl o)) ∧ w.grownBy w' (some b) := by
  have HM := Aside0.mk hm
  have t1 := fun w => ta90_81 (.agg #[.string n, .int .i64 (i : Int), .string o]) w
  have t2 := fun w => ta90_87 (.agg #[.string n, .int .i64 (i : Int), .string o]) w
  have t3 := fun w => ta90_90 (.agg #[.string n, .int .i64 (i : Int), .string o]) w
  have HH := Aside0.mk (And.intro hn (And.intro ho (And.intro hi hnn)))
  clear hm hn ho hi hnn
  go_enter Tryd.func36, Tryd.ntmps36
  go_upto_region 7 with (fail)
  have HX := Aside0.mk (show (((w.alloc (.cells #[.string ⟨#[]⟩, .int .i64 0] 81)).alloc (.cells #[.string ⟨#[]⟩] 87)).alloc (.cells #[.string n, .int .i64 (i : Int), .string o] 90)).heap[w.heap.size + 1 + 1]? = some (.cells #[.string n, .int .i64 (i : Int), .string o] 90) from by have := blk_new ((w.alloc (.cells #[.string ⟨#[]⟩, .int .i64 0] 81)).alloc (.cells #[.string ⟨#[]⟩] 87)) (.cells #[.string n, .int .i64 (i : Int), .string o] 90); simpa using this)
  have HM3 := Aside0.mk (((HM.out.alloc (.cells #[.string ⟨#[]⟩, .int .i64 0] 81)).alloc (.cells #[.string ⟨#[]⟩] 87)).alloc (.cells #[.string n, .int .i64 (i : Int), .string o] 90))
  have HG3 := Aside0.mk (((World.grownBy_alloc w (.cells #[.string ⟨#[]⟩, .int .i64 0] 81) (some b)).trans (World.grownBy_alloc _ (.cells #[.string ⟨#[]⟩] 87) (some b))).trans (World.grownBy_alloc _ (.cells #[.string n, .int .i64 (i : Int), .string o] 90) (some b)))
  have HB3 := Aside0.mk (show b < w.heap.size + 1 + 1 from by have := HM.out.lt; omega)
  obtain ⟨W3, hW3⟩ : ∃ W3, W3 = ((w.alloc (.cells #[.string ⟨#[]⟩, .int .i64 0] 81)).alloc (.cells #[.string ⟨#[]⟩] 87)).alloc (.cells #[.string n, .int .i64 (i : Int), .string o] 90) := ⟨_, rfl⟩
  obtain ⟨bx, hbx⟩ : ∃ bx, bx = w.heap.size + 1 + 1 := ⟨_, rfl⟩
  rw [← hW3] at HX HM3 HG3 ⊢
  rw [← hbx] at HX HB3 ⊢
  clear hW3 hbx t1 t2 t3
  have x0 : W3.cell? ⟨bx, 0, none⟩ = some (.string n) := blk_cell HX.out 0
  have x1 : W3.cell? ⟨bx, 1, none⟩ = some (.int .i64 (i : Int)) := blk_cell HX.out 1
  go_upto_region 8 with (go_at_call 36; refine (apply_link n HH.out.1 i HH.out.2.2.1 D b nn HH.out.2.2.2 _ HM3.out).mono ?_; rintro e w1 ⟨rfl, ho, hg⟩; have HO1 := Aside0.mk ho; have HG1 := Aside0.mk (HG3.out.trans hg); have HX1 := Aside0.mk ((hg.block bx (blk_lt HX.out) (fun e => by have := HB3.out; injection e; omega)).trans HX.out); clear ho hg x0 x1)
  have x2 : w1.cell? ⟨bx, 2, none⟩ = some (.string o) := blk_cell HX1.out 2
  go_wp2_with (go_at_call 36; refine (apply_gone o HH.out.2.1 _ b (nn + 1) _ HO1.out).mono ?_; rintro e w2 ⟨rfl, ho, hg⟩; have HO2 := Aside0.mk ho; have HG2 := Aside0.mk (HG1.out.trans hg); clear ho hg x2)
  go_end0
  exact ⟨rfl, HO2.out, HG2.out⟩
/-- apply, at whatever change. -/
theorem apply_calls (c : Chg) (L : Nat) (hc : c.okL L) (hL : L ≤ 1000000) (D : Names) (b nn : Nat) (hnn : nn ≤ 1000000) (w : World) (hm : w.ownsMap Tryd.prog 9 (plainElem Tryd.prog 3) b nn D) :
    Calls Tryd.prog 36 #[.map (some b), c.val] w fun e w' => e = .returned (.tuple #[]) ∧ w'.ownsMap Tryd.prog 9 (plainElem Tryd.prog 3) b (nn + 1) (c.app D) ∧ w.grownBy w' (some b) := by
  cases c with
  | link n i => exact apply_link n hc.2 i (by have := hc.1; omega) D b nn hnn w hm
  | gone n => exact (apply_gone n hc D b nn w hm).mono fun _ _ h => ⟨h.1, h.2.1.mono (Nat.le_succ _), h.2.2⟩
  | moved n i o => exact apply_moved n o hc.2.1 hc.2.2 i (by have := hc.1; omega) D b nn hnn w hm
end Go.Proofs.YtnnlmackofopeaaDoor.Fs
/- What the file system's blocks hold when one of them is written. -/
namespace Go.Proofs.YtnnlmackofopeaaDoor.Fs
open Go.RowKit Go.Lib Go.Maps Go.Proofs.YtnnlmackofopeaaDoorW.PrintWords Go.Proofs.YtnnlmackofopeaaDoorW.PrintLast Go.Proofs.YtnnlmackofopeaaDoorW.PrintMore
set_option linter.unusedVariables false
set_option linter.unusedSimpArgs false
theorem leads_app {D : Names} {L : Nat} {c : Chg} (h : Leads D L) (hm : IsMap D) (hc : c.okL L) : Leads (c.app D) L := by
  have put : ∀ (D : Names) (n : ByteArray) (i : Nat), Leads D L → IsMap D → i < L → Leads (D.put (kl n) (num i)) L := by
    intro D n i h hm hi k hk
    by_cases e : k = kl n
    · subst e
      exact ⟨i, hi, fun z => atKey_put_same hm (by simp [kl, WideAt.IsKeyLit]) _ z⟩
    · rw [has_put_other e] at hk
      obtain ⟨j, h1, h2⟩ := h k hk
      exact ⟨j, h1, fun z => by rw [atKey_put_other e]; exact h2 z⟩
  have del : ∀ (D : Names) (n : ByteArray), Leads D L → Leads (D.del (kl n)) L := by
    intro D n h k hk
    by_cases e : k = kl n
    · subst e
      rw [has_del_same] at hk
      exact absurd hk (by decide)
    · rw [has_del_other e] at hk
      obtain ⟨j, h1, h2⟩ := h k hk
      exact ⟨j, h1, fun z => by rw [atKey_del_other e]; exact h2 z⟩
  cases c with
  | link n i => exact put D n i h hm hc.1
  | gone n => exact del D n h
  | moved n i o => exact del _ o (put D n i h hm hc.1)
theorem leads_mono {D : Names} {L L' : Nat} (h : Leads D L) (hl : L ≤ L') : Leads D L' := fun k hk => by
  obtain ⟨i, h1, h2⟩ := h k hk
  exact ⟨i, by omega, h2⟩
theorem okL_mono {c : Chg} {L L' : Nat} (h : c.okL L) (hl : L ≤ L') : c.okL L' := by
  cases c with
  | link n i => exact ⟨by have := h.1; omega, h.2⟩
  | gone n => exact h
  | moved n i o => exact ⟨by have := h.1; omega, h.2⟩
/-- The names' map is written. -/
theorem FsAt.onNames {w w' : World} {own : Nat → Prop} {g : Nat} {S : FsS} {G : FsG} (h : FsAt w own g S G) (c : Chg) (hc : c.okL S.files.length) (hg : w.grownBy w' (some G.nb)) (hm : w'.ownsMap Tryd.prog 9 (plainElem Tryd.prog 3) G.nb (G.nn + 1) (c.app S.names)) :
    FsAt w' own g { S with names := c.app S.names, ops := S.ops + 1 } { G with nn := G.nn + 1 } := by
  obtain ⟨es, cl, hn⟩ := map_blk h.nm
  obtain ⟨es', cl', hd⟩ := map_blk h.dm
  have hk : ∀ k (o : Obj), w.heap[k]? = some o → (∀ e c, o ≠ .map e c) → w'.heap[k]? = w.heap[k]? := fun k o ho hne => hg.block k (blk_lt ho) (fun e => by
    injection e with e
    subst e
    rw [ho] at hn
    exact hne _ _ (Option.some.inj hn))
  refine ⟨(hk g _ h.blk (by simp)).trans h.blk, h.og, row_kept h.fv (fun k hb => ?_), h.ofv, h.len, fun i b v f h1 h2 => ?_, h.inj, hm, map_kept h.dm (hg.block _ (blk_lt hd) (fun e => h.om.2.2 (Option.some.inj e).symm)), h.om,
    row_kept h.cv (fun k hb => ?_), h.ocv, ?_, leads_app h.ln h.nm.isMap hc, h.ld, h.lc⟩
  · obtain ⟨hl, cells, hc⟩ := row_typed h.fv k hb
    exact hk k _ hc (by simp)
  · obtain ⟨q1, q2, q3, q4, q5⟩ := h.file i b v f h1 h2
    refine ⟨(hk b _ q1 (by simp)).trans q1, q2, q3.step (fun k hb => ?_) (fun _ h => h), q4, q5⟩
    obtain ⟨o1, o2, cells, hc⟩ := q3.own k hb
    exact hk k _ hc (by simp)
  · obtain ⟨hl, cells, hc⟩ := row_typed h.cv k hb
    exact hk k _ hc (by simp)
  · have := h.bnd
    exact ⟨by simp only; omega, by simp only; omega, by simp only; omega, by simp only; omega⟩
/-- A change is noted. -/
theorem FsAt.pushC {w W : World} {own : Nat → Prop} {g : Nat} {S : FsS} {G : FsG} (h : FsAt w own g S G) (c : Chg) (hc : c.okL S.files.length) (cv : Value) (hg : w.grownBy W G.cv.ownBlock) (hr : W.ownsRow 0 20 1 cv (S.changes.length + 1) (S.changes.map Chg.val ++ [c.val])) (hat : cv.ownBlock = G.cv.ownBlock ∨ ∃ b, cv.ownBlock = some b ∧ w.heap.size ≤ b) (hops : G.dn + S.changes.length + 1 ≤ S.ops) :
    FsAt (W.setCell ⟨g, 6, none⟩ cv) (More own w (W.setCell ⟨g, 6, none⟩ cv)) g { S with changes := S.changes ++ [c] } { G with cv := cv } ∧ Turn own w (W.setCell ⟨g, 6, none⟩ cv) := by
  have hne : ∀ k cells t, w.heap[k]? = some (.cells cells t (0, 0)) → t ≠ 20 → some k ≠ G.cv.ownBlock := fun k cells t hk ht e => by
    obtain ⟨_, cells', hc'⟩ := row_typed h.cv k e.symm
    exact ne_of_type hk hc' ht rfl
  have hnem : ∀ k es cl, w.heap[k]? = some (.map es cl) → some k ≠ G.cv.ownBlock := fun k es cl hk e => by
    obtain ⟨_, cells', hc'⟩ := row_typed h.cv k e.symm
    exact ne_of_obj hk hc' (by simp) rfl
  have hgg : W.heap[g]? = w.heap[g]? := hg.block g (blk_lt h.blk) (hne g _ _ h.blk (by decide))
  have hset : ∀ k, k ≠ g → (W.setCell ⟨g, 6, none⟩ cv).heap[k]? = W.heap[k]? := fun k hk => Below.heap_setCell _ ⟨g, 6, none⟩ _ k hk
  have hsz : (W.setCell ⟨g, 6, none⟩ cv).heap.size = W.heap.size := World.size_setCell ..
  have hk : ∀ k, k ≠ g → k < w.heap.size → some k ≠ G.cv.ownBlock → (W.setCell ⟨g, 6, none⟩ cv).heap[k]? = w.heap[k]? := fun k h1 h2 h3 => (hset k h1).trans (hg.block k h2 h3)
  obtain ⟨es, cl, hn⟩ := map_blk h.nm
  obtain ⟨es', cl', hd⟩ := map_blk h.dm
  have hcg : ∀ b, cv.ownBlock = some b → b ≠ g := fun b hb e => by
    subst e
    obtain ⟨_, cells', hc'⟩ := row_typed hr b hb
    rw [hgg, h.blk] at hc'
    have := Option.some.inj hc'
    injection this with _ h2
    exact absurd h2 (by decide)
  refine ⟨⟨blk_put (hgg.trans h.blk) 6 _ rfl, .inl h.og, row_kept h.fv (fun k hb => ?_), fun b hb => .inl (h.ofv b hb), h.len, fun i b v f h1 h2 => ?_, h.inj, map_kept h.nm (hk _ (ne_of_obj hn h.blk (by simp)) (blk_lt hn) (hnem _ _ _ hn)), map_kept h.dm (hk _ (ne_of_obj hd h.blk (by simp)) (blk_lt hd) (hnem _ _ _ hd)), ⟨.inl h.om.1, .inl h.om.2.1, h.om.2.2⟩,
    ?_, fun b hb => ?_, ?_, h.ln, h.ld, fun x hx => ?_⟩, ?_⟩
  · obtain ⟨hl, cells, hc⟩ := row_typed h.fv k hb
    exact hk k (ne_of_type hc h.blk (by decide)) hl (hne k _ _ hc (by decide))
  · obtain ⟨q1, q2, q3, q4, q5⟩ := h.file i b v f h1 h2
    refine ⟨(hk b (ne_of_type q1 h.blk (by decide)) (blk_lt q1) (hne b _ _ q1 (by decide))).trans q1, .inl q2, q3.step (fun k hb => ?_) (fun _ h => .inl h), q4, q5⟩
    obtain ⟨o1, o2, cells, hc⟩ := q3.own k hb
    exact hk k (ne_of_type hc h.blk (by decide)) o2 (hne k _ _ hc (by decide))
  · have := row_kept (w' := W.setCell ⟨g, 6, none⟩ cv) hr (fun b hb => hset b (hcg b hb))
    simpa using this
  · rcases hat with e | ⟨b', e, hb'⟩
    · exact .inl (h.ocv b (by rw [← e]; exact hb))
    · rw [e] at hb
      injection hb with hb
      subst hb
      exact .inr ⟨hb', by rw [hsz]; exact (row_typed hr _ e).1⟩
  · have := h.bnd
    refine ⟨this.1, ?_, this.2.2.1, ?_⟩
    · rw [List.length_append, List.length_singleton]
      show S.changes.length + 1 ≤ S.ops
      omega
    · rw [List.length_append, List.length_singleton]
      exact hops
  · rcases List.mem_append.1 hx with hx | hx
    · exact h.lc x hx
    · rw [List.mem_singleton.1 hx]; exact hc
  · exact (Turn.grown hg (fun k hk => h.ocv k hk)).trans (Turn.set g 6 cv h.og) (fun _ h => .inl h)
end Go.Proofs.YtnnlmackofopeaaDoor.Fs
/- Contracts of (*Fs).change, Rename, Remove. -/
namespace Go.Proofs.YtnnlmackofopeaaDoor.Fs
open Go.RowKit Go.Lib Go.Maps Go.Proofs.YtnnlmackofopeaaDoorW.PrintWords Go.Proofs.YtnnlmackofopeaaDoorW.PrintLast Go.Proofs.YtnnlmackofopeaaDoorW.PrintMore
set_option linter.unusedVariables false
set_option linter.unusedSimpArgs false
theorem info20 : (Tryd.prog.info? 20).map (fun i => (i.zero, i.size, i.bytes)) = some (some .nilIface, 1, 16) := by kernel_rfl
theorem info68 : (Tryd.prog.info? 68).map (fun i => (i.zero, i.size, i.bytes)) = some (some (.pointer none), 1, 8) := by kernel_rfl
def FsS.chg (S : FsS) (c : Chg) : FsS := { S with names := c.app S.names, changes := S.changes ++ [c], ops := S.ops + 1 }
theorem val_iface (c : Chg) : ∃ t p, c.val = .iface t p := by
  cases c with
  | link n i => exact ⟨_, _, rfl⟩
  | gone n => exact ⟨_, _, rfl⟩
  | moved n i o => exact ⟨_, _, rfl⟩
theorem row_slice {w : World} {base : Nat} {e : TypeId} {sz n : Nat} {v : Value} {xs : List Value} (h : w.ownsRow base e sz v n xs) : ∃ A c, v = .slice A n c := by
  rcases h.2 with ⟨rfl, rfl⟩ | ⟨g, cap, cur, rfl, _⟩
  · exact ⟨none, 0, rfl⟩
  · exact ⟨_, cap, rfl⟩
/-- A row of another type is written: the head lies. -/
theorem FsAt.head_kept {w W : World} {own : Nat → Prop} {g : Nat} {S : FsS} {G : FsG} {v : Value} {e : TypeId} {n base sz : Nat} {xs : List Value} (h : FsAt w own g S G) (hr : w.ownsRow base e sz v n xs) (he : e ≠ 65) (hg : w.grownBy W v.ownBlock) : W.heap[g]? = w.heap[g]? :=
  hg.block g (blk_lt h.blk) (fun q => by
    obtain ⟨_, cells', hc'⟩ := row_typed hr g q.symm
    exact ne_of_type hc' h.blk he rfl)
set_option maxHeartbeats 4000000 in
set_option maxRecDepth 100000 in
theorem change_calls (c : Chg) (w : World) (own : Nat → Prop) (g : Nat) (S : FsS) (hS : FsIs w own g S) (hc : c.okL S.files.length) (hops : S.ops ≤ 100000) :
    Calls Tryd.prog 42 #[.pointer (some ⟨g, 0, none⟩), c.val] w fun e w' => e = .returned (.tuple #[]) ∧ FsIs w' (More own w w') g (S.chg c) ∧ Turn own w w' := by
  obtain ⟨G, hG⟩ := hS
  obtain ⟨t, p, hv⟩ := val_iface c
  have hb := hG.bnd
  have hap := apply_calls c S.files.length hc (by omega) S.names G.nb G.nn (by omega) w hG.nm
  rw [hv] at hap ⊢
  have hb0 := hG.blk
  have c4 : w.cell? ⟨g, 4, none⟩ = some (.map (some G.nb)) := blk_cell hb0 4
  obtain ⟨A, cc, hcv⟩ := row_slice hG.cv
  have HG := Aside0.mk hG
  have HC := Aside0.mk hc
  have HV := Aside0.mk hv
  have HCV := Aside0.mk hcv
  have HB := Aside0.mk (And.intro hb hops)
  clear hG hb0 hc hv hb hops hcv
  go_enter Tryd.func42, Tryd.ntmps42
  go_upto_region 1 with (go_at_call 36; refine hap.mono ?_; rintro e w1 ⟨rfl, hm, hg⟩; have HM1 := Aside0.mk hm; have HG1 := Aside0.mk hg; clear hm hg hap)
  have HN := Aside0.mk (HG.out.onNames c HC.out HG1.out HM1.out)
  have hb1 := HN.out.blk
  have c6 : w1.cell? ⟨g, 6, none⟩ = some G.cv := blk_cell hb1 6
  have f6 := blk_frozen hb1 6
  rw [HCV.out] at c6
  have HT1 := Aside0.mk (Turn.grown (own := own) HG1.out (fun k hk => by injection hk with hk; rw [← hk]; exact HG.out.om.1))
  have HO1 := Aside0.mk (show w1.ownsRow 0 20 1 (.slice A S.changes.length cc) S.changes.length (S.changes.map Chg.val) from HCV.out ▸ HN.out.cv)
  clear hb1 c4
  go_wp2_with ((with_reducible refine gate_builtin (b := .append) (xs := #[.tmp 14, .tmp 16]) rfl ?_); at_builtin; refine print_append_cells (w0 := w1) 0 rfl (.tmp 14) (.tmp 16) 63 20 .nilIface 1 16 rfl Tryd.underlying63 info20 rfl (by decide) (by decide) (.slice A S.changes.length cc) S.changes.length (S.changes.map Chg.val) [.iface t p] rfl rfl rfl ?h1 ?HO ?HB ?hb ?hl ?_)
  case h1 => intro u hu; rw [List.mem_singleton.1 hu]; rfl
  case HO => exact HO1.out
  case HB => exact Below.refl _ _
  case hb => exact Nat.zero_le _
  case hl => have := HB.out; omega
  intro v2 w2 hrow hbel hgr hat
  have hg2 : w1.grownBy w2 G.cv.ownBlock := by rw [HCV.out]; exact hgr
  have hh2 := HN.out.head_kept (v := G.cv) HN.out.cv (by decide) hg2
  have hb2 := hh2.trans HN.out.blk
  have c6 : w2.cell? ⟨g, 6, none⟩ = some G.cv := blk_cell hb2 6
  have f6 := blk_frozen hb2 6
  have HP := Aside0.mk (HN.out.pushC c HC.out v2 hg2 (by rw [HV.out]; exact hrow) (by
    rcases hat with h | ⟨b, h1, h2⟩
    · exact .inl (by rw [h, HCV.out])
    · exact .inr ⟨b, h1, h2⟩) (by show G.dn + S.changes.length + 1 ≤ S.ops + 1; have := HB.out; omega))
  clear hg2 hh2 hb2 hrow hbel hgr hat
  obtain ⟨A2, c2, rfl⟩ : ∃ A2 c2, v2 = .slice A2 (S.changes.length + 1) c2 := by
    have := HP.out.1.cv
    obtain ⟨A2, c2, h⟩ := row_slice this
    refine ⟨A2, c2, ?_⟩
    have e : v2 = .slice A2 (S.changes ++ [c]).length c2 := h
    rw [List.length_append, List.length_singleton] at e
    exact e
  go_wp2
  go_end0
  refine ⟨rfl, ⟨_, HP.out.1.move (fun _ _ _ => rfl) (fun k hk => ?_)⟩, HT1.out.trans HP.out.2 (fun _ h => .inl h)⟩
  rcases hk with hk | hk
  · exact .inl hk
  · exact .inr ⟨Nat.le_trans HT1.out.size hk.1, hk.2⟩
end Go.Proofs.YtnnlmackofopeaaDoor.Fs
/- Contracts of (*Fs).Remove, Rename. -/
namespace Go.Proofs.YtnnlmackofopeaaDoor.Fs
open Go.RowKit Go.Lib Go.Maps Go.Proofs.YtnnlmackofopeaaDoorW.PrintWords Go.Proofs.YtnnlmackofopeaaDoorW.PrintLast Go.Proofs.YtnnlmackofopeaaDoorW.PrintMore
set_option linter.unusedVariables false
set_option linter.unusedSimpArgs false
def Under (own : Nat → Prop) (w : World) : Prop := ∀ k, own k → k < w.heap.size
theorem Under.more {own : Nat → Prop} {w w' : World} (h : Under own w) (hs : w.heap.size ≤ w'.heap.size) : Under (More own w w') w' := fun k hk => by
  rcases hk with hk | hk
  · exact Nat.lt_of_lt_of_le (h k hk) hs
  · exact hk.2
theorem more_trans {own : Nat → Prop} {w w1 w2 : World} (h : w.heap.size ≤ w1.heap.size) (h2 : w1.heap.size ≤ w2.heap.size) : ∀ k, More (More own w w1) w1 w2 k → More own w w2 k := fun k hk => by
  rcases hk with (hk | hk) | hk
  · exact .inl hk
  · exact .inr ⟨hk.1, Nat.lt_of_lt_of_le hk.2 h2⟩
  · exact .inr ⟨Nat.le_trans h hk.1, hk.2⟩
theorem more_step {own : Nat → Prop} {w w1 w2 : World} (h : w.heap.size ≤ w1.heap.size) : ∀ k, More own w1 w2 k → More own w w2 k := fun k hk => by
  rcases hk with hk | hk
  · exact .inl hk
  · exact .inr ⟨Nat.le_trans h hk.1, hk.2⟩
theorem begin_zero {S : FsS} {ns : List ByteArray} (h : S.beginC ns = 0) : ns.all mayS = true := by
  unfold FsS.beginC at h
  split at h
  · exact absurd h (by decide)
  · split at h
    · assumption
    · exact absurd h (by decide)
theorem may_size {n : ByteArray} (h : mayS n = true) : n.size ≤ maxLen := by
  unfold mayS at h
  simp only [Bool.and_eq_true, decide_eq_true_eq] at h
  unfold maxLen
  omega
theorem beginT_files (S : FsS) : S.beginT.files = S.files ∧ S.beginT.ops = S.ops ∧ S.beginT.names = S.names ∧ S.beginT.dat = S.dat ∧ S.beginT.changes = S.changes ∧ S.beginT.durable = S.durable ∧ S.beginT.quota = S.quota ∧ S.beginT.limited = S.limited := by
  unfold FsS.beginT FsS.tick
  split
  · exact ⟨rfl, rfl, rfl, rfl, rfl, rfl, rfl, rfl⟩
  · split <;> exact ⟨rfl, rfl, rfl, rfl, rfl, rfl, rfl, rfl⟩
/-- The names handed to begin: a new row of one. -/
theorem SR.one (w : World) (n : ByteArray) : SR (w.alloc (.cells #[.string n] 9)) (some ⟨w.heap.size, 0, none⟩) [n] := fun i hi => by
  obtain rfl : i = 0 := by simp at hi; omega
  exact ⟨_, rfl, by rw [Addr.add_zero']; exact blk_cell (blk_new w _) 0⟩
theorem SR.two (w : World) (n o : ByteArray) : SR (w.alloc (.cells #[.string n, .string o] 9)) (some ⟨w.heap.size, 0, none⟩) [n, o] := fun i hi => by
  have h2 : i = 0 ∨ i = 1 := by simp at hi; omega
  rcases h2 with rfl | rfl
  · exact ⟨_, rfl, by rw [Addr.add_zero']; exact blk_cell (blk_new w _) 0⟩
  · exact ⟨_, rfl, by rw [show (⟨w.heap.size, 0, none⟩ : Addr).add 1 = ⟨w.heap.size, 1, none⟩ from rfl]; exact blk_cell (blk_new w _) 1⟩
def FsS.remove (S : FsS) (n : ByteArray) : Int × FsS := if S.beginC [n] = 0 then (if has S.names (kl n) = true then (0, S.beginT.chg (.gone n)) else (7, S.beginT)) else (S.beginC [n], S.beginT)
set_option maxHeartbeats 4000000 in
set_option maxRecDepth 100000 in
theorem remove_calls (n : ByteArray) (w : World) (own : Nat → Prop) (g : Nat) (S : FsS) (hS : FsIs w own g S) (hu : Under own w) (hops : S.ops ≤ 90000) :
    Calls Tryd.prog 27 #[.pointer (some ⟨g, 0, none⟩), .string n] w fun e w' => e = .returned (.int .i64 (S.remove n).1) ∧ FsIs w' (More own w w') g (S.remove n).2 ∧ Turn own w w' := by
  have HS0 := Aside0.mk (hS.below (below_alloc (Below.refl _ _) (.cells #[.string n] 9)))
  have hbg := begin_calls (some ⟨w.heap.size, 0, none⟩) 1 [n] _ own g S HS0.out (SR.one w n) (by simp) (fun ad e => by injection e with e; subst e; exact fun h => absurd (hu _ h) (Nat.lt_irrefl _))
  have HT0 := Aside0.mk (Turn.below (below_alloc (Below.refl w.heap.size w) (.cells #[.string n] 9)) own)
  have HU := Aside0.mk hu
  have HOP := Aside0.mk hops
  obtain ⟨C, hC⟩ : ∃ C, C = S.beginC [n] := ⟨_, rfl⟩
  obtain ⟨T, hT⟩ : ∃ T, T = S.beginT := ⟨_, rfl⟩
  rw [← hC, ← hT, List.length_singleton] at hbg
  have ET := Aside0.mk hT
  clear hS hu hops
  by_cases h0 : C = 0
  case neg =>
    have ER := Aside0.mk (show S.remove n = (C, T) by unfold FsS.remove; rw [← hC, if_neg h0, hT])
    have e1 : (C != 0) = true := bne_iff_ne.mpr h0
    clear hC hT h0
    go_enter Tryd.func27, Tryd.ntmps27
    go_wp2_with (go_at_call 41; refine hbg.mono ?_; rintro e w1 ⟨rfl, hI, ht⟩; have HI1 := Aside0.mk hI; have HT1 := Aside0.mk (HT0.out.trans ht (fun _ h => .inl h)); clear hI ht hbg)
    go_ret
    exact ⟨by rw [ER.out]; rfl, by rw [ER.out]; exact HI1.out.mono (fun k hk => .inl hk), HT1.out⟩
  subst h0
  have hmay : mayS n = true := by have := begin_zero hC.symm; simpa using this
  have hns := may_size hmay
  obtain ⟨f1, f2, f3, f4, f5, f6, f7, f8⟩ := beginT_files S
  rw [← hT] at f1 f2 f3
  have HN := Aside0.mk hns
  have HF := Aside0.mk (And.intro f1 (And.intro f2 f3))
  by_cases hh : has S.names (kl n) = true
  · have ER := Aside0.mk (show S.remove n = (0, T.chg (.gone n)) by unfold FsS.remove; rw [← hC, if_pos rfl, if_pos hh, hT])
    have HH := Aside0.mk hh
    clear hC hT hh hmay hns f1 f2 f3 f4 f5 f6 f7 f8
    go_enter Tryd.func27, Tryd.ntmps27
    go_upto_region 4 with (go_at_call 41; refine hbg.mono ?_; rintro e w1 ⟨rfl, hI, ht⟩; have HI1 := Aside0.mk hI; have HT1 := Aside0.mk (HT0.out.trans ht (fun _ h => .inl h)); clear hI ht hbg)
    obtain ⟨G, hG⟩ := HI1.out
    have HG := Aside0.mk hG
    clear hG
    go_upto_region 7 with (go_at_call 43; refine (of_calls n HN.out w1 own g T G HG.out).mono ?_; rintro e w2 ⟨rfl, ⟨hx, _⟩ | ⟨i, b, v, _, _, _, rfl⟩⟩; exact absurd hx (by rw [HF.out.2.2, HH.out]; decide))
    go_wp2_with (go_at_call 42; refine (change_calls (.gone n) _ own g T ⟨G, HG.out⟩ HN.out (by rw [HF.out.2.1]; have := HOP.out; omega)).mono ?_; rintro e w3 ⟨rfl, hI, ht⟩; have HI3 := Aside0.mk hI; have HT3 := Aside0.mk (HT1.out.trans ht (fun _ h => .inl h)); clear hI ht)
    go_ret
    exact ⟨by rw [ER.out]; rfl, by rw [ER.out]; exact HI3.out.mono (more_step HT1.out.size), HT3.out⟩
  · have ER := Aside0.mk (show S.remove n = (7, T) by unfold FsS.remove; rw [← hC, if_pos rfl, if_neg hh, hT])
    have HH := Aside0.mk (Bool.eq_false_iff.mpr hh)
    clear hC hT hh hmay hns f1 f2 f3 f4 f5 f6 f7 f8
    go_enter Tryd.func27, Tryd.ntmps27
    go_upto_region 4 with (go_at_call 41; refine hbg.mono ?_; rintro e w1 ⟨rfl, hI, ht⟩; have HI1 := Aside0.mk hI; have HT1 := Aside0.mk (HT0.out.trans ht (fun _ h => .inl h)); clear hI ht hbg)
    obtain ⟨G, hG⟩ := HI1.out
    have HG := Aside0.mk hG
    clear hG
    go_wp2_with (go_at_call 43; refine (of_calls n HN.out w1 own g T G HG.out).mono ?_; rintro e w2 ⟨rfl, ⟨_, rfl⟩ | ⟨i, b, v, hx, _⟩⟩; rotate_left; exact absurd hx (by rw [at_none (by rw [HF.out.2.2]; exact HH.out)]; simp))
    go_ret
    exact ⟨by rw [ER.out]; rfl, by rw [ER.out]; exact HI1.out.mono (fun k hk => .inl hk), HT1.out⟩
end Go.Proofs.YtnnlmackofopeaaDoor.Fs
/- Contract of (*Fs).Rename. -/
namespace Go.Proofs.YtnnlmackofopeaaDoor.Fs
open Go.RowKit Go.Lib Go.Maps Go.Proofs.YtnnlmackofopeaaDoorW.PrintWords Go.Proofs.YtnnlmackofopeaaDoorW.PrintLast Go.Proofs.YtnnlmackofopeaaDoorW.PrintMore
set_option linter.unusedVariables false
set_option linter.unusedSimpArgs false
def FsS.rename (S : FsS) (n o : ByteArray) : Int × FsS := if S.beginC [n, o] = 0 then (if has S.names (kl n) = true then (if n.toList = o.toList then (0, S.beginT) else (0, S.beginT.chg (.moved o ((S.at_ n).getD 0) n))) else (7, S.beginT)) else (S.beginC [n, o], S.beginT)
set_option maxHeartbeats 4000000 in
set_option maxRecDepth 100000 in
theorem rename_calls (n o : ByteArray) (w : World) (own : Nat → Prop) (g : Nat) (S : FsS) (hS : FsIs w own g S) (hu : Under own w) (hops : S.ops ≤ 90000) :
    Calls Tryd.prog 29 #[.pointer (some ⟨g, 0, none⟩), .string n, .string o] w fun e w' => e = .returned (.int .i64 (S.rename n o).1) ∧ FsIs w' (More own w w') g (S.rename n o).2 ∧ Turn own w w' := by
  have HS0 := Aside0.mk (hS.below (below_alloc (Below.refl _ _) (.cells #[.string n, .string o] 9)))
  have hbg := begin_calls (some ⟨w.heap.size, 0, none⟩) 2 [n, o] _ own g S HS0.out (SR.two w n o) (by simp) (fun ad e => by injection e with e; subst e; exact fun h => absurd (hu _ h) (Nat.lt_irrefl _))
  have HT0 := Aside0.mk (Turn.below (below_alloc (Below.refl w.heap.size w) (.cells #[.string n, .string o] 9)) own)
  have HOP := Aside0.mk hops
  obtain ⟨C, hC⟩ : ∃ C, C = S.beginC [n, o] := ⟨_, rfl⟩
  obtain ⟨T, hT⟩ : ∃ T, T = S.beginT := ⟨_, rfl⟩
  rw [← hC, ← hT, show ([n, o] : List ByteArray).length = 2 from rfl] at hbg
  have ET := Aside0.mk hT
  clear hS hu hops
  by_cases h0 : C = 0
  case neg =>
    have ER := Aside0.mk (show S.rename n o = (C, T) by unfold FsS.rename; rw [← hC, if_neg h0, hT])
    have e1 : (C != 0) = true := bne_iff_ne.mpr h0
    clear hC hT h0
    go_enter Tryd.func29, Tryd.ntmps29
    go_wp2_with (go_at_call 41; refine hbg.mono ?_; rintro e w1 ⟨rfl, hI, ht⟩; have HI1 := Aside0.mk hI; have HT1 := Aside0.mk (HT0.out.trans ht (fun _ h => .inl h)); clear hI ht hbg)
    go_ret
    exact ⟨by rw [ER.out]; rfl, by rw [ER.out]; exact HI1.out.mono (fun k hk => .inl hk), HT1.out⟩
  subst h0
  have hmay := begin_zero hC.symm
  have hn1 : n.size ≤ maxLen := may_size (by simp at hmay; exact hmay.1)
  have hn2 : o.size ≤ maxLen := may_size (by simp at hmay; exact hmay.2)
  obtain ⟨f1, f2, f3, f4, f5, f6, f7, f8⟩ := beginT_files S
  rw [← hT] at f1 f2 f3
  have HN := Aside0.mk (And.intro hn1 hn2)
  have HF := Aside0.mk (And.intro f1 (And.intro f2 f3))
  have hkey : keyOf Tryd.prog 9 (.string n) = some (kl n) := WideMaps.keyOf_string_mk Tryd.underlying9 hn1
  have HK := Aside0.mk hkey
  by_cases hh : has S.names (kl n) = true
  case neg =>
    have ER := Aside0.mk (show S.rename n o = (7, T) by unfold FsS.rename; rw [← hC, if_pos rfl, if_neg hh, hT])
    have HH := Aside0.mk (show has T.names (kl n) = false by rw [f3]; exact Bool.eq_false_iff.mpr hh)
    clear hC hT hh hmay hn1 hn2 hkey f1 f2 f3 f4 f5 f6 f7 f8
    go_enter Tryd.func29, Tryd.ntmps29
    go_upto_region 4 with (go_at_call 41; refine hbg.mono ?_; rintro e w1 ⟨rfl, hI, ht⟩; have HI1 := Aside0.mk hI; have HT1 := Aside0.mk (HT0.out.trans ht (fun _ h => .inl h)); clear hI ht hbg)
    obtain ⟨G, hG⟩ := HI1.out
    have c4 : w1.cell? ⟨g, 4, none⟩ = some (.map (some G.nb)) := blk_cell hG.blk 4
    have HG := Aside0.mk hG
    clear hG
    go_wp2_with (at_lookup; refine wpList_lookup_own_ok_int _ rfl _ _ 61 rfl 9 3 .i64 keyLaw Tryd.underlying61 Tryd.underlying3 (zero3 _) G.nb G.nn T.names rfl HG.out.nm _ _ rfl HK.out ?_; intro c hat hwc; rw [HH.out]; clear hat hwc)
    go_ret
    exact ⟨by rw [ER.out]; rfl, by rw [ER.out]; exact HI1.out.mono (fun k hk => .inl hk), HT1.out⟩
  by_cases he : n.toList = o.toList
  · have ER := Aside0.mk (show S.rename n o = (0, T) by unfold FsS.rename; rw [← hC, if_pos rfl, if_pos hh, if_pos he, hT])
    have HH := Aside0.mk (show has T.names (kl n) = true by rw [f3]; exact hh)
    have q1 : (n.toList == o.toList) = true := beq_iff_eq.mpr he
    have q2 : (n.toList != o.toList) = false := bne_eq_false_iff_eq.mpr he
    clear hC hT hh hmay hn1 hn2 hkey f1 f2 f3 f4 f5 f6 f7 f8 he
    go_enter Tryd.func29, Tryd.ntmps29
    go_upto_region 4 with (go_at_call 41; refine hbg.mono ?_; rintro e w1 ⟨rfl, hI, ht⟩; have HI1 := Aside0.mk hI; have HT1 := Aside0.mk (HT0.out.trans ht (fun _ h => .inl h)); clear hI ht hbg)
    obtain ⟨G, hG⟩ := HI1.out
    have c4 : w1.cell? ⟨g, 4, none⟩ = some (.map (some G.nb)) := blk_cell hG.blk 4
    have HG := Aside0.mk hG
    clear hG
    go_wp2_with (at_lookup; refine wpList_lookup_own_ok_int _ rfl _ _ 61 rfl 9 3 .i64 keyLaw Tryd.underlying61 Tryd.underlying3 (zero3 _) G.nb G.nn T.names rfl HG.out.nm _ _ rfl HK.out ?_; intro c hat hwc; rw [HH.out]; clear hat hwc)
    go_ret
    exact ⟨by rw [ER.out]; rfl, by rw [ER.out]; exact HI1.out.mono (fun k hk => .inl hk), HT1.out⟩
  · have q1 : (n.toList == o.toList) = false := beq_eq_false_iff_ne.mpr he
    have q2 : (n.toList != o.toList) = true := bne_iff_ne.mpr he
    have ER := Aside0.mk (show S.rename n o = (0, T.chg (.moved o ((S.at_ n).getD 0) n)) by unfold FsS.rename; rw [← hC, if_pos rfl, if_pos hh, if_neg he, hT])
    have HH := Aside0.mk (show has T.names (kl n) = true by rw [f3]; exact hh)
    have HAT := Aside0.mk (show T.at_ n = S.at_ n by unfold FsS.at_; rw [f3])
    clear hC hT hh hmay hn1 hn2 hkey f1 f2 f3 f4 f5 f6 f7 f8 he
    go_enter Tryd.func29, Tryd.ntmps29
    go_upto_region 4 with (go_at_call 41; refine hbg.mono ?_; rintro e w1 ⟨rfl, hI, ht⟩; have HI1 := Aside0.mk hI; have HT1 := Aside0.mk (HT0.out.trans ht (fun _ h => .inl h)); clear hI ht hbg)
    obtain ⟨G, hG⟩ := HI1.out
    have c4 : w1.cell? ⟨g, 4, none⟩ = some (.map (some G.nb)) := blk_cell hG.blk 4
    have HG := Aside0.mk hG
    obtain ⟨i, h1, h2, h3⟩ := at_some hG.ln HH.out
    have H1 := Aside0.mk h1
    have H2 := Aside0.mk (HAT.out.symm.trans h2)
    have H3 := Aside0.mk (h3 (.lit (.int .i64 0)))
    have hcc := Aside0.mk (change_calls (.moved o i n) w1 own g T ⟨G, HG.out⟩ ⟨h1, HN.out.2, HN.out.1⟩ (by rw [HF.out.2.1]; have := HOP.out; omega))
    clear hG h1 h2 h3
    go_wp2_with (first | (at_lookup; refine wpList_lookup_own_ok_int _ rfl _ _ 61 rfl 9 3 .i64 keyLaw Tryd.underlying61 Tryd.underlying3 (zero3 _) G.nb G.nn T.names rfl HG.out.nm _ _ rfl HK.out ?_; intro c hat hwc; rw [HH.out]; obtain rfl : c = (i : Int) := (by rw [H3.out] at hat; unfold num at hat; injection hat with h_; injection h_ with _ h_; exact h_.symm); clear hat hwc) | (go_at_call 42; refine hcc.out.mono ?_; rintro e w3 ⟨rfl, hI, ht⟩; have HI3 := Aside0.mk hI; have HT3 := Aside0.mk (HT1.out.trans ht (fun _ h => .inl h)); clear hI ht))
    go_ret
    exact ⟨by rw [ER.out]; rfl, by rw [ER.out, H2.out]; exact HI3.out.mono (more_step HT1.out.size), HT3.out⟩
end Go.Proofs.YtnnlmackofopeaaDoor.Fs
/- Contract of (*Fs).Create. -/
namespace Go.Proofs.YtnnlmackofopeaaDoor.Fs
open Go.RowKit Go.Lib Go.Maps Go.Proofs.YtnnlmackofopeaaDoorW.PrintWords Go.Proofs.YtnnlmackofopeaaDoorW.PrintLast Go.Proofs.YtnnlmackofopeaaDoorW.PrintMore
set_option linter.unusedVariables false
set_option linter.unusedSimpArgs false
abbrev newFile : Obj := .cells #[.slice none 0 0, .int .i64 0] 70 (0, 0)
def FsS.file1 (S : FsS) : FsS := { S with files := S.files ++ [([], 0)], ops := S.ops + 1 }
/-- A new file. -/
theorem FsAt.pushF {w W : World} {own : Nat → Prop} {g : Nat} {S : FsS} {G : FsG} (h : FsAt w own g S G) (hu : Under own w) (fv : Value) (hg : (w.alloc newFile).grownBy W G.fv.ownBlock) (hr : W.ownsRow 0 68 1 fv (S.files.length + 1) (G.fs.map (fun x => ptr x.1) ++ [ptr w.heap.size])) (hat : fv.ownBlock = G.fv.ownBlock ∨ ∃ b, fv.ownBlock = some b ∧ (w.alloc newFile).heap.size ≤ b) :
    FsAt (W.setCell ⟨g, 3, none⟩ fv) (More own w (W.setCell ⟨g, 3, none⟩ fv)) g S.file1 { G with fv := fv, fs := G.fs ++ [(w.heap.size, .slice none 0 0)] } ∧ Turn own w (W.setCell ⟨g, 3, none⟩ fv) := by
  have hsa : (w.alloc newFile).heap.size = w.heap.size + 1 := by simp
  have hne : ∀ k cells t, w.heap[k]? = some (.cells cells t (0, 0)) → t ≠ 68 → some k ≠ G.fv.ownBlock := fun k cells t hk ht e => by
    obtain ⟨_, cells', hc'⟩ := row_typed h.fv k e.symm
    exact ne_of_type hk hc' ht rfl
  have hnem : ∀ k es cl, w.heap[k]? = some (.map es cl) → some k ≠ G.fv.ownBlock := fun k es cl hk e => by
    obtain ⟨_, cells', hc'⟩ := row_typed h.fv k e.symm
    exact ne_of_obj hk hc' (by simp) rfl
  have hgo : ∀ k, k < w.heap.size → some k ≠ G.fv.ownBlock → W.heap[k]? = w.heap[k]? := fun k h1 h2 => (hg.block k (by omega) h2).trans (Below.heap_alloc w newFile k h1)
  have hgg : W.heap[g]? = w.heap[g]? := hgo g (blk_lt h.blk) (hne g _ _ h.blk (by decide))
  have hset : ∀ k, k ≠ g → (W.setCell ⟨g, 3, none⟩ fv).heap[k]? = W.heap[k]? := fun k hk => Below.heap_setCell _ ⟨g, 3, none⟩ _ k hk
  have hsz : (W.setCell ⟨g, 3, none⟩ fv).heap.size = W.heap.size := World.size_setCell ..
  have hk : ∀ k, k ≠ g → k < w.heap.size → some k ≠ G.fv.ownBlock → (W.setCell ⟨g, 3, none⟩ fv).heap[k]? = w.heap[k]? := fun k h1 h2 h3 => (hset k h1).trans (hgo k h2 h3)
  obtain ⟨es, cl, hn⟩ := map_blk h.nm
  obtain ⟨es', cl', hd⟩ := map_blk h.dm
  have hWs : w.heap.size + 1 ≤ W.heap.size := by have := hg.size; omega
  have hnew : (W.setCell ⟨g, 3, none⟩ fv).heap[w.heap.size]? = some newFile := by
    rw [hset _ (by have := blk_lt h.blk; omega), hg.block _ (by omega) (fun e => by have := (row_typed h.fv _ e.symm).1; omega)]
    exact blk_new w newFile
  have hcg : ∀ b, fv.ownBlock = some b → b ≠ g := fun b hb e => by
    subst e
    obtain ⟨_, cells', hc'⟩ := row_typed hr b hb
    rw [hgg, h.blk] at hc'
    have := Option.some.inj hc'
    injection this with _ h2
    exact absurd h2 (by decide)
  have hfl : ∀ (i b : Nat) (v : Value), G.fs[i]? = some (b, v) → b < w.heap.size ∧ ∀ k, v.ownBlock = some k → k < w.heap.size := fun i b v hi => by
    have hi2 : i < S.files.length := by rw [← h.len]; exact (List.getElem?_eq_some_iff.1 hi).1
    obtain ⟨q1, q2, q3, q4, q5⟩ := h.file i b v _ hi (List.getElem?_eq_getElem hi2)
    exact ⟨blk_lt q1, fun k hk => (q3.own k hk).2.1⟩
  refine ⟨⟨blk_put (hgg.trans h.blk) 3 _ rfl, .inl h.og, ?_, fun b hb => ?_, ?_, fun i b v f h1 h2 => ?_, fun i j x y h1 h2 hij => ?_, map_kept h.nm (hk _ (ne_of_obj hn h.blk (by simp)) (blk_lt hn) (hnem _ _ _ hn)), map_kept h.dm (hk _ (ne_of_obj hd h.blk (by simp)) (blk_lt hd) (hnem _ _ _ hd)), ⟨.inl h.om.1, .inl h.om.2.1, h.om.2.2⟩,
    row_kept h.cv (fun k hb => ?_), fun b hb => .inl (h.ocv b hb), ?_, ?_, ?_, fun x hx => ?_⟩, ?_⟩
  · have := row_kept (w' := W.setCell ⟨g, 3, none⟩ fv) hr (fun b hb => hset b (hcg b hb))
    rw [show S.file1.files.length = S.files.length + 1 by unfold FsS.file1; simp]
    simpa using this
  · rcases hat with e | ⟨b', e, hb'⟩
    · exact .inl (h.ofv b (by rw [← e]; exact hb))
    · rw [e] at hb
      injection hb with hb
      subst hb
      exact .inr ⟨by omega, by rw [hsz]; exact (row_typed hr _ e).1⟩
  · unfold FsS.file1
    simp [h.len]
  · unfold FsS.file1 at h2
    by_cases hi : i < G.fs.length
    · rw [List.getElem?_append_left hi] at h1
      rw [List.getElem?_append_left (by rw [← h.len]; exact hi)] at h2
      obtain ⟨q1, q2, q3, q4, q5⟩ := h.file i b v f h1 h2
      refine ⟨(hk b (ne_of_type q1 h.blk (by decide)) (blk_lt q1) (hne b _ _ q1 (by decide))).trans q1, .inl q2, q3.step (fun k hb => ?_) (fun _ h => .inl h), q4, q5⟩
      obtain ⟨o1, o2, cells, hc⟩ := q3.own k hb
      exact hk k (ne_of_type hc h.blk (by decide)) o2 (hne k _ _ hc (by decide))
    · rw [List.getElem?_append_right (by omega)] at h1
      rw [List.getElem?_append_right (by rw [← h.len]; omega)] at h2
      have e0 : i - G.fs.length = 0 := by
        have := (List.getElem?_eq_some_iff.1 h1).1
        simp at this
        omega
      rw [e0] at h1
      rw [← h.len, e0] at h2
      simp only [List.getElem?_cons_zero, Option.some.injEq, Prod.mk.injEq] at h1
      obtain ⟨rfl, rfl⟩ := h1
      simp only [List.getElem?_cons_zero, Option.some.injEq] at h2
      subst h2
      exact ⟨hnew, .inr ⟨Nat.le_refl _, by rw [hsz]; omega⟩, DRow.nil _ _, Nat.le_refl _, Nat.zero_le _⟩
  · have hx : ∀ (i : Nat) (x : Nat × Value), (G.fs ++ [(w.heap.size, Value.slice none 0 0)])[i]? = some x → G.fs[i]? = some x ∨ (i = G.fs.length ∧ x = (w.heap.size, .slice none 0 0)) := fun i x hi => by
      by_cases hl : i < G.fs.length
      · rw [List.getElem?_append_left hl] at hi
        exact .inl hi
      · rw [List.getElem?_append_right (by omega)] at hi
        have e0 : i - G.fs.length = 0 := by
          have := (List.getElem?_eq_some_iff.1 hi).1
          simp at this
          omega
        rw [e0] at hi
        simp only [List.getElem?_cons_zero, Option.some.injEq] at hi
        exact .inr ⟨by omega, hi.symm⟩
    rcases hx i x h1 with a | ⟨a1, a2⟩ <;> rcases hx j y h2 with b | ⟨b1, b2⟩
    · exact h.inj i j x y a b hij
    · subst b2
      refine ⟨?_, fun k _ q => by simp [Value.ownBlock] at q⟩
      have := (hfl i x.1 x.2 a).1
      simp only
      omega
    · subst a2
      refine ⟨?_, fun k q => by simp [Value.ownBlock] at q⟩
      have := (hfl j y.1 y.2 b).1
      simp only
      omega
    · omega
  · obtain ⟨hl, cells, hc⟩ := row_typed h.cv k hb
    exact hk k (ne_of_type hc h.blk (by decide)) hl (hne k _ _ hc (by decide))
  · have := h.bnd
    unfold FsS.file1
    refine ⟨?_, ?_, ?_, ?_⟩
    · simp only [List.length_append, List.length_singleton]; omega
    · simp only; omega
    · simp only; omega
    · simp only; omega
  · exact leads_mono h.ln (by unfold FsS.file1; simp)
  · exact leads_mono h.ld (by unfold FsS.file1; simp)
  · exact okL_mono (h.lc x hx) (by unfold FsS.file1; simp)
  · exact ((Turn.below (below_alloc (Below.refl _ _) newFile) own).trans (Turn.grown hg (fun k hk => h.ofv k hk)) (fun _ h => .inl h)).trans (Turn.set g 3 fv h.og) (fun _ h => .inl h)
def FsS.create (S : FsS) (n : ByteArray) : Int × FsS := if S.beginC [n] = 0 then (0, S.beginT.file1.chg (.link n S.files.length)) else (S.beginC [n], S.beginT)
set_option maxHeartbeats 4000000 in
set_option maxRecDepth 100000 in
theorem create_calls (n : ByteArray) (w : World) (own : Nat → Prop) (g : Nat) (S : FsS) (hS : FsIs w own g S) (hu : Under own w) (hops : S.ops ≤ 90000) :
    Calls Tryd.prog 22 #[.pointer (some ⟨g, 0, none⟩), .string n] w fun e w' => e = .returned (.int .i64 (S.create n).1) ∧ FsIs w' (More own w w') g (S.create n).2 ∧ Turn own w w' := by
  have HS0 := Aside0.mk (hS.below (below_alloc (Below.refl _ _) (.cells #[.string n] 9)))
  have hbg := begin_calls (some ⟨w.heap.size, 0, none⟩) 1 [n] _ own g S HS0.out (SR.one w n) (by simp) (fun ad e => by injection e with e; subst e; exact fun h => absurd (hu _ h) (Nat.lt_irrefl _))
  have HT0 := Aside0.mk (Turn.below (below_alloc (Below.refl w.heap.size w) (.cells #[.string n] 9)) own)
  have HU := Aside0.mk hu
  have HOP := Aside0.mk hops
  obtain ⟨C, hC⟩ : ∃ C, C = S.beginC [n] := ⟨_, rfl⟩
  obtain ⟨T, hT⟩ : ∃ T, T = S.beginT := ⟨_, rfl⟩
  rw [← hC, ← hT, List.length_singleton] at hbg
  have ET := Aside0.mk hT
  clear hS hu hops
  by_cases h0 : C = 0
  case neg =>
    have ER := Aside0.mk (show S.create n = (C, T) by unfold FsS.create; rw [← hC, if_neg h0, hT])
    have e1 : (C != 0) = true := bne_iff_ne.mpr h0
    clear hC hT h0
    go_enter Tryd.func22, Tryd.ntmps22
    go_wp2_with (go_at_call 41; refine hbg.mono ?_; rintro e w1 ⟨rfl, hI, ht⟩; have HI1 := Aside0.mk hI; have HT1 := Aside0.mk (HT0.out.trans ht (fun _ h => .inl h)); clear hI ht hbg)
    go_ret
    exact ⟨by rw [ER.out]; rfl, by rw [ER.out]; exact HI1.out.mono (fun k hk => .inl hk), HT1.out⟩
  subst h0
  have hmay : mayS n = true := by have := begin_zero hC.symm; simpa using this
  have hns := may_size hmay
  obtain ⟨f1, f2, f3, f4, f5, f6, f7, f8⟩ := beginT_files S
  rw [← hT] at f1 f2 f3
  have HN := Aside0.mk hns
  have HF := Aside0.mk (And.intro f1 (And.intro f2 f3))
  have ER := Aside0.mk (show S.create n = (0, T.file1.chg (.link n T.files.length)) by unfold FsS.create; rw [← hC, if_pos rfl, hT, (beginT_files S).1])
  clear hC hT hmay hns f1 f2 f3 f4 f5 f6 f7 f8
  go_enter Tryd.func22, Tryd.ntmps22
  go_upto_region 4 with (go_at_call 41; refine hbg.mono ?_; rintro e w1 ⟨rfl, hI, ht⟩; have HI1 := Aside0.mk hI; have HT1 := Aside0.mk (HT0.out.trans ht (fun _ h => .inl h)); clear hI ht hbg)
  obtain ⟨G, hG⟩ := HI1.out
  have c3 : w1.cell? ⟨g, 3, none⟩ = some G.fv := blk_cell hG.blk 3
  have f3 := blk_frozen hG.blk 3
  obtain ⟨A, cc, hfv⟩ := row_slice hG.fv
  rw [hfv] at c3
  have hrow0 := hG.fv
  rw [hfv] at hrow0
  have HB := Aside0.mk (And.intro hG.bnd HF.out)
  have HG := Aside0.mk hG
  have HFV := Aside0.mk hfv
  have HR0 := Aside0.mk (hrow0.alloc newFile)
  have HU1 := Aside0.mk (show Under own w1 from fun k hk => Nat.lt_of_lt_of_le (HU.out k hk) HT1.out.size)
  clear hG hfv hrow0
  go_upto_region 5 with ((with_reducible refine gate_builtin (b := .append) (xs := #[.tmp 17, .tmp 20]) rfl ?_); at_builtin; refine print_append_cells (w0 := w1.alloc newFile) 0 rfl (.tmp 17) (.tmp 20) 62 68 (.pointer none) 1 8 rfl Tryd.underlying62 info68 rfl (by decide) (by decide) (.slice A T.files.length cc) T.files.length (G.fs.map (fun x => ptr x.1)) [ptr w1.heap.size] rfl (by rw [show (w1.alloc newFile).heap.size = w1.heap.size + 1 by simp]; rfl) rfl ?h1 ?HO ?HB ?hb ?hl ?_)
  case h1 => intro u hu; rw [List.mem_singleton.1 hu]; rfl
  case HO => exact HR0.out
  case HB => exact Below.refl _ _
  case hb => exact Nat.zero_le _
  case hl => have := HB.out; have := HOP.out; omega
  intro v2 w2 hrow hbel hgr hat
  have hg0 : (w1.alloc newFile).grownBy w2 G.fv.ownBlock := by rw [HFV.out]; exact hgr
  have hh2 := (HG.out.move (w' := w1.alloc newFile) (fun k hk _ => Below.heap_alloc w1 newFile k hk) (fun _ h => h)).head_kept (v := G.fv) (by rw [HFV.out]; exact HR0.out) (by decide) hg0
  have hb2 := hh2.trans ((Below.heap_alloc w1 newFile g (blk_lt HG.out.blk)).trans HG.out.blk)
  have c3 : w2.cell? ⟨g, 3, none⟩ = some G.fv := blk_cell hb2 3
  have f3 := blk_frozen hb2 3
  have HP := Aside0.mk (HG.out.pushF HU1.out v2 hg0 hrow (by
    rcases hat with h | ⟨b, h1, h2⟩
    · exact .inl (by rw [h, HFV.out])
    · exact .inr ⟨b, h1, by simpa using h2⟩))
  clear hg0 hh2 hb2 hrow hbel hgr hat
  obtain ⟨A2, c2, rfl⟩ : ∃ A2 c2, v2 = .slice A2 (T.files.length + 1) c2 := by
    obtain ⟨A2, c2, h⟩ := row_slice HP.out.1.fv
    refine ⟨A2, c2, ?_⟩
    have e : v2 = .slice A2 (T.files ++ [(([], 0) : List Int × Nat)]).length c2 := h
    rw [List.length_append, List.length_singleton] at e
    exact e
  go_upto_region 5 with (fail)
  have HT3 := Aside0.mk (HT1.out.trans HP.out.2 (fun _ h => .inl h))
  obtain ⟨W3, hW3⟩ : ∃ W3, W3 = w2.setCell ⟨g, 3, none⟩ (.slice A2 (T.files.length + 1) c2) := ⟨_, rfl⟩
  rw [← hW3] at HP HT3 ⊢
  clear hW3 c3 f3
  have c3 : W3.cell? ⟨g, 3, none⟩ = some (.slice A2 (T.files.length + 1) c2) := blk_cell HP.out.1.blk 3
  have e1 : wrap64 (T.files.length : Int) = (T.files.length : Int) := by have := HB.out; have := HOP.out; unfold wrap64; omega
  have HC2 := Aside0.mk (change_calls (.link n T.files.length) W3 (More own w1 W3) g T.file1 ⟨_, HP.out.1⟩ ⟨by unfold FsS.file1; simp, HN.out⟩ (by unfold FsS.file1; have := HB.out; have := HOP.out; simp only; omega))
  go_wp2_with (go_at_call 42; refine HC2.out.mono ?_; rintro e w4 ⟨rfl, hI, ht⟩; have HI4 := Aside0.mk hI; have HT4 := Aside0.mk ht; clear hI ht)
  go_ret
  refine ⟨by rw [ER.out]; rfl, by rw [ER.out]; exact HI4.out.mono (fun k hk => more_step HT1.out.size k (more_trans HP.out.2.size HT4.out.size k hk)), HT3.out.trans HT4.out (fun k hk => ?_)⟩
  rcases hk with hk | hk
  · exact .inl hk
  · exact .inr (Nat.le_trans HT1.out.size hk.1)
end Go.Proofs.YtnnlmackofopeaaDoor.Fs
