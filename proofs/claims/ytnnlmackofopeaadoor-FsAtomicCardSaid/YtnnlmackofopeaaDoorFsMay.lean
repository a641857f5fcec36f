/- Contracts of the file system's functions, by hand: what every text of them imports; whether a name may be. -/
import Derived.Test.YtnnlmackofopeaaDoorProg
import Derived.Below
import Derived.Deep.Draws
import Derived.Deep.AppendLies
import Derived.Maps.AppendAt
import Derived.OwnWalk
import Derived.Laws.BytesArg
import Derived.Laws.MakeOwn
import Derived.Laws.OwnMore
import Derived.Deep.OwnRows
import Derived.Tactics
import Derived.Lib.ConvBytes
import Derived.Laws.Slices
import Derived.WalkKit
import Derived.KernelRfl
import Derived.RowKit3
import Derived.Deep.LoopGhost
import Derived.Deep.QuietTactic
import Derived.BigQuiet
import Derived.WideLaws
import Derived.Deep.DeepCutAuto
import Derived.Deep.CutBlock
import Derived.Deep.RegionHeld3
import Derived.Laws.Rows
import Derived.Lib.AppendStr
import Derived.ArgAppend
import Derived.Laws.IdiomCopy
import Derived.OrdersHeld
import Derived.Laws.BitsLemmas
import Derived.RowKit
import Derived.WalkMore
import Derived.ScopeJumps
import Derived.Laws.CopyOwn
import Derived.Lib.SlBytesConst
import Derived.Lib.SliceRun
import Derived.ChangeKeysEq
import Derived.Test.YtnnlmackofopeaaDoorWWords
import Derived.Test.YtnnlmackofopeaaDoorWLast
import Derived.Test.YtnnlmackofopeaaDoorWTab
import Derived.Test.YtnnlmackofopeaaDoorWFour
import Derived.Test.YtnnlmackofopeaaDoorWQPut
import Derived.Test.YtnnlmackofopeaaDoorWApart
import Derived.Test.YtnnlmackofopeaaDoorWArr
import Derived.Test.YtnnlmackofopeaaDoorWZeros
import Derived.Test.YtnnlmackofopeaaDoorWFoot
import Derived.Test.YtnnlmackofopeaaDoorWKept
import Derived.Test.YtnnlmackofopeaaDoorWShare
import Derived.Test.YtnnlmackofopeaaDoorWN
import Derived.Test.YtnnlmackofopeaaDoorWFootNe
import Derived.Test.YtnnlmackofopeaaDoorWAt
import Derived.Test.YtnnlmackofopeaaDoorWEqStruct
import Derived.Test.YtnnlmackofopeaaDoorWRepsOne
import Derived.Test.YtnnlmackofopeaaDoorWInv
import Derived.Test.YtnnlmackofopeaaDoorWInvWords
import Derived.Test.YtnnlmackofopeaaDoorWGuard
import Derived.Test.YtnnlmackofopeaaDoorWNEv
import Derived.Test.YtnnlmackofopeaaDoorWMore
import Derived.Maps.OwnSet
import Derived.Maps.RangeWalk
import Derived.Maps.Ext
import Derived.Deep.AppendSrc
import Derived.Lib.OthersKept
import Derived.Lib.TrimU
import Derived.Test.YtnnlmackofopeaaDoorLay
namespace Go.Proofs.YtnnlmackofopeaaDoor.Fs
open Go.RowKit Go.Lib Go.Maps Go.Proofs.YtnnlmackofopeaaDoorW.PrintWords Go.Proofs.YtnnlmackofopeaaDoorW.PrintLast Go.Proofs.YtnnlmackofopeaaDoorW.PrintMore
set_option linter.unusedVariables false
set_option linter.unusedSimpArgs false
theorem toList_data (s : ByteArray) : s.toList = s.data.toList := by
  cases s
  exact ByteArray.toList_mk _
def letters : List UInt8 := [97, 98, 99, 100, 101, 102, 103, 104, 105, 106, 107, 108, 109, 110, 111, 112, 113, 114, 115, 116, 117, 118, 119, 120, 121, 122, 48, 49, 50, 51, 52, 53, 54, 55, 56, 57, 45, 46]
def lettersB : ByteArray := ⟨#[97, 98, 99, 100, 101, 102, 103, 104, 105, 106, 107, 108, 109, 110, 111, 112, 113, 114, 115, 116, 117, 118, 119, 120, 121, 122, 48, 49, 50, 51, 52, 53, 54, 55, 56, 57, 45, 46]⟩
/-- Whether a name may be. -/
def mayS (s : ByteArray) : Bool := decide (s.size ≠ 0) && (decide (s.size ≤ 32) && s.data.toList.all (fun b => letters.contains b))
theorem dropWhile_all {p : UInt8 → Bool} : ∀ {l : List UInt8}, l.dropWhile p = [] ↔ l.all p = true
  | [] => by simp
  | a :: l => by
    rw [List.dropWhile_cons, List.all_cons]
    cases h : p a
    · simp
    · simp [dropWhile_all (l := l)]
theorem trim_all (l cs : List UInt8) : Lib.trimS l cs = [] ↔ l.all (fun b => cs.contains b) = true := by
  unfold Lib.trimS Lib.trimLeftS
  rw [dropWhile_all]
  constructor
  · intro h
    have h0 : Lib.trimLeftS (Lib.trimRightS l cs) cs = [] := dropWhile_all.2 h
    by_cases hr : Lib.trimRightS l cs = []
    · unfold Lib.trimRightS at hr
      rw [List.reverse_eq_nil_iff, dropWhile_all, List.all_reverse] at hr
      exact hr
    · -- the last one that is left is none of them
      exfalso
      unfold Lib.trimRightS at h hr
      rw [List.all_reverse] at h
      cases hd : l.reverse.dropWhile (cs.contains ·) with
      | nil => rw [hd] at hr; exact hr rfl
      | cons a t =>
        rw [hd] at h
        have h1 : cs.contains a = true := by simpa using List.all_eq_true.1 h a List.mem_cons_self
        have h2 := List.head?_dropWhile_not (cs.contains ·) l.reverse
        rw [hd] at h2
        simp only [List.head?_cons] at h2
        rw [h1] at h2
        simp at h2
  · intro h
    unfold Lib.trimRightS
    rw [List.all_reverse, dropWhile_all.2 (by rw [List.all_reverse]; exact h)]
    rfl
theorem index_in {l : List UInt8} {c : UInt8} (h : l.contains c = true) : 0 ≤ Lib.indexByte l c := by
  induction l with
  | nil => simp at h
  | cons b l ih =>
    unfold Lib.indexByte
    split
    · exact Int.le_refl _
    · rename_i hb
      have hl : l.contains c = true := by
        simp only [List.contains_cons, Bool.or_eq_true] at h
        rcases h with h | h
        · exfalso
          apply hb
          rw [beq_iff_eq] at h ⊢
          exact h.symm
        · exact h
      have := ih hl
      split
      · rename_i h1
        rw [beq_iff_eq] at h1
        omega
      · omega
theorem letters_ascii : letters.all (fun b => decide (b.toNat < 128)) = true := by decide
theorem letter_lt {b : UInt8} (h : letters.contains b = true) : b.toNat < 128 := by
  have := List.all_eq_true.1 letters_ascii b (by simpa using h)
  simpa using this
set_option maxHeartbeats 2000000 in
set_option maxRecDepth 100000 in
theorem may1_calls (b : UInt8) (hb : letters.contains b = true) (w : World) :
    Calls Tryd.prog 63 #[.int .i32 (b.toNat : Int)] w fun e w' => e = .returned (.bool false) ∧ w' = w := by
  have hc := Any.strings_ContainsRune_ascii Tryd.lays151 lettersB (b.toNat : Int) w (by omega) (by have := letter_lt hb; omega)
  change Calls Tryd.prog 64 _ _ _ at hc
  rw [show ((b.toNat : Int)).toNat.toUInt8 = b by rw [Int.toNat_natCast]; exact UInt8.ofNat_toNat] at hc
  rw [show lettersB.data.toList = letters from rfl, decide_eq_true (index_in hb)] at hc
  unfold lettersB at hc
  go_enter Tryd.func63, Tryd.ntmps63
  go_wp2_with (go_at_call 64; refine hc.mono ?_; rintro e w' ⟨rfl, rfl⟩)
  go_ret
  exact ⟨rfl, rfl⟩
theorem decode_letter (s : ByteArray) (i : Nat) (h : (s.get! i).toNat < 128) : Utf8.decode s i = ((s.get! i).toNat, 1) := by
  rw [Lib.decode_at]
  simp [Lib.decodeN, h]
theorem all_at {s : ByteArray} (h : s.data.toList.all (fun b => letters.contains b) = true) (i : Nat) (hi : i < s.size) : letters.contains (s.get! i) = true := by
  refine List.all_eq_true.1 h (s.get! i) ?_
  have e : s.get! i = s.data[i]'(by exact hi) := by
    unfold ByteArray.get!
    exact getElem!_pos s.data i hi
  rw [e]
  exact Array.getElem_mem_toList _
set_option maxHeartbeats 2000000 in
set_option maxRecDepth 100000 in
/-- strings.indexFunc over a name of letters alone: no rune is none of them. -/
theorem indexFunc_calls (s : ByteArray) (hs : s.data.toList.all (fun b => letters.contains b) = true) (w : World) :
    Calls Tryd.prog 94 #[.string s, .func (.func 63) #[] #[], .bool true] w fun e w' => e = .returned (.int .i64 (-1)) ∧ Below w.heap.size w w' := by
  have eg : ∀ args w, (callFunc 63 args).run Tryd.prog w = .ok (.enter 63 args) w := enters_of Tryd.func63 (by kernel_rfl) rfl
  have HS := Aside0.mk hs
  clear hs
  go_enter Tryd.func94, Tryd.ntmps94
  go_wp2
  go_loopg [] s.size (fun gf wx => ∃ pos : Nat, Aside0 (wx.heap[w.heap.size]? = some (.stringIter s pos)) ∧ Aside0 (Below w.heap.size w wx) ∧ pos + gf = s.size)
  case atStart => exact ⟨0, ⟨World.iter_heap w s 0⟩, ⟨(Below.refl _ w).alloc (Nat.le_refl _) _⟩, by omega⟩
  case round =>
    obtain ⟨pos, hit, hbw, hfu⟩ := hrel
    cases gk with
    | zero =>
      have hnx : ∀ ty, (Instr.next (.pointer (some ⟨w.heap.size, 0, none⟩)) true ty).run Tryd.prog wr = _ := fun ty => Lib.run_next_end_at wr w.heap.size s pos ty hit.out (by omega)
      clear hfu
      go_wp2
      go_ret
      exact ⟨rfl, hbw.out⟩
    | succ g' =>
      have hps : pos < s.size := by omega
      have hl := all_at HS.out pos hps
      have hnx : ∀ ty, (Instr.next (.pointer (some ⟨w.heap.size, 0, none⟩)) true ty).run Tryd.prog wr = _ := fun ty => Lib.run_next_any_at wr w.heap.size s pos ty hit.out hps
      have hdc := decode_letter s pos (letter_lt hl)
      obtain ⟨b, hb⟩ : ∃ b, s.get! pos = b := ⟨_, rfl⟩
      rw [hb] at hl hdc
      rw [hdc] at hnx
      have hit2 := Aside0.mk (Lib.iterAt_heap wr w.heap.size s pos (pos + 1) hit.out)
      have hbw2 := Aside0.mk (Lib.below_iterAt hbw.out (k := w.heap.size) (Nat.le_refl _) s (pos + 1))
      obtain ⟨W, hWd⟩ : ∃ W, wr.iterAt w.heap.size s (pos + 1) = W := ⟨_, rfl⟩
      rw [hWd] at hnx hit2 hbw2
      have HL := Aside0.mk hl
      have HF := Aside0.mk hfu
      clear hb hdc hps hl hfu
      go_wp2_with (go_at_fn 63; refine (may1_calls b HL.out _).mono ?_; rintro e w' ⟨rfl, rfl⟩)
      go_roundg g'
      case measure => omega
      case rel => exact ⟨pos + 1, hit2, hbw2, by have := HF.out; omega⟩
set_option maxHeartbeats 2000000 in
set_option maxRecDepth 100000 in
theorem containsFunc_calls (s : ByteArray) (hs : s.data.toList.all (fun b => letters.contains b) = true) (w : World) :
    Calls Tryd.prog 62 #[.string s, .func (.func 63) #[] #[]] w fun e w' => e = .returned (.bool false) ∧ Below w.heap.size w w' := by
  have hi : Calls Tryd.prog 77 #[.string s, .func (.func 63) #[] #[]] w fun e w' => e = .returned (.int .i64 (-1)) ∧ Below w.heap.size w w' := by
    have hc := indexFunc_calls s hs w
    clear hs
    go_enter Tryd.func77, Tryd.ntmps77
    go_wp2_with (go_at_call 94; refine hc.mono ?_; rintro e w' ⟨rfl, hb⟩; have HB := Aside0.mk hb; clear hb)
    go_ret
    exact ⟨rfl, HB.out⟩
  clear hs
  go_enter Tryd.func62, Tryd.ntmps62
  go_wp2_with (go_at_call 77; refine hi.mono ?_; rintro e w' ⟨rfl, hb⟩; have HB := Aside0.mk hb; clear hb)
  go_ret
  exact ⟨rfl, HB.out⟩
set_option maxHeartbeats 4000000 in
set_option maxRecDepth 100000 in
/-- fs.may. -/
theorem may_calls (s : ByteArray) (w : World) : Calls Tryd.prog 44 #[.string s] w fun e w' => e = .returned (.bool (mayS s)) ∧ Below w.heap.size w w' := by
  by_cases h0 : s.size = 0
  · have em : mayS s = false := by unfold mayS; rw [decide_eq_false (by omega)]; rfl
    obtain rfl : s = ⟨#[]⟩ := by
      cases s with
      | mk d => rw [show d = #[] from Array.eq_empty_of_size_eq_zero h0]
    rw [em]
    go_enter Tryd.func44, Tryd.ntmps44
    go_wp2
    go_ret
    exact ⟨rfl, Below.refl _ _⟩
  have hsz : s.toList.length = s.size := by rw [toList_data]; rfl
  have hn1 : s.toList.isEmpty = false := by
    cases h : s.toList with
    | nil => rw [h] at hsz; exact absurd hsz.symm h0
    | cons a l => rfl
  have hn2 : (s.toList = []) = False := eq_false (fun h => by rw [h] at hsz; exact h0 hsz.symm)
  by_cases h32 : s.size ≤ 32
  case neg =>
    have em : mayS s = false := by unfold mayS; rw [decide_eq_false h32]; simp
    rw [em]
    have e1 : ((s.size : Int) ≤ 32) = False := eq_false (by omega)
    have e2 : (32 < (s.size : Int)) = True := eq_true (by omega)
    have e3 : (s.size ≤ 32) = False := eq_false (by omega)
    clear h0 h32 hsz em
    go_enter Tryd.func44, Tryd.ntmps44
    go_wp2
    go_ret
    exact ⟨rfl, Below.refl _ _⟩
  have e1 : ((s.size : Int) ≤ 32) = True := eq_true (by omega)
  have e3 : (s.size ≤ 32) = True := eq_true (by omega)
  have hT := Any.strings_Trim_laid Tryd.lays160 (by kernel_rfl) s lettersB w (by omega) (by decide) (ascii_of_all letters_ascii)
  change Calls Tryd.prog 61 _ _ (fun e w' => e = .returned (.string ⟨(Lib.trimS s.data.toList letters).toArray⟩) ∧ Below w.heap.size w w') at hT
  unfold lettersB at hT
  obtain ⟨r, hr⟩ : ∃ r : ByteArray, r = ⟨(Lib.trimS s.data.toList letters).toArray⟩ := ⟨_, rfl⟩
  rw [← hr] at hT
  have hrl : r.toList = Lib.trimS s.data.toList letters := by rw [hr, toList_data]
  by_cases ha : s.data.toList.all (fun b => letters.contains b) = true
  · have em : mayS s = true := by unfold mayS; rw [decide_eq_true h0, decide_eq_true h32, ha]; rfl
    rw [em]
    have hre : r.toList = [] := by rw [hrl]; exact (trim_all _ _).2 ha
    have hr1 : r.toList.isEmpty = true := by rw [hre]; rfl
    have hr2 : (r.toList = []) = True := eq_true hre
    have HA := Aside0.mk ha
    clear h0 h32 hsz em hr hrl hre ha
    go_enter Tryd.func44, Tryd.ntmps44
    go_wp2_with (first | (go_at_call 61; refine hT.mono ?_; rintro e w1 ⟨rfl, hb⟩; have HB1 := Aside0.mk hb; clear hb) | (go_at_call 62; refine (containsFunc_calls s HA.out _).mono ?_; rintro e w2 ⟨rfl, hb⟩; have HB2 := Aside0.mk (below_step HB1.out hb); clear hb))
    go_ret
    exact ⟨rfl, HB2.out⟩
  · have em : mayS s = false := by unfold mayS; rw [Bool.eq_false_iff.mpr ha]; simp
    rw [em]
    have hre : ¬ r.toList = [] := by rw [hrl]; exact fun h => ha ((trim_all _ _).1 h)
    have hr1 : r.toList.isEmpty = false := by
      cases h : r.toList with
      | nil => exact absurd h hre
      | cons a l => rfl
    have hr2 : (r.toList = []) = False := eq_false hre
    clear h0 h32 hsz em hr hrl hre ha
    go_enter Tryd.func44, Tryd.ntmps44
    go_wp2_with (go_at_call 61; refine hT.mono ?_; rintro e w1 ⟨rfl, hb⟩; have HB1 := Aside0.mk hb; clear hb)
    go_ret
    exact ⟨rfl, HB1.out⟩
end Go.Proofs.YtnnlmackofopeaaDoor.Fs
