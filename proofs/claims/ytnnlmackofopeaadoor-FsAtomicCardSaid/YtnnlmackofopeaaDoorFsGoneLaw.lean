/- FsGone: the states. -/
import Derived.Test.YtnnlmackofopeaaDoorFsShown
namespace Go.Proofs.YtnnlmackofopeaaDoor.Fs
open Go.RowKit Go.Lib Go.Maps Go.Shelf Go.Sort Go.Proofs.YtnnlmackofopeaaDoorW.PrintWords Go.Proofs.YtnnlmackofopeaaDoorW.PrintLast Go.Proofs.YtnnlmackofopeaaDoorW.PrintMore
set_option linter.unusedVariables false
set_option linter.unusedSimpArgs false
theorem crash_read {S : FsS} {nm : Int} {bs : List Int} {n : ByteArray} {i : Nat} {f : List Int × Nat} (hm : mayS n = true) (hi : (S.crash nm bs).at_ n = some i) (hf : S.files[i]? = some f) (hs : f.2 = f.1.length) : (S.crash nm bs).read n = (0, f.1) := by
  have hil : i < S.files.length := (List.getElem?_eq_some_iff.1 hf).1
  have hfile : (S.crash nm bs).files[i]? = some (cutF bs i f) := by
    show (S.cutN bs S.files.length).files[i]? = _
    rw [cutN_file, if_pos hil, hf]
    rfl
  have hst : stayS bs i f = 0 := by
    unfold stayS
    split
    · rw [hs]; omega
    · rfl
  unfold FsS.read
  rw [if_pos hm, hi]
  simp only [hfile, Option.map_some, Option.getD_some]
  unfold cutF
  rw [hst, hs, Nat.add_zero, List.take_length]
theorem read_none {S : FsS} {n : ByteArray} (hm : mayS n = true) (hi : S.at_ n = none) : S.read n = (7, []) := by
  unfold FsS.read
  rw [if_pos hm, hi]
/-! ### FsGone -/
abbrev q20 : Int := 1048576
def go1 : FsS := ((fs0 q20).create na).2
def go2 (ys : List Int) : FsS := go1.app 0 ys
def go3 (ys : List Int) : FsS := (go2 ys).upd 0 (fun f => (f.1, f.1.length))
def go4 (ys : List Int) : FsS := { go3 ys with durable := (go3 ys).names, changes := [] }
def go5 (ys : List Int) : FsS := (go4 ys).chg (.gone na)
def go6 (ys : List Int) : FsS := { go5 ys with durable := (go5 ys).names, changes := [] }
theorem may_a : mayS na = true := by kernel_rfl
theorem go1_eq : (fs0 q20).create na = (0, go1) := by kernel_rfl
theorem go1_at : go1.at_ na = some 0 := by kernel_rfl
theorem go1_used : go1.used = 0 := by kernel_rfl
theorem go2_eq (ys : List Int) (hl : ys.length ≤ 1000) : go1.append na ys = (0, go2 ys) :=
  append_ok (S := go1) rfl may_a go1_at (by rw [go1_used]; show ((0 : Nat) : Int) + (ys.length : Int) ≤ 1048576; omega)
theorem go3_eq (ys : List Int) : (go2 ys).sync na = (0, go3 ys) := sync_ok (S := go2 ys) rfl may_a go1_at
theorem go4_eq (ys : List Int) : (go3 ys).syncNames = (0, go4 ys) := syncNames_ok (S := go3 ys) rfl
theorem go5_eq (ys : List Int) : (go4 ys).remove na = (0, go5 ys) := remove_ok (S := go4 ys) rfl may_a (by
  show has go1.names (kl na) = true
  kernel_rfl)
theorem go6_eq (ys : List Int) : (go5 ys).syncNames = (0, go6 ys) := syncNames_ok (S := go5 ys) rfl
theorem go5_file (ys : List Int) : (go5 ys).files[0]? = some (ys, ys.length) := rfl
/-- Nothing survives: it comes back. -/
theorem gone_back (ys : List Int) (nm : Int) (bs : List Int) (hn : nm ≤ 0) : ((go5 ys).crash nm bs).read na = (0, ys) := by
  have hk : kept nm (go5 ys).changes.length = 0 := by unfold kept; omega
  refine crash_read (f := (ys, ys.length)) may_a (i := 0) ?_ (go5_file ys) rfl
  have hnm : ((go5 ys).crash nm bs).names = go1.names := by
    show foldD (go5 ys).durable ((go5 ys).changes.take (kept nm (go5 ys).changes.length)) = _
    rw [hk]
    rfl
  unfold FsS.at_
  rw [hnm]
  exact go1_at
theorem gone_stay (ys : List Int) (nm : Int) (bs : List Int) (hn : 0 < nm) : ((go5 ys).crash nm bs).read na = (7, []) ∧ ((go5 ys).crash nm bs).used = 0 := by
  have hk : kept nm (go5 ys).changes.length = 1 := by
    have : (go5 ys).changes.length = 1 := rfl
    unfold kept
    omega
  have hnm : ((go5 ys).crash nm bs).names = .map [] := by
    show foldD (go5 ys).durable ((go5 ys).changes.take (kept nm (go5 ys).changes.length)) = _
    rw [hk]
    show foldD go1.names [.gone na] = _
    kernel_rfl
  refine ⟨read_none may_a (by unfold FsS.at_; rw [hnm]; rfl), ?_⟩
  unfold FsS.used
  rw [hnm]
  rfl
theorem gone_synced (ys : List Int) (nm : Int) (bs : List Int) : ((go6 ys).crash nm bs).read na = (7, []) ∧ ((go6 ys).crash nm bs).used = 0 := by
  have hnm : ((go6 ys).crash nm bs).names = .map [] := by
    show foldD (go6 ys).durable (([] : List Chg).take (kept nm (go6 ys).changes.length)) = _
    rw [List.take_nil]
    show (Chg.gone na).app go1.names = _
    kernel_rfl
  refine ⟨read_none may_a (by unfold FsS.at_; rw [hnm]; rfl), ?_⟩
  unfold FsS.used
  rw [hnm]
  rfl
end Go.Proofs.YtnnlmackofopeaaDoor.Fs
