/- FsAtomic: the states. -/
import Derived.Test.YtnnlmackofopeaaDoorFsGoneWalk
namespace Go.Proofs.YtnnlmackofopeaaDoor.Fs
open Go.RowKit Go.Lib Go.Maps Go.Shelf Go.Sort Go.Proofs.YtnnlmackofopeaaDoorW.PrintWords Go.Proofs.YtnnlmackofopeaaDoorW.PrintLast Go.Proofs.YtnnlmackofopeaaDoorW.PrintMore
set_option linter.unusedVariables false
set_option linter.unusedSimpArgs false
abbrev nOut : ByteArray := ⟨#[111, 117, 116]⟩
abbrev nTmp : ByteArray := ⟨#[116, 109, 112]⟩
def am1 : FsS := ((fs0 q20).create nOut).2
def am2 (xs : List Int) : FsS := am1.app 0 xs
def am3 (xs : List Int) : FsS := (am2 xs).upd 0 (fun f => (f.1, f.1.length))
def am4 (xs : List Int) : FsS := { am3 xs with durable := (am3 xs).names, changes := [] }
def am5 (xs : List Int) : FsS := (am4 xs).file1.chg (.link nTmp 1)
def am6 (xs ys : List Int) : FsS := (am5 xs).app 1 ys
def am7 (xs ys : List Int) : FsS := (am6 xs ys).upd 1 (fun f => (f.1, f.1.length))
def am8 (xs ys : List Int) : FsS := (am7 xs ys).chg (.moved nOut 1 nTmp)
theorem may_out : mayS nOut = true := by kernel_rfl
theorem may_tmp : mayS nTmp = true := by kernel_rfl
theorem am1_eq : (fs0 q20).create nOut = (0, am1) := by kernel_rfl
theorem am1_at : am1.at_ nOut = some 0 := by kernel_rfl
theorem am1_used : am1.used = 0 := by kernel_rfl
theorem am2_eq (xs : List Int) (hl : xs.length ≤ 100) : am1.append nOut xs = (0, am2 xs) :=
  append_ok (S := am1) rfl may_out am1_at (by rw [am1_used]; show ((0 : Nat) : Int) + (xs.length : Int) ≤ 1048576; omega)
theorem am3_eq (xs : List Int) : (am2 xs).sync nOut = (0, am3 xs) := sync_ok (S := am2 xs) rfl may_out am1_at
theorem am4_eq (xs : List Int) : (am3 xs).syncNames = (0, am4 xs) := syncNames_ok (S := am3 xs) rfl
theorem am5_eq (xs : List Int) : (am4 xs).create nTmp = (0, am5 xs) := create_ok (S := am4 xs) rfl may_tmp
def amN : Names := (am5 []).names
theorem am5_names (xs : List Int) : (am5 xs).names = amN := rfl
theorem am5_file (xs : List Int) : (am5 xs).files = [(xs, xs.length), ([], 0)] := rfl
theorem am5_at (xs : List Int) : (am5 xs).at_ nTmp = some 1 := by
  unfold FsS.at_
  rw [am5_names]
  kernel_rfl
theorem am5_used (xs : List Int) (hl : xs.length ≤ 100) : (am5 xs).used ≤ 200 := by
  unfold FsS.used
  rw [am5_names, am5_file]
  have h := sumL_le (fs := [(xs, xs.length), ([], 0)]) (m := 100) (fun f hf => by
    rcases List.mem_cons.1 hf with rfl | hf
    · exact hl
    · rcases List.mem_cons.1 hf with rfl | hf
      · exact Nat.zero_le _
      · cases hf) (has amN) (entries amN)
  exact Nat.le_trans h (by rw [show (entries amN).length = 2 by kernel_rfl]; decide)
theorem am6_eq (xs ys : List Int) (hl : xs.length ≤ 100) (hl2 : ys.length ≤ 100) : (am5 xs).append nTmp ys = (0, am6 xs ys) :=
  append_ok (S := am5 xs) rfl may_tmp (am5_at xs) (by
    have := am5_used xs hl
    show ((am5 xs).used : Int) + (ys.length : Int) ≤ 1048576
    omega)
theorem am7_eq (xs ys : List Int) : (am6 xs ys).sync nTmp = (0, am7 xs ys) := sync_ok (S := am6 xs ys) rfl may_tmp (am5_at xs)
theorem am7_at (xs ys : List Int) : (am7 xs ys).at_ nTmp = some 1 := am5_at xs
theorem am8_eq (xs ys : List Int) : (am7 xs ys).rename nTmp nOut = (0, am8 xs ys) := by
  rw [rename_ok (S := am7 xs ys) rfl may_tmp may_out (by show has amN (kl nTmp) = true; kernel_rfl) (by rw [toList_data, toList_data]; decide), am7_at]
  rfl
theorem am8_file0 (xs ys : List Int) : (am8 xs ys).files[0]? = some (xs, xs.length) := rfl
theorem am8_file1 (xs ys : List Int) : (am8 xs ys).files[1]? = some (ys, ys.length) := rfl
theorem am8_changes (xs ys : List Int) : (am8 xs ys).changes.length = 2 := rfl
theorem am8_crash (xs ys : List Int) (nm : Int) (bs : List Int) (k : Nat) (hk : kept nm 2 = k) : ((am8 xs ys).crash nm bs).names = foldD am1.names (([.link nTmp 1, .moved nOut 1 nTmp] : List Chg).take k) := by
  show foldD (am8 xs ys).durable ((am8 xs ys).changes.take (kept nm (am8 xs ys).changes.length)) = _
  rw [am8_changes, hk]
  rfl
theorem am_at {S : FsS} {n : ByteArray} {D : Names} {o : Option Nat} (h : S.names = D) (ho : ({ fs0 0 with names := D } : FsS).at_ n = o) : S.at_ n = o := by
  rw [← ho]
  unfold FsS.at_
  rw [h]
/-- All survives: the new one. -/
theorem am_new (xs ys : List Int) (nm : Int) (bs : List Int) (hn : 2 ≤ nm) : ((am8 xs ys).crash nm bs).read nOut = (0, ys) ∧ ((am8 xs ys).crash nm bs).read nTmp = (7, []) := by
  have hc := am8_crash xs ys nm bs 2 (by unfold kept; omega)
  exact ⟨crash_read (f := (ys, ys.length)) may_out (i := 1) (am_at hc (by kernel_rfl)) (am8_file1 xs ys) rfl, read_none may_tmp (am_at hc (by kernel_rfl))⟩
theorem am_both (xs ys : List Int) (nm : Int) (bs : List Int) (hn : nm = 1) : ((am8 xs ys).crash nm bs).read nOut = (0, xs) ∧ ((am8 xs ys).crash nm bs).read nTmp = (0, ys) := by
  have hc := am8_crash xs ys nm bs 1 (by unfold kept; omega)
  exact ⟨crash_read (f := (xs, xs.length)) may_out (i := 0) (am_at hc (by kernel_rfl)) (am8_file0 xs ys) rfl, crash_read (f := (ys, ys.length)) may_tmp (i := 1) (am_at hc (by kernel_rfl)) (am8_file1 xs ys) rfl⟩
theorem am_old (xs ys : List Int) (nm : Int) (bs : List Int) (hn : nm ≤ 0) : ((am8 xs ys).crash nm bs).read nOut = (0, xs) ∧ ((am8 xs ys).crash nm bs).read nTmp = (7, []) := by
  have hc := am8_crash xs ys nm bs 0 (by unfold kept; omega)
  exact ⟨crash_read (f := (xs, xs.length)) may_out (i := 0) (am_at hc (by kernel_rfl)) (am8_file0 xs ys) rfl, read_none may_tmp (am_at hc (by kernel_rfl))⟩
end Go.Proofs.YtnnlmackofopeaaDoor.Fs
