/- FsBegins: the states. -/
import Derived.Test.YtnnlmackofopeaaDoorFsC
namespace Go.Proofs.YtnnlmackofopeaaDoor.Fs
open Go.RowKit Go.Lib Go.Maps Go.Shelf Go.Sort Go.Proofs.YtnnlmackofopeaaDoorW.PrintWords Go.Proofs.YtnnlmackofopeaaDoorW.PrintLast Go.Proofs.YtnnlmackofopeaaDoorW.PrintMore
set_option linter.unusedVariables false
set_option linter.unusedSimpArgs false
def bg (xs : List Int) (s : Nat) : FsS := { go1 with durable := go1.names, changes := [], files := [(xs, s)], dat := xs.length }
theorem bg_start : go1.syncNames = (0, bg [] 0) := by
  rw [syncNames_ok (S := go1) rfl]
  kernel_rfl
theorem bg_used (xs : List Int) (s : Nat) : (bg xs s).used ≤ xs.length := by
  have h := sumL_le (fs := [(xs, s)]) (m := xs.length) (fun f hf => by
    rcases List.mem_cons.1 hf with rfl | hf
    · exact Nat.le_refl _
    · cases hf) (has go1.names) (entries go1.names)
  rw [show (entries go1.names).length = 1 by kernel_rfl, Nat.one_mul] at h
  exact h
theorem bg_append (xs ys : List Int) (s : Nat) (h : xs.length + ys.length ≤ 1048576) : (bg xs s).append na ys = (0, bg (xs ++ ys) s) := by
  rw [append_ok (S := bg xs s) rfl may_a (show (bg xs s).at_ na = some 0 from go1_at) (by
    have := bg_used xs s
    show ((bg xs s).used : Int) + (ys.length : Int) ≤ 1048576
    omega)]
  unfold FsS.app FsS.upd bg
  rw [List.length_append]
  rfl
theorem bg_sync (xs : List Int) (s : Nat) : (bg xs s).sync na = (0, bg xs xs.length) := by
  rw [sync_ok (S := bg xs s) rfl may_a (show (bg xs s).at_ na = some 0 from go1_at)]
  rfl
theorem bg_ops (xs : List Int) (s : Nat) : (bg xs s).ops = 2 := by show go1.ops = 2; kernel_rfl
theorem bg_read (xs : List Int) (s : Nat) (n : Int) (h : s ≤ xs.length) : ((bg xs s).crash 0 [n]).read na = (0, xs.take (s + (max (min n ((xs.length : Int) - (s : Int))) 0).toNat)) := by
  have hfile : ((bg xs s).crash 0 [n]).files[0]? = some (cutF [n] 0 (xs, s)) := by
    show ((bg xs s).cutN [n] 1).files[0]? = _
    rw [cutN_file, if_pos (by decide)]
    rfl
  have hat : ((bg xs s).crash 0 [n]).at_ na = some 0 := go1_at
  unfold FsS.read
  rw [if_pos may_a, hat]
  simp only [hfile, Option.map_some, Option.getD_some]
  rfl
theorem bg_crash_dat (xs : List Int) (s : Nat) (n : Int) : ((bg xs s).crash 0 [n]).dat = xs.length := (crash_bounds _ 0 [n]).2
end Go.Proofs.YtnnlmackofopeaaDoor.Fs
