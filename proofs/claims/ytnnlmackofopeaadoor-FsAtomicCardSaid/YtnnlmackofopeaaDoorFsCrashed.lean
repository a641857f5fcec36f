/- A crash: the state behind it. -/
import Derived.Test.YtnnlmackofopeaaDoorFsNew
namespace Go.Proofs.YtnnlmackofopeaaDoor.Fs
open Go.RowKit Go.Lib Go.Maps Go.Shelf Go.Proofs.YtnnlmackofopeaaDoorW.PrintWords Go.Proofs.YtnnlmackofopeaaDoorW.PrintLast Go.Proofs.YtnnlmackofopeaaDoorW.PrintMore
set_option linter.unusedVariables false
set_option linter.unusedSimpArgs false
/-- The durable names' map is written. -/
theorem FsAt.onDurable {w w' : World} {own : Nat → Prop} {g : Nat} {S : FsS} {G : FsG} (h : FsAt w own g S G) (c : Chg) (hc : c.okL S.files.length) (hg : w.grownBy w' (some G.db)) (hm : w'.ownsMap Tryd.prog 9 (plainElem Tryd.prog 3) G.db (G.dn + 1) (c.app S.durable)) :
    FsAt w' own g { S with durable := c.app S.durable, ops := S.ops + 1 } { G with dn := G.dn + 1 } := by
  obtain ⟨es, cl, hn⟩ := map_blk h.nm
  obtain ⟨es', cl', hd⟩ := map_blk h.dm
  have hk : ∀ k (o : Obj), w.heap[k]? = some o → (∀ e c, o ≠ .map e c) → w'.heap[k]? = w.heap[k]? := fun k o ho hne => hg.block k (blk_lt ho) (fun e => by
    injection e with e
    subst e
    rw [ho] at hd
    exact hne _ _ (Option.some.inj hd))
  refine ⟨(hk g _ h.blk (by simp)).trans h.blk, h.og, row_kept h.fv (fun k hb => ?_), h.ofv, h.len, fun i b v f h1 h2 => ?_, h.inj, map_kept h.nm (hg.block _ (blk_lt hn) (fun e => h.om.2.2 (Option.some.inj e))), hm, h.om,
    row_kept h.cv (fun k hb => ?_), h.ocv, ?_, h.ln, leads_app h.ld h.dm.isMap hc, h.lc⟩
  · obtain ⟨hl, cells, hc⟩ := row_typed h.fv k hb
    exact hk k _ hc (by simp)
  · obtain ⟨q1, q2, q3, q4, q5⟩ := h.file i b v f h1 h2
    refine ⟨(hk b _ q1 (by simp)).trans q1, q2, q3.step (fun k hb => ?_) (fun _ h => h), q4, q5⟩
    obtain ⟨o1, o2, cells, hc⟩ := q3.own k hb
    exact hk k _ hc (by simp)
  · obtain ⟨hl, cells, hc⟩ := row_typed h.cv k hb
    exact hk k _ hc (by simp)
  · have := h.bnd
    exact ⟨by simp only; omega, by simp only; omega, by simp only; omega, by simp only; omega⟩
/-- Other bounds. -/
theorem FsAt.setOps {w : World} {own : Nat → Prop} {g : Nat} {S : FsS} {G : FsG} (h : FsAt w own g S G) (o : Nat) (hb : S.files.length ≤ o ∧ S.changes.length ≤ o ∧ G.nn ≤ o ∧ G.dn + S.changes.length ≤ o) : FsAt w own g { S with ops := o } G :=
  ⟨h.blk, h.og, h.fv, h.ofv, h.len, h.file, h.inj, h.nm, h.dm, h.om, h.cv, h.ocv, hb, h.ln, h.ld, h.lc⟩
/-- Of what isn't synced so many bytes stay. -/
def stayS (bs : List Int) (i : Nat) (f : List Int × Nat) : Nat := if i < bs.length then (max (min (bs.getD i 0) ((f.1.length : Int) - (f.2 : Int))) 0).toNat else 0
def cutF (bs : List Int) (i : Nat) (f : List Int × Nat) : List Int × Nat := (f.1.take (f.2 + stayS bs i f), f.2 + stayS bs i f)
def FsS.cutN (S : FsS) (bs : List Int) : Nat → FsS
  | 0 => S
  | i + 1 => (S.cutN bs i).upd i (cutF bs i)
def kept (nm : Int) (n : Nat) : Nat := (max (min nm (n : Int)) 0).toNat
def foldD (D : Names) (cs : List Chg) : Names := cs.foldl (fun D c => c.app D) D
def FsS.crash (S : FsS) (nm : Int) (bs : List Int) : FsS :=
  { S.cutN bs S.files.length with limited := false, durable := foldD S.durable (S.changes.take (kept nm S.changes.length)), names := foldD S.durable (S.changes.take (kept nm S.changes.length)), changes := [] }
theorem cutN_rest (S : FsS) (bs : List Int) : ∀ n, (S.cutN bs n).quota = S.quota ∧ (S.cutN bs n).left = S.left ∧ (S.cutN bs n).limited = S.limited ∧ (S.cutN bs n).names = S.names ∧ (S.cutN bs n).durable = S.durable ∧ (S.cutN bs n).changes = S.changes ∧ (S.cutN bs n).ops = S.ops ∧ (S.cutN bs n).dat = S.dat ∧ (S.cutN bs n).files.length = S.files.length
  | 0 => ⟨rfl, rfl, rfl, rfl, rfl, rfl, rfl, rfl, rfl⟩
  | n + 1 => by
    obtain ⟨h1, h2, h3, h4, h5, h6, h7, h8, h9⟩ := cutN_rest S bs n
    exact ⟨h1, h2, h3, h4, h5, h6, h7, h8, by rw [← h9]; exact List.length_modify ..⟩
theorem cutN_file (S : FsS) (bs : List Int) : ∀ n j, (S.cutN bs n).files[j]? = if j < n then (S.files[j]?).map (cutF bs j) else S.files[j]?
  | 0, j => by simp [FsS.cutN]
  | n + 1, j => by
    have ih := cutN_file S bs n j
    show ((S.cutN bs n).files.modify n (cutF bs n))[j]? = _
    rw [List.getElem?_modify, ih]
    by_cases e : n = j
    · subst e
      rw [if_neg (Nat.lt_irrefl _), if_pos (Nat.lt_succ_self _)]
      simp
    · by_cases hj : j < n
      · rw [if_pos hj, if_pos (by omega)]
        simp [e]
      · rw [if_neg hj, if_neg (by omega)]
        simp [e]
theorem stay_le (bs : List Int) (i : Nat) (f : List Int × Nat) (h : f.2 ≤ f.1.length) : f.2 + stayS bs i f ≤ f.1.length := by
  unfold stayS
  split
  · omega
  · omega
theorem kept_le (nm : Int) (n : Nat) : kept nm n ≤ n := by unfold kept; omega
end Go.Proofs.YtnnlmackofopeaaDoor.Fs
