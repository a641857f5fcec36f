/- What the file system's blocks hold when one of them is written. -/
import Derived.Test.YtnnlmackofopeaaDoorFsNames
namespace Go.Proofs.YtnnlmackofopeaaDoor.Fs
open Go.RowKit Go.Lib Go.Maps Go.Proofs.YtnnlmackofopeaaDoorW.PrintWords Go.Proofs.YtnnlmackofopeaaDoorW.PrintLast Go.Proofs.YtnnlmackofopeaaDoorW.PrintMore
set_option linter.unusedVariables false
set_option linter.unusedSimpArgs false
theorem leads_app {D : Names} {L : Nat} {c : Chg} (h : Leads D L) (hm : IsMap D) (hc : c.okL L) : Leads (c.app D) L := by
  have put : ∀ (D : Names) (n : ByteArray) (i : Nat), Leads D L → IsMap D → i < L → Leads (D.put (kl n) (num i)) L := by
    intro D n i h hm hi k hk
    by_cases e : k = kl n
    · subst e
      exact ⟨i, hi, fun z => atKey_put_same hm (by simp [kl, WideAt.IsKeyLit]) _ z⟩
    · rw [has_put_other e] at hk
      obtain ⟨j, h1, h2⟩ := h k hk
      exact ⟨j, h1, fun z => by rw [atKey_put_other e]; exact h2 z⟩
  have del : ∀ (D : Names) (n : ByteArray), Leads D L → Leads (D.del (kl n)) L := by
    intro D n h k hk
    by_cases e : k = kl n
    · subst e
      rw [has_del_same] at hk
      exact absurd hk (by decide)
    · rw [has_del_other e] at hk
      obtain ⟨j, h1, h2⟩ := h k hk
      exact ⟨j, h1, fun z => by rw [atKey_del_other e]; exact h2 z⟩
  cases c with
  | link n i => exact put D n i h hm hc.1
  | gone n => exact del D n h
  | moved n i o => exact del _ o (put D n i h hm hc.1)
theorem leads_mono {D : Names} {L L' : Nat} (h : Leads D L) (hl : L ≤ L') : Leads D L' := fun k hk => by
  obtain ⟨i, h1, h2⟩ := h k hk
  exact ⟨i, by omega, h2⟩
theorem okL_mono {c : Chg} {L L' : Nat} (h : c.okL L) (hl : L ≤ L') : c.okL L' := by
  cases c with
  | link n i => exact ⟨by have := h.1; omega, h.2⟩
  | gone n => exact h
  | moved n i o => exact ⟨by have := h.1; omega, h.2⟩
/-- The names' map is written. -/
theorem FsAt.onNames {w w' : World} {own : Nat → Prop} {g : Nat} {S : FsS} {G : FsG} (h : FsAt w own g S G) (c : Chg) (hc : c.okL S.files.length) (hg : w.grownBy w' (some G.nb)) (hm : w'.ownsMap Tryd.prog 9 (plainElem Tryd.prog 3) G.nb (G.nn + 1) (c.app S.names)) :
    FsAt w' own g { S with names := c.app S.names, ops := S.ops + 1 } { G with nn := G.nn + 1 } := by
  obtain ⟨es, cl, hn⟩ := map_blk h.nm
  obtain ⟨es', cl', hd⟩ := map_blk h.dm
  have hk : ∀ k (o : Obj), w.heap[k]? = some o → (∀ e c, o ≠ .map e c) → w'.heap[k]? = w.heap[k]? := fun k o ho hne => hg.block k (blk_lt ho) (fun e => by
    injection e with e
    subst e
    rw [ho] at hn
    exact hne _ _ (Option.some.inj hn))
  refine ⟨(hk g _ h.blk (by simp)).trans h.blk, h.og, row_kept h.fv (fun k hb => ?_), h.ofv, h.len, fun i b v f h1 h2 => ?_, h.inj, hm, map_kept h.dm (hg.block _ (blk_lt hd) (fun e => h.om.2.2 (Option.some.inj e).symm)), h.om,
    row_kept h.cv (fun k hb => ?_), h.ocv, ?_, leads_app h.ln h.nm.isMap hc, h.ld, h.lc⟩
  · obtain ⟨hl, cells, hc⟩ := row_typed h.fv k hb
    exact hk k _ hc (by simp)
  · obtain ⟨q1, q2, q3, q4, q5⟩ := h.file i b v f h1 h2
    refine ⟨(hk b _ q1 (by simp)).trans q1, q2, q3.step (fun k hb => ?_) (fun _ h => h), q4, q5⟩
    obtain ⟨o1, o2, cells, hc⟩ := q3.own k hb
    exact hk k _ hc (by simp)
  · obtain ⟨hl, cells, hc⟩ := row_typed h.cv k hb
    exact hk k _ hc (by simp)
  · have := h.bnd
    exact ⟨by simp only; omega, by simp only; omega, by simp only; omega, by simp only; omega⟩
/-- A change is noted. -/
theorem FsAt.pushC {w W : World} {own : Nat → Prop} {g : Nat} {S : FsS} {G : FsG} (h : FsAt w own g S G) (c : Chg) (hc : c.okL S.files.length) (cv : Value) (hg : w.grownBy W G.cv.ownBlock) (hr : W.ownsRow 0 20 1 cv (S.changes.length + 1) (S.changes.map Chg.val ++ [c.val])) (hat : cv.ownBlock = G.cv.ownBlock ∨ ∃ b, cv.ownBlock = some b ∧ w.heap.size ≤ b) (hops : G.dn + S.changes.length + 1 ≤ S.ops) :
    FsAt (W.setCell ⟨g, 6, none⟩ cv) (More own w (W.setCell ⟨g, 6, none⟩ cv)) g { S with changes := S.changes ++ [c] } { G with cv := cv } ∧ Turn own w (W.setCell ⟨g, 6, none⟩ cv) := by
  have hne : ∀ k cells t, w.heap[k]? = some (.cells cells t (0, 0)) → t ≠ 20 → some k ≠ G.cv.ownBlock := fun k cells t hk ht e => by
    obtain ⟨_, cells', hc'⟩ := row_typed h.cv k e.symm
    exact ne_of_type hk hc' ht rfl
  have hnem : ∀ k es cl, w.heap[k]? = some (.map es cl) → some k ≠ G.cv.ownBlock := fun k es cl hk e => by
    obtain ⟨_, cells', hc'⟩ := row_typed h.cv k e.symm
    exact ne_of_obj hk hc' (by simp) rfl
  have hgg : W.heap[g]? = w.heap[g]? := hg.block g (blk_lt h.blk) (hne g _ _ h.blk (by decide))
  have hset : ∀ k, k ≠ g → (W.setCell ⟨g, 6, none⟩ cv).heap[k]? = W.heap[k]? := fun k hk => Below.heap_setCell _ ⟨g, 6, none⟩ _ k hk
  have hsz : (W.setCell ⟨g, 6, none⟩ cv).heap.size = W.heap.size := World.size_setCell ..
  have hk : ∀ k, k ≠ g → k < w.heap.size → some k ≠ G.cv.ownBlock → (W.setCell ⟨g, 6, none⟩ cv).heap[k]? = w.heap[k]? := fun k h1 h2 h3 => (hset k h1).trans (hg.block k h2 h3)
  obtain ⟨es, cl, hn⟩ := map_blk h.nm
  obtain ⟨es', cl', hd⟩ := map_blk h.dm
  have hcg : ∀ b, cv.ownBlock = some b → b ≠ g := fun b hb e => by
    subst e
    obtain ⟨_, cells', hc'⟩ := row_typed hr b hb
    rw [hgg, h.blk] at hc'
    have := Option.some.inj hc'
    injection this with _ h2
    exact absurd h2 (by decide)
  refine ⟨⟨blk_put (hgg.trans h.blk) 6 _ rfl, .inl h.og, row_kept h.fv (fun k hb => ?_), fun b hb => .inl (h.ofv b hb), h.len, fun i b v f h1 h2 => ?_, h.inj, map_kept h.nm (hk _ (ne_of_obj hn h.blk (by simp)) (blk_lt hn) (hnem _ _ _ hn)), map_kept h.dm (hk _ (ne_of_obj hd h.blk (by simp)) (blk_lt hd) (hnem _ _ _ hd)), ⟨.inl h.om.1, .inl h.om.2.1, h.om.2.2⟩,
    ?_, fun b hb => ?_, ?_, h.ln, h.ld, fun x hx => ?_⟩, ?_⟩
  · obtain ⟨hl, cells, hc⟩ := row_typed h.fv k hb
    exact hk k (ne_of_type hc h.blk (by decide)) hl (hne k _ _ hc (by decide))
  · obtain ⟨q1, q2, q3, q4, q5⟩ := h.file i b v f h1 h2
    refine ⟨(hk b (ne_of_type q1 h.blk (by decide)) (blk_lt q1) (hne b _ _ q1 (by decide))).trans q1, .inl q2, q3.step (fun k hb => ?_) (fun _ h => .inl h), q4, q5⟩
    obtain ⟨o1, o2, cells, hc⟩ := q3.own k hb
    exact hk k (ne_of_type hc h.blk (by decide)) o2 (hne k _ _ hc (by decide))
  · have := row_kept (w' := W.setCell ⟨g, 6, none⟩ cv) hr (fun b hb => hset b (hcg b hb))
    simpa using this
  · rcases hat with e | ⟨b', e, hb'⟩
    · exact .inl (h.ocv b (by rw [← e]; exact hb))
    · rw [e] at hb
      injection hb with hb
      subst hb
      exact .inr ⟨hb', by rw [hsz]; exact (row_typed hr _ e).1⟩
  · have := h.bnd
    refine ⟨this.1, ?_, this.2.2.1, ?_⟩
    · rw [List.length_append, List.length_singleton]
      show S.changes.length + 1 ≤ S.ops
      omega
    · rw [List.length_append, List.length_singleton]
      exact hops
  · rcases List.mem_append.1 hx with hx | hx
    · exact h.lc x hx
    · rw [List.mem_singleton.1 hx]; exact hc
  · exact (Turn.grown hg (fun k hk => h.ocv k hk)).trans (Turn.set g 6 cv h.og) (fun _ h => .inl h)
end Go.Proofs.YtnnlmackofopeaaDoor.Fs
