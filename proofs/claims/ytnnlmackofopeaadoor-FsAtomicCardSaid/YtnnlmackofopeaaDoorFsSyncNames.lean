/- The names are others; contract of (*Fs).SyncNames. -/
import Derived.Test.YtnnlmackofopeaaDoorFsSync
import Derived.Test.YtnnlmackofopeaaDoorLay
namespace Go.Proofs.YtnnlmackofopeaaDoor.Fs
open Go.RowKit Go.Lib Go.Maps Go.Shelf Go.Proofs.YtnnlmackofopeaaDoorW.PrintWords Go.Proofs.YtnnlmackofopeaaDoorW.PrintLast Go.Proofs.YtnnlmackofopeaaDoorW.PrintMore
set_option linter.unusedVariables false
set_option linter.unusedSimpArgs false
theorem FsAt.maps {w W : World} {own own' : Nat → Prop} {g : Nat} {S : FsS} {G : FsG} (h : FsAt w own g S G) (lim : Bool) (nb db nn dn : Nat) (N D : Names)
    (hblk : W.heap[g]? = some (.cells #[.int .i64 S.quota, .int .i64 S.left, .bool lim, G.fv, .map (some nb), .map (some db), .slice none 0 0] 65 (0, 0)))
    (hk : ∀ k, k ≠ g → k < w.heap.size → own k → W.heap[k]? = w.heap[k]?) (ho : ∀ k, own k → own' k)
    (hnm : W.ownsMap Tryd.prog 9 (plainElem Tryd.prog 3) nb nn N) (hdm : W.ownsMap Tryd.prog 9 (plainElem Tryd.prog 3) db dn D) (hon : own' nb) (hod : own' db) (hne : nb ≠ db) (hnn : nn ≤ S.ops) (hdn : dn ≤ S.ops) (hln : Leads N S.files.length) (hld : Leads D S.files.length) :
    FsAt W own' g { S with limited := lim, names := N, durable := D, changes := [] } { G with nb := nb, nn := nn, db := db, dn := dn, cv := .slice none 0 0 } := by
  refine ⟨hblk, ho g h.og, row_kept h.fv (fun k hb => ?_), fun b hb => ho b (h.ofv b hb), h.len, fun i b v f h1 h2 => ?_, h.inj, hnm, hdm, ⟨hon, hod, hne⟩,
    ⟨rfl, .inl ⟨rfl, rfl⟩⟩, fun b hb => by simp [Value.ownBlock] at hb, ⟨h.bnd.1, Nat.zero_le _, hnn, by show dn + ([] : List Chg).length ≤ S.ops; simpa using hdn⟩, hln, hld, fun c hc => by simp at hc⟩
  · obtain ⟨hl, cells, hc⟩ := row_typed h.fv k hb
    exact hk k (ne_of_type hc h.blk (by decide)) hl (h.ofv k hb)
  · obtain ⟨q1, q2, q3, q4, q5⟩ := h.file i b v f h1 h2
    refine ⟨(hk b (ne_of_type q1 h.blk (by decide)) (blk_lt q1) q2).trans q1, ho b q2, q3.step (fun k hb => ?_) ho, q4, q5⟩
    obtain ⟨o1, o2, cells, hc⟩ := q3.own k hb
    exact hk k (ne_of_type hc h.blk (by decide)) o2 o1
def FsS.syncNames (S : FsS) : Int × FsS := if S.stops = true then (11, S) else (0, { S.tick with durable := S.names, changes := [] })
theorem beginC_none (S : FsS) : S.beginC [] = if S.stops = true then 11 else 0 := by
  unfold FsS.beginC
  simp
set_option maxHeartbeats 4000000 in
set_option maxRecDepth 100000 in
theorem syncNames_calls (w : World) (own : Nat → Prop) (g : Nat) (S : FsS) (hS : FsIs w own g S) (hu : Under own w) :
    Calls Tryd.prog 23 #[.pointer (some ⟨g, 0, none⟩)] w fun e w' => e = .returned (.int .i64 S.syncNames.1) ∧ FsIs w' (More own w w') g S.syncNames.2 ∧ Turn own w w' := by
  have hbg := begin_calls none 0 [] w own g S hS (SR.nil _ _) (by simp) (fun ad e => by simp at e)
  have HU := Aside0.mk hu
  obtain ⟨C, hC⟩ : ∃ C, C = S.beginC [] := ⟨_, rfl⟩
  obtain ⟨T, hT⟩ : ∃ T, T = S.beginT := ⟨_, rfl⟩
  rw [← hC, ← hT, List.length_nil] at hbg
  clear hS hu
  cases hs : S.stops with
  | true =>
    have hC11 : C = 11 := by rw [hC, beginC_none, hs]; rfl
    have ER := Aside0.mk (show S.syncNames = (11, T) by unfold FsS.syncNames; rw [hT, hs, if_pos rfl]; unfold FsS.beginT; rw [hs, if_pos rfl])
    subst hC11
    clear hC hT hs
    go_enter Tryd.func23, Tryd.ntmps23
    go_wp2_with (go_at_call 41; refine hbg.mono ?_; rintro e w1 ⟨rfl, hI, ht⟩; have HI1 := Aside0.mk hI; have HT1 := Aside0.mk ht; clear hI ht hbg)
    go_ret
    exact ⟨by rw [ER.out]; rfl, by rw [ER.out]; exact HI1.out.mono (fun k hk => .inl hk), HT1.out⟩
  | false =>
    have hC0 : C = 0 := by rw [hC, beginC_none, hs]; rfl
    have hTk : T = S.tick := by rw [hT]; unfold FsS.beginT; rw [hs]; rfl
    have hnm : T.names = S.names := by rw [hT]; exact (beginT_files S).2.2.1
    have ER := Aside0.mk (show S.syncNames = (0, { T with durable := T.names, changes := [] }) by unfold FsS.syncNames; rw [hs, hTk] at *; rw [← hnm]; rfl)
    subst hC0
    clear hC hT hs hTk hnm
    go_enter Tryd.func23, Tryd.ntmps23
    go_upto_region 3 with (go_at_call 41; refine hbg.mono ?_; rintro e w1 ⟨rfl, hI, ht⟩; have HI1 := Aside0.mk hI; have HT1 := Aside0.mk ht; clear hI ht hbg)
    obtain ⟨G, hG⟩ := HI1.out
    have c4 : w1.cell? ⟨g, 4, none⟩ = some (.map (some G.nb)) := blk_cell hG.blk 4
    have HG := Aside0.mk hG
    have hcl := AnyW.maps_Clone_owns Tryd.cloneA 9 (plainElem Tryd.prog 3) G.nb G.nn T.names w1 hG.nm
    change Calls Tryd.prog 37 _ _ _ at hcl
    have HU1 := Aside0.mk (show Under own w1 from fun k hk => Nat.lt_of_lt_of_le (HU.out k hk) HT1.out.size)
    clear hG
    go_upto_region 4 with (go_at_call 37; refine hcl.mono ?_; rintro e w2 ⟨rfl, hm1, hm2, hb⟩; have HB2 := Aside0.mk hb; have HM1 := Aside0.mk hm1; have HM2 := Aside0.mk hm2; have c5 : w2.cell? ⟨g, 5, none⟩ = some (.map (some G.db)) := blk_cell (blk_below HG.out.blk HB2.out) 5; have f5 := blk_frozen (blk_below HG.out.blk HB2.out) 5; have f6 := blk_frozen (blk_below HG.out.blk HB2.out) 6; have c6 : w2.cell? ⟨g, 6, none⟩ = some G.cv := blk_cell (blk_below HG.out.blk HB2.out) 6; clear hb hm1 hm2 hcl)
    have hbl := blk_put (w := w2.setCell ⟨g, 5, none⟩ (.map (some w1.heap.size))) (blk_put (blk_below HG.out.blk HB2.out) 5 _ rfl) 6 (.slice none 0 0) rfl
    have hset : ∀ k, k ≠ g → ((w2.setCell ⟨g, 5, none⟩ (.map (some w1.heap.size))).setCell ⟨g, 6, none⟩ (.slice none 0 0)).heap[k]? = w2.heap[k]? := fun k hk => (Below.heap_setCell _ ⟨g, 6, none⟩ _ k hk).trans (Below.heap_setCell _ ⟨g, 5, none⟩ _ k hk)
    have hlt := blk_lt HG.out.blk
    have hnlt := HG.out.nm.lt
    obtain ⟨es, cl, hnb⟩ := map_blk HG.out.nm
    have hng := ne_of_obj hnb HG.out.blk (by simp)
    have hsz : w1.heap.size < w2.heap.size := HM1.out.lt
    have HX := Aside0.mk (HG.out.maps (W := (w2.setCell ⟨g, 5, none⟩ (.map (some w1.heap.size))).setCell ⟨g, 6, none⟩ (.slice none 0 0)) (own' := More own w1 w2) T.limited G.nb w1.heap.size G.nn G.nn T.names T.names hbl
      (fun k hk hl _ => (hset k hk).trans (HB2.out.block k hl)) (fun _ h => .inl h) (map_kept HM2.out (hset _ hng)) (map_kept HM1.out (hset _ (by omega))) (.inl HG.out.om.1) (.inr ⟨Nat.le_refl _, hsz⟩) (by omega) HG.out.bnd.2.2.1 HG.out.bnd.2.2.1 HG.out.ln HG.out.ln)
    have HT2 := Aside0.mk (((HT1.out.then_below HB2.out).trans (Turn.set (own := own) g 5 (.map (some w1.heap.size)) HG.out.og) (fun _ h => .inl h)).trans (Turn.set (own := own) g 6 (.slice none 0 0) HG.out.og) (fun _ h => .inl h))
    have HS := Aside0.mk (show ((w2.setCell ⟨g, 5, none⟩ (.map (some w1.heap.size))).setCell ⟨g, 6, none⟩ (.slice none 0 0)).heap.size = w2.heap.size by rw [World.size_setCell, World.size_setCell])
    clear hbl hset hlt hnlt hnb hng hsz
    go_wp2
    go_ret
    refine ⟨by rw [ER.out]; rfl, ?_, HT2.out⟩
    rw [ER.out]
    refine FsIs.mono ⟨_, HX.out⟩ (fun k hk => ?_)
    rcases hk with hk | hk
    · exact .inl hk
    · exact .inr ⟨Nat.le_trans HT1.out.size hk.1, by rw [HS.out]; exact hk.2⟩
end Go.Proofs.YtnnlmackofopeaaDoor.Fs
