/- A file is written; contract of (*Fs).Sync. -/
import Derived.Test.YtnnlmackofopeaaDoorFsA
import Derived.Test.YtnnlmackofopeaaDoorLay
import Derived.Maps.RangeWalk
import Derived.Deep.Upon
namespace Go.Proofs.YtnnlmackofopeaaDoor.Fs
open Go.RowKit Go.Lib Go.Maps Go.Proofs.YtnnlmackofopeaaDoorW.PrintWords Go.Proofs.YtnnlmackofopeaaDoorW.PrintLast Go.Proofs.YtnnlmackofopeaaDoorW.PrintMore
set_option linter.unusedVariables false
set_option linter.unusedSimpArgs false
/-- One file is another. -/
def FsS.upd (S : FsS) (i : Nat) (F : List Int × Nat → List Int × Nat) : FsS := { S with files := S.files.modify i F }
theorem upd_map {l : List (Nat × Value)} {i b : Nat} {v v' : Value} (h : l[i]? = some (b, v)) : (l.set i (b, v')).map (fun x => ptr x.1) = l.map (fun x => ptr x.1) := by
  refine List.ext_getElem? fun j => ?_
  rw [List.getElem?_map, List.getElem?_map, List.getElem?_set]
  by_cases e : i = j
  · subst e
    rw [if_pos rfl, h]
    obtain ⟨hl, _⟩ := List.getElem?_eq_some_iff.1 h
    rw [if_pos hl]
    rfl
  · rw [if_neg e]
theorem FsAt.setFile {w w' : World} {own own' : Nat → Prop} {g : Nat} {S : FsS} {G : FsG} (h : FsAt w own g S G) (i b : Nat) (v : Value) (f : List Int × Nat) (h1 : G.fs[i]? = some (b, v)) (h2 : S.files[i]? = some f)
    (v' : Value) (F : List Int × Nat → List Int × Nat) (D : Nat) (hb : w'.heap[b]? = some (.cells #[v', .int .i64 ((F f).2 : Int)] 70 (0, 0))) (hd : DRow w' own' v' (F f).1) (ho : ∀ k, own k → own' k) (hs : (F f).2 ≤ (F f).1.length) (hD : (F f).1.length ≤ D) (hD2 : S.dat ≤ D)
    (hk : ∀ k, k < w.heap.size → own k → k ≠ b → some k ≠ v.ownBlock → w'.heap[k]? = w.heap[k]?) (hn : ∀ k, v'.ownBlock = some k → v.ownBlock = some k ∨ w.heap.size ≤ k) :
    FsAt w' own' g { S.upd i F with dat := D } { G with fs := G.fs.set i (b, v') } := by
  obtain ⟨es, cl, hnm⟩ := map_blk h.nm
  obtain ⟨es', cl', hdm⟩ := map_blk h.dm
  obtain ⟨q1, q2, q3, q4, q5⟩ := h.file i b v f h1 h2
  have hty : ∀ k cells t, w.heap[k]? = some (.cells cells t (0, 0)) → t ≠ 5 → some k ≠ v.ownBlock := fun k cells t hk ht e => by
    obtain ⟨_, _, cells', hc'⟩ := q3.own k e.symm
    exact ne_of_type hk hc' ht rfl
  have htm : ∀ k es cl, w.heap[k]? = some (.map es cl) → some k ≠ v.ownBlock := fun k es cl hk e => by
    obtain ⟨_, _, cells', hc'⟩ := q3.own k e.symm
    exact ne_of_obj hk hc' (by simp) rfl
  have hcell : ∀ k cells t, w.heap[k]? = some (.cells cells t (0, 0)) → own k → t ≠ 5 → t ≠ 70 → w'.heap[k]? = w.heap[k]? := fun k cells t hc hw h5 h70 => hk k (blk_lt hc) hw (ne_of_type hc q1 h70) (hty k cells t hc h5)
  have hmap : ∀ k es cl, w.heap[k]? = some (.map es cl) → own k → w'.heap[k]? = w.heap[k]? := fun k es cl hc hw => hk k (blk_lt hc) hw (ne_of_obj hc q1 (by simp)) (htm k es cl hc)
  have hil : i < G.fs.length := (List.getElem?_eq_some_iff.1 h1).1
  have hget : ∀ (j : Nat) (x : Nat × Value), (G.fs.set i (b, v'))[j]? = some x → (j = i ∧ x = (b, v')) ∨ (j ≠ i ∧ G.fs[j]? = some x) := fun j x hj => by
    rw [List.getElem?_set] at hj
    by_cases e : i = j
    · rw [if_pos e] at hj
      subst e
      rw [if_pos hil] at hj
      exact .inl ⟨rfl, (Option.some.inj hj).symm⟩
    · rw [if_neg e] at hj
      exact .inr ⟨fun e2 => e e2.symm, hj⟩
  have hlen : (S.files.modify i F).length = S.files.length := List.length_modify ..
  refine ⟨(hcell g _ _ h.blk h.og (by decide) (by decide)).trans h.blk, ho g h.og, ?_, fun b hb => ho b (h.ofv b hb), ?_, fun j c u fj hj1 hj2 => ?_, fun j k x y hx hy hjk => ?_, map_kept h.nm (hmap _ _ _ hnm h.om.1), map_kept h.dm (hmap _ _ _ hdm h.om.2.1), ⟨ho _ h.om.1, ho _ h.om.2.1, h.om.2.2⟩,
    row_kept h.cv (fun k hb => ?_), fun b hb => ho b (h.ocv b hb), ?_, ?_, ?_, fun c hc => ?_⟩
  · show w'.ownsRow 0 68 1 G.fv (S.files.modify i F).length ((G.fs.set i (b, v')).map (fun x => ptr x.1))
    rw [upd_map h1, hlen]
    exact row_kept h.fv (fun k hb => by
      obtain ⟨hl, cells, hc⟩ := row_typed h.fv k hb
      exact hcell k _ _ hc (h.ofv k hb) (by decide) (by decide))
  · show (G.fs.set i (b, v')).length = (S.files.modify i F).length
    rw [hlen, List.length_set]
    exact h.len
  · have hj2' : (S.files.modify i F)[j]? = some fj := hj2
    rw [List.getElem?_modify] at hj2'
    rcases hget j (c, u) hj1 with ⟨e, hx⟩ | ⟨e, hx⟩
    · subst e
      rw [h2] at hj2'
      simp only [if_true, Option.map_eq_map, Option.map_some, Option.some.injEq] at hj2'
      obtain ⟨rfl, rfl⟩ := Prod.mk.inj hx
      subst hj2'
      exact ⟨hb, ho _ q2, hd, hs, hD⟩
    · have hj3 : S.files[j]? = some fj := by
        simpa [show i ≠ j from fun e2 => e e2.symm] using hj2'
      obtain ⟨r1, r2, r3, r4, r5⟩ := h.file j c u fj hx hj3
      have hne := h.inj j i (c, u) (b, v) hx h1 e
      refine ⟨(hk c (blk_lt r1) r2 hne.1 (hty c _ _ r1 (by decide))).trans r1, ho _ r2, r3.step (fun k hb => ?_) ho, r4, Nat.le_trans r5 hD2⟩
      obtain ⟨o1, o2, cells, hc⟩ := r3.own k hb
      exact hk k o2 o1 (ne_of_type hc q1 (by decide)) (fun e2 => hne.2 k hb e2.symm)
  · rcases hget j x hx with ⟨e1, rfl⟩ | ⟨e1, hxx⟩ <;> rcases hget k y hy with ⟨e2, rfl⟩ | ⟨e2, hyy⟩
    · omega
    · subst e1
      have hne := h.inj j k (b, v) y h1 hyy hjk
      refine ⟨hne.1, fun q hq => ?_⟩
      rcases hn q hq with hq | hq
      · exact hne.2 q hq
      · intro e3
        obtain ⟨fy, hfy⟩ : ∃ fy, S.files[k]? = some fy := ⟨_, List.getElem?_eq_getElem (by rw [← h.len]; exact (List.getElem?_eq_some_iff.1 hyy).1)⟩
        have := ((h.file k y.1 y.2 fy hyy hfy).2.2.1.own q e3).2.1
        omega
    · subst e2
      have hne := h.inj j k x (b, v) hxx h1 hjk
      refine ⟨hne.1, fun q hq e3 => ?_⟩
      rcases hn q e3 with hq2 | hq2
      · exact hne.2 q hq hq2
      · obtain ⟨fy, hfy⟩ : ∃ fy, S.files[j]? = some fy := ⟨_, List.getElem?_eq_getElem (by rw [← h.len]; exact (List.getElem?_eq_some_iff.1 hxx).1)⟩
        have := ((h.file j x.1 x.2 fy hxx hfy).2.2.1.own q hq).2.1
        omega
    · exact h.inj j k x y hxx hyy hjk
  · obtain ⟨hl, cells, hc⟩ := row_typed h.cv k hb
    exact hcell k _ _ hc (h.ocv k hb) (by decide) (by decide)
  · show (S.files.modify i F).length ≤ S.ops ∧ _
    rw [hlen]
    exact h.bnd
  · show Leads S.names (S.files.modify i F).length
    rw [hlen]
    exact h.ln
  · show Leads S.durable (S.files.modify i F).length
    rw [hlen]
    exact h.ld
  · show c.okL (S.files.modify i F).length
    rw [hlen]
    exact h.lc c hc
def FsS.sync (S : FsS) (n : ByteArray) : Int × FsS :=
  if S.beginC [n] = 0 then (match S.at_ n with | some i => (0, S.beginT.upd i (fun f => (f.1, f.1.length))) | none => (7, S.beginT)) else (S.beginC [n], S.beginT)
set_option maxHeartbeats 4000000 in
set_option maxRecDepth 100000 in
theorem sync_calls (n : ByteArray) (w : World) (own : Nat → Prop) (g : Nat) (S : FsS) (hS : FsIs w own g S) (hu : Under own w) (hdat : S.dat ≤ 1000000000) :
    Calls Tryd.prog 25 #[.pointer (some ⟨g, 0, none⟩), .string n] w fun e w' => e = .returned (.int .i64 (S.sync n).1) ∧ FsIs w' (More own w w') g (S.sync n).2 ∧ Turn own w w' := by
  have HS0 := Aside0.mk (hS.below (below_alloc (Below.refl _ _) (.cells #[.string n] 9)))
  have hbg := begin_calls (some ⟨w.heap.size, 0, none⟩) 1 [n] _ own g S HS0.out (SR.one w n) (by simp) (fun ad e => by injection e with e; subst e; exact fun h => absurd (hu _ h) (Nat.lt_irrefl _))
  have HT0 := Aside0.mk (Turn.below (below_alloc (Below.refl w.heap.size w) (.cells #[.string n] 9)) own)
  have HU := Aside0.mk hu
  obtain ⟨C, hC⟩ : ∃ C, C = S.beginC [n] := ⟨_, rfl⟩
  obtain ⟨T, hT⟩ : ∃ T, T = S.beginT := ⟨_, rfl⟩
  rw [← hC, ← hT, List.length_singleton] at hbg
  have ET := Aside0.mk hT
  clear hS hu
  by_cases h0 : C = 0
  case neg =>
    have ER := Aside0.mk (show S.sync n = (C, T) by unfold FsS.sync; rw [← hC, if_neg h0, hT])
    have e1 : (C != 0) = true := bne_iff_ne.mpr h0
    clear hC hT h0
    go_enter Tryd.func25, Tryd.ntmps25
    go_wp2_with (go_at_call 41; refine hbg.mono ?_; rintro e w1 ⟨rfl, hI, ht⟩; have HI1 := Aside0.mk hI; have HT1 := Aside0.mk (HT0.out.trans ht (fun _ h => .inl h)); clear hI ht hbg)
    go_ret
    exact ⟨by rw [ER.out]; rfl, by rw [ER.out]; exact HI1.out.mono (fun k hk => .inl hk), HT1.out⟩
  subst h0
  have hmay : mayS n = true := by have := begin_zero hC.symm; simpa using this
  have hns := may_size hmay
  obtain ⟨f1, f2, f3, f4, f5, f6, f7, f8⟩ := beginT_files S
  rw [← hT] at f3 f4
  have hat : T.at_ n = S.at_ n := by unfold FsS.at_; rw [f3]
  have HN := Aside0.mk hns
  have HD := Aside0.mk (show T.dat ≤ 1000000000 by omega)
  cases hi : S.at_ n with
  | none =>
    have ER := Aside0.mk (show S.sync n = (7, T) by unfold FsS.sync; rw [← hC, if_pos rfl, hi, hT])
    rw [hi] at hat
    have HH := Aside0.mk hat
    clear hC hT hi hmay hns f1 f2 f3 f4 f5 f6 f7 f8 hat
    go_enter Tryd.func25, Tryd.ntmps25
    go_upto_region 4 with (go_at_call 41; refine hbg.mono ?_; rintro e w1 ⟨rfl, hI, ht⟩; have HI1 := Aside0.mk hI; have HT1 := Aside0.mk (HT0.out.trans ht (fun _ h => .inl h)); clear hI ht hbg)
    obtain ⟨G, hG⟩ := HI1.out
    have HG := Aside0.mk hG
    clear hG
    go_wp2_with (go_at_call 43; refine (of_calls n HN.out w1 own g T G HG.out).mono ?_; rintro e w2 ⟨rfl, ⟨_, rfl⟩ | ⟨i, b, v, hx, _⟩⟩; rotate_left; exact absurd hx (by rw [HH.out]; simp))
    go_ret
    exact ⟨by rw [ER.out]; rfl, by rw [ER.out]; exact HI1.out.mono (fun k hk => .inl hk), HT1.out⟩
  | some i =>
    have ER := Aside0.mk (show S.sync n = (0, T.upd i (fun f => (f.1, f.1.length))) by unfold FsS.sync; rw [← hC, if_pos rfl, hi, hT])
    rw [hi] at hat
    have HH := Aside0.mk hat
    clear hC hT hi hmay hns f1 f2 f3 f4 f5 f6 f7 f8 hat
    go_enter Tryd.func25, Tryd.ntmps25
    go_upto_region 4 with (go_at_call 41; refine hbg.mono ?_; rintro e w1 ⟨rfl, hI, ht⟩; have HI1 := Aside0.mk hI; have HT1 := Aside0.mk (HT0.out.trans ht (fun _ h => .inl h)); clear hI ht hbg)
    obtain ⟨G, hG⟩ := HI1.out
    have HG := Aside0.mk hG
    clear hG
    go_upto_region 6 with (go_at_call 43; refine (of_calls n HN.out w1 own g T G HG.out).mono ?_; rintro e w2 ⟨rfl, ⟨hx, _⟩ | ⟨i', b, v, hi', hgf, hlt, rfl⟩⟩; exact absurd HH.out (by rw [at_none hx]; simp))
    obtain rfl : i' = i := by rw [HH.out] at hi'; exact (Option.some.inj hi').symm
    obtain ⟨f, hf⟩ : ∃ f, T.files[i']? = some f := ⟨_, List.getElem?_eq_getElem hlt⟩
    obtain ⟨q1, q2, q3, q4, q5⟩ := HG.out.file i' b v f hgf hf
    obtain ⟨A, cc, rfl⟩ := q3.slice
    have c0 : w2.cell? ⟨b, 0, none⟩ = some (.slice A f.1.length cc) := blk_cell q1 0
    have c1 : w2.cell? ⟨b, 1, none⟩ = some (.int .i64 (f.2 : Int)) := blk_cell q1 1
    have fr1 := blk_frozen q1 1
    have HX := Aside0.mk (HG.out.setFile (w' := w2.setCell ⟨b, 1, none⟩ (.int .i64 (f.1.length : Int))) (own' := own) i' b _ f hgf hf (.slice A f.1.length cc) (fun f => (f.1, f.1.length)) T.dat (blk_put q1 1 _ rfl)
      (q3.step (fun k hk => Below.heap_setCell _ ⟨b, 1, none⟩ _ k (by obtain ⟨_, _, cells, hc⟩ := q3.own k hk; exact ne_of_type hc q1 (by decide))) (fun _ h => h)) (fun _ h => h) (Nat.le_refl _) q5 (Nat.le_refl _) (fun k _ _ hk _ => Below.heap_setCell _ ⟨b, 1, none⟩ _ k hk) (fun k hk => .inl hk))
    have HT2 := Aside0.mk (HT1.out.trans (Turn.set b 1 (.int .i64 (f.1.length : Int)) q2) (fun _ h => .inl h))
    clear q1 q2 q3 q4 q5 hgf hf hi' hlt
    go_wp2
    go_ret
    refine ⟨by rw [ER.out]; rfl, by rw [ER.out]; exact FsIs.mono ⟨_, HX.out⟩ (fun k hk => .inl hk), HT2.out⟩
end Go.Proofs.YtnnlmackofopeaaDoor.Fs
/- The names are others; contract of (*Fs).SyncNames. -/
namespace Go.Proofs.YtnnlmackofopeaaDoor.Fs
open Go.RowKit Go.Lib Go.Maps Go.Shelf Go.Proofs.YtnnlmackofopeaaDoorW.PrintWords Go.Proofs.YtnnlmackofopeaaDoorW.PrintLast Go.Proofs.YtnnlmackofopeaaDoorW.PrintMore
set_option linter.unusedVariables false
set_option linter.unusedSimpArgs false
theorem FsAt.maps {w W : World} {own own' : Nat → Prop} {g : Nat} {S : FsS} {G : FsG} (h : FsAt w own g S G) (lim : Bool) (nb db nn dn : Nat) (N D : Names)
    (hblk : W.heap[g]? = some (.cells #[.int .i64 S.quota, .int .i64 S.left, .bool lim, G.fv, .map (some nb), .map (some db), .slice none 0 0] 65 (0, 0)))
    (hk : ∀ k, k ≠ g → k < w.heap.size → own k → W.heap[k]? = w.heap[k]?) (ho : ∀ k, own k → own' k)
    (hnm : W.ownsMap Tryd.prog 9 (plainElem Tryd.prog 3) nb nn N) (hdm : W.ownsMap Tryd.prog 9 (plainElem Tryd.prog 3) db dn D) (hon : own' nb) (hod : own' db) (hne : nb ≠ db) (hnn : nn ≤ S.ops) (hdn : dn ≤ S.ops) (hln : Leads N S.files.length) (hld : Leads D S.files.length) :
    FsAt W own' g { S with limited := lim, names := N, durable := D, changes := [] } { G with nb := nb, nn := nn, db := db, dn := dn, cv := .slice none 0 0 } := by
  refine ⟨hblk, ho g h.og, row_kept h.fv (fun k hb => ?_), fun b hb => ho b (h.ofv b hb), h.len, fun i b v f h1 h2 => ?_, h.inj, hnm, hdm, ⟨hon, hod, hne⟩,
    ⟨rfl, .inl ⟨rfl, rfl⟩⟩, fun b hb => by simp [Value.ownBlock] at hb, ⟨h.bnd.1, Nat.zero_le _, hnn, by show dn + ([] : List Chg).length ≤ S.ops; simpa using hdn⟩, hln, hld, fun c hc => by simp at hc⟩
  · obtain ⟨hl, cells, hc⟩ := row_typed h.fv k hb
    exact hk k (ne_of_type hc h.blk (by decide)) hl (h.ofv k hb)
  · obtain ⟨q1, q2, q3, q4, q5⟩ := h.file i b v f h1 h2
    refine ⟨(hk b (ne_of_type q1 h.blk (by decide)) (blk_lt q1) q2).trans q1, ho b q2, q3.step (fun k hb => ?_) ho, q4, q5⟩
    obtain ⟨o1, o2, cells, hc⟩ := q3.own k hb
    exact hk k (ne_of_type hc h.blk (by decide)) o2 o1
def FsS.syncNames (S : FsS) : Int × FsS := if S.stops = true then (11, S) else (0, { S.tick with durable := S.names, changes := [] })
theorem beginC_none (S : FsS) : S.beginC [] = if S.stops = true then 11 else 0 := by
  unfold FsS.beginC
  simp
set_option maxHeartbeats 4000000 in
set_option maxRecDepth 100000 in
theorem syncNames_calls (w : World) (own : Nat → Prop) (g : Nat) (S : FsS) (hS : FsIs w own g S) (hu : Under own w) :
    Calls Tryd.prog 23 #[.pointer (some ⟨g, 0, none⟩)] w fun e w' => e = .returned (.int .i64 S.syncNames.1) ∧ FsIs w' (More own w w') g S.syncNames.2 ∧ Turn own w w' := by
  have hbg := begin_calls none 0 [] w own g S hS (SR.nil _ _) (by simp) (fun ad e => by simp at e)
  have HU := Aside0.mk hu
  obtain ⟨C, hC⟩ : ∃ C, C = S.beginC [] := ⟨_, rfl⟩
  obtain ⟨T, hT⟩ : ∃ T, T = S.beginT := ⟨_, rfl⟩
  rw [← hC, ← hT, List.length_nil] at hbg
  clear hS hu
  cases hs : S.stops with
  | true =>
    have hC11 : C = 11 := by rw [hC, beginC_none, hs]; rfl
    have ER := Aside0.mk (show S.syncNames = (11, T) by unfold FsS.syncNames; rw [hT, hs, if_pos rfl]; unfold FsS.beginT; rw [hs, if_pos rfl])
    subst hC11
    clear hC hT hs
    go_enter Tryd.func23, Tryd.ntmps23
    go_wp2_with (go_at_call 41; refine hbg.mono ?_; rintro e w1 ⟨rfl, hI, ht⟩; have HI1 := Aside0.mk hI; have HT1 := Aside0.mk ht; clear hI ht hbg)
    go_ret
    exact ⟨by rw [ER.out]; rfl, by rw [ER.out]; exact HI1.out.mono (fun k hk => .inl hk), HT1.out⟩
  | false =>
    have hC0 : C = 0 := by rw [hC, beginC_none, hs]; rfl
    have hTk : T = S.tick := by rw [hT]; unfold FsS.beginT; rw [hs]; rfl
    have hnm : T.names = S.names := by rw [hT]; exact (beginT_files S).2.2.1
    have ER := Aside0.mk (show S.syncNames = (0, { T with durable := T.names, changes := [] }) by unfold FsS.syncNames; rw [hs, hTk] at *; rw [← hnm]; rfl)
    subst hC0
    clear hC hT hs hTk hnm
    go_enter Tryd.func23, Tryd.ntmps23
    go_upto_region 3 with (go_at_call 41; refine hbg.mono ?_; rintro e w1 ⟨rfl, hI, ht⟩; have HI1 := Aside0.mk hI; have HT1 := Aside0.mk ht; clear hI ht hbg)
    obtain ⟨G, hG⟩ := HI1.out
    have c4 : w1.cell? ⟨g, 4, none⟩ = some (.map (some G.nb)) := blk_cell hG.blk 4
    have HG := Aside0.mk hG
    have hcl := AnyW.maps_Clone_owns Tryd.cloneA 9 (plainElem Tryd.prog 3) G.nb G.nn T.names w1 hG.nm
    change Calls Tryd.prog 37 _ _ _ at hcl
    have HU1 := Aside0.mk (show Under own w1 from fun k hk => Nat.lt_of_lt_of_le (HU.out k hk) HT1.out.size)
    clear hG
    go_upto_region 4 with (go_at_call 37; refine hcl.mono ?_; rintro e w2 ⟨rfl, hm1, hm2, hb⟩; have HB2 := Aside0.mk hb; have HM1 := Aside0.mk hm1; have HM2 := Aside0.mk hm2; have c5 : w2.cell? ⟨g, 5, none⟩ = some (.map (some G.db)) := blk_cell (blk_below HG.out.blk HB2.out) 5; have f5 := blk_frozen (blk_below HG.out.blk HB2.out) 5; have f6 := blk_frozen (blk_below HG.out.blk HB2.out) 6; have c6 : w2.cell? ⟨g, 6, none⟩ = some G.cv := blk_cell (blk_below HG.out.blk HB2.out) 6; clear hb hm1 hm2 hcl)
    have hbl := blk_put (w := w2.setCell ⟨g, 5, none⟩ (.map (some w1.heap.size))) (blk_put (blk_below HG.out.blk HB2.out) 5 _ rfl) 6 (.slice none 0 0) rfl
    have hset : ∀ k, k ≠ g → ((w2.setCell ⟨g, 5, none⟩ (.map (some w1.heap.size))).setCell ⟨g, 6, none⟩ (.slice none 0 0)).heap[k]? = w2.heap[k]? := fun k hk => (Below.heap_setCell _ ⟨g, 6, none⟩ _ k hk).trans (Below.heap_setCell _ ⟨g, 5, none⟩ _ k hk)
    have hlt := blk_lt HG.out.blk
    have hnlt := HG.out.nm.lt
    obtain ⟨es, cl, hnb⟩ := map_blk HG.out.nm
    have hng := ne_of_obj hnb HG.out.blk (by simp)
    have hsz : w1.heap.size < w2.heap.size := HM1.out.lt
    have HX := Aside0.mk (HG.out.maps (W := (w2.setCell ⟨g, 5, none⟩ (.map (some w1.heap.size))).setCell ⟨g, 6, none⟩ (.slice none 0 0)) (own' := More own w1 w2) T.limited G.nb w1.heap.size G.nn G.nn T.names T.names hbl
      (fun k hk hl _ => (hset k hk).trans (HB2.out.block k hl)) (fun _ h => .inl h) (map_kept HM2.out (hset _ hng)) (map_kept HM1.out (hset _ (by omega))) (.inl HG.out.om.1) (.inr ⟨Nat.le_refl _, hsz⟩) (by omega) HG.out.bnd.2.2.1 HG.out.bnd.2.2.1 HG.out.ln HG.out.ln)
    have HT2 := Aside0.mk (((HT1.out.then_below HB2.out).trans (Turn.set (own := own) g 5 (.map (some w1.heap.size)) HG.out.og) (fun _ h => .inl h)).trans (Turn.set (own := own) g 6 (.slice none 0 0) HG.out.og) (fun _ h => .inl h))
    have HS := Aside0.mk (show ((w2.setCell ⟨g, 5, none⟩ (.map (some w1.heap.size))).setCell ⟨g, 6, none⟩ (.slice none 0 0)).heap.size = w2.heap.size by rw [World.size_setCell, World.size_setCell])
    clear hbl hset hlt hnlt hnb hng hsz
    go_wp2
    go_ret
    refine ⟨by rw [ER.out]; rfl, ?_, HT2.out⟩
    rw [ER.out]
    refine FsIs.mono ⟨_, HX.out⟩ (fun k hk => ?_)
    rcases hk with hk | hk
    · exact .inl hk
    · exact .inr ⟨Nat.le_trans HT1.out.size hk.1, by rw [HS.out]; exact hk.2⟩
end Go.Proofs.YtnnlmackofopeaaDoor.Fs
/- Contract of (*Fs).Used. -/
namespace Go.Proofs.YtnnlmackofopeaaDoor.Fs
open Go.RowKit Go.Lib Go.Maps Go.Shelf Go.Proofs.YtnnlmackofopeaaDoorW.PrintWords Go.Proofs.YtnnlmackofopeaaDoorW.PrintLast Go.Proofs.YtnnlmackofopeaaDoorW.PrintMore
set_option linter.unusedVariables false
set_option linter.unusedSimpArgs false
def fileLen (fs : List (List Int × Nat)) : Names → Nat
  | .lit (.int .i64 i) => ((fs[i.toNat]?).map (fun f => f.1.length)).getD 0
  | _ => 0
def sumL (fs : List (List Int × Nat)) (left : Lit → Bool) (es : List (Lit × Names)) : Nat := ((es.filter (fun p => left p.1)).map (fun p => fileLen fs p.2)).sum
def entries : Names → List (Lit × Names)
  | .map es => es
  | _ => []
def FsS.used (S : FsS) : Nat := sumL S.files (has S.names) (entries S.names)
theorem sumL_none {fs : List (List Int × Nat)} {left : Lit → Bool} (es : List (Lit × Names)) (h : ∀ k, left k = false) : sumL fs left es = 0 := by
  unfold sumL
  rw [List.filter_eq_nil_iff.2 (fun p _ => by rw [h]; decide)]
  rfl
theorem sumL_step {fs : List (List Int × Nat)} {left : Lit → Bool} {kl : Lit} (hs : kl.sameKey kl = true) (hl : left kl = true) : ∀ {es : List (Lit × Names)} {p0 : Lit × Names}, es.Pairwise (fun p q => p.1 ≠ q.1) → p0 ∈ es → p0.1 = kl →
    sumL fs left es = fileLen fs p0.2 + sumL fs (fun z => left z && !z.sameKey kl) es
  | [], p0, _, hm, _ => by simp at hm
  | p :: r, p0, hp, hm, hk => by
    obtain ⟨h1, h2⟩ := List.pairwise_cons.1 hp
    unfold sumL
    rcases List.mem_cons.1 hm with e | hm
    · subst e
      have hr : r.filter (fun p => left p.1 && !p.1.sameKey kl) = r.filter (fun p => left p.1) := List.filter_congr fun q hq => by
        have : q.1.sameKey kl = false := sameKey_ne (fun e => h1 q hq (by rw [hk, e]))
        rw [this]
        simp
      rw [List.filter_cons_of_pos (by rw [hk]; exact hl), List.filter_cons_of_neg (by show ¬ ((left p0.1 && !p0.1.sameKey kl) = true); rw [hk, hs]; simp), hr]
      simp
    · have hne : p.1 ≠ kl := fun e => h1 p0 hm (by rw [e, hk])
      have ih := sumL_step (fs := fs) hs hl h2 hm hk
      unfold sumL at ih
      cases hlp : left p.1 with
      | true =>
        rw [List.filter_cons_of_pos (p := fun p : Lit × Names => left p.1) hlp, List.filter_cons_of_pos (by show (left p.1 && !p.1.sameKey kl) = true; rw [hlp, sameKey_ne hne]; rfl)]
        simp only [List.map_cons, List.sum_cons, ih]
        omega
      | false =>
        rw [List.filter_cons_of_neg (p := fun p : Lit × Names => left p.1) (by rw [hlp]; decide), List.filter_cons_of_neg (by show ¬ ((left p.1 && !p.1.sameKey kl) = true); rw [hlp]; simp)]
        exact ih
theorem sumL_le {fs : List (List Int × Nat)} {m : Nat} (hm : ∀ f ∈ fs, f.1.length ≤ m) (left : Lit → Bool) : ∀ es : List (Lit × Names), sumL fs left es ≤ es.length * m
  | [] => by simp [sumL]
  | p :: r => by
    have ih := sumL_le hm left r
    have hf : fileLen fs p.2 ≤ m := by
      unfold fileLen
      split
      · rename_i i _
        cases h : fs[i.toNat]? with
        | none => simp
        | some f => simpa using hm f (List.mem_of_getElem? h)
      · exact Nat.zero_le _
    have e1 : (p :: r).length * m = m + r.length * m := by rw [List.length_cons, Nat.succ_mul]; omega
    unfold sumL at ih ⊢
    rw [e1]
    cases hlp : left p.1 with
    | true =>
      rw [List.filter_cons_of_pos (p := fun p : Lit × Names => left p.1) hlp]
      simp only [List.map_cons, List.sum_cons]
      omega
    | false =>
      rw [List.filter_cons_of_neg (p := fun p : Lit × Names => left p.1) (by rw [hlp]; decide)]
      omega
theorem entry_of {D : Names} (hD : IsMap D) {kl : Lit} {z y : Names} (h : has D kl = true) (ha : D.atKey kl z = y) : ∃ p ∈ entries D, p.1 = kl ∧ p.2 = y := by
  obtain ⟨es, rfl⟩ := hD
  rw [has_eq, List.any_eq_true] at h
  obtain ⟨q, hq, hs⟩ := h
  cases hf : es.find? (fun p => p.1.sameKey kl) with
  | none =>
    have := List.find?_eq_none.1 hf q hq
    exact absurd hs (by simpa using this)
  | some p =>
    have ha' : p.2 = y := by
      simpa only [DataW.atKey, hf] using ha
    have hp := List.find?_some hf
    exact ⟨p, List.mem_of_find?_eq_some hf, WideAt.sameKey_eq (by simpa using hp), ha'⟩
theorem FsAt.lens {w : World} {own : Nat → Prop} {g : Nat} {S : FsS} {G : FsG} (h : FsAt w own g S G) : ∀ f ∈ S.files, f.1.length ≤ S.dat := fun f hf => by
  obtain ⟨i, hi, rfl⟩ := List.mem_iff_getElem.1 hf
  have hi2 : i < G.fs.length := by rw [h.len]; exact hi
  exact (h.file i _ _ _ (List.getElem?_eq_getElem hi2) (List.getElem?_eq_getElem hi)).2.2.2.2
theorem entries_length (D : Names) : (entries D).length = Maps.size D := by
  cases D <;> rfl
theorem FsAt.used_le {w : World} {own : Nat → Prop} {g : Nat} {S : FsS} {G : FsG} (h : FsAt w own g S G) : S.used ≤ S.ops * S.dat := by
  have h1 := sumL_le h.lens (has S.names) (entries S.names)
  rw [entries_length] at h1
  refine Nat.le_trans h1 (Nat.mul_le_mul_right _ (Nat.le_trans h.nm.size_le h.bnd.2.2.1))
/-- The range's step: keys of string, elements of int. -/
theorem wpList_next_ranges_si {H : Type} {P : Program} (w : World) {ops : Array Oper} {rest : List Oper} {o : Oper} {a : Act} {Q : Exit → Act → World → Prop}
    (hg : o.guard = none) (it : Operand) (hop : o.op = Op.next it false) (k e : TypeId) (qe : IntKind) (K : Keyed P k) (hk : P.underlying k = some .string) (he : P.underlying e = some (.int qe))
    (b r n : Nat) (D : DataW H) (left : Lit → Bool) (cnt : Nat) (hit : a.eval it = .pointer (some ⟨r, 0, none⟩)) (h : w.ranges P k (plainElem P e) b r n D left cnt)
    (hDone : cnt = 0 → (∀ kl, left kl = false) → wpList P ops Q rest (a.put o.dst (.tuple #[.bool false])) w)
    (hMore : ∀ (x : ByteArray) (c : Int) (w' : World) (cnt' : Nat), x.size ≤ maxLen → (Lit.int qe c).wf = true → left (kl x) = true → (∀ zd, D.atKey (kl x) zd = .lit (.int qe c)) → w'.ranges P k (plainElem P e) b r n D (fun z => left z && !z.sameKey (kl x)) cnt' → cnt' < cnt →
      w.grownBy w' (some r) → w'.heap.size = w.heap.size → (Instr.entry (.pointer (some ⟨r, 0, none⟩))).run P w' = .ok (.tuple #[.string x, .int qe c]) w' → wpList P ops Q rest (a.put o.dst (.tuple #[.bool true, .string x, .int qe c])) w') :
    wpList P ops Q (o :: rest) a w :=
  wpList_next_ranges w hg it hop k K (plainElem P e) Value.string (Value.int qe) (fun key kl hkey => by obtain ⟨x, rfl, _⟩ := WideMaps.string_of_keyOf hk hkey; exact ⟨x, rfl⟩) (fun v y hv => by obtain ⟨c, rfl, _⟩ := plainElem_int_inv he hv; exact ⟨c, rfl⟩)
    b r n D left cnt hit h hDone (fun x c kl y w' cnt' hkey hlk hv hat hrg hlt hgr hsz hen => by
      obtain ⟨x', ex, rfl, hwx⟩ := WideMaps.string_of_keyOf hk hkey
      cases ex
      obtain ⟨c', ec, rfl, hwc⟩ := plainElem_int_inv he hv
      cases ec
      exact hMore x c w' cnt' hwx hwc hlk hat hrg hlt hgr hsz hen)
theorem used_nil (w : World) : Calls Tryd.prog 28 #[.pointer none] w fun e w' => e = .returned (.int .i64 0) ∧ w' = w := by
  go_enter Tryd.func28, Tryd.ntmps28
  go_wp2
  go_ret
  exact ⟨rfl, rfl⟩
set_option maxHeartbeats 4000000 in
set_option maxRecDepth 100000 in
theorem used_calls (w : World) (own : Nat → Prop) (g : Nat) (S : FsS) (hS : FsIs w own g S) (hbig : S.ops * S.dat ≤ 1000000000000000) :
    Calls Tryd.prog 28 #[.pointer (some ⟨g, 0, none⟩)] w fun e w' => e = .returned (.int .i64 (S.used : Int)) ∧ Below w.heap.size w w' := by
  obtain ⟨G, hG⟩ := hS
  have hus : S.used ≤ 1000000000000000 := Nat.le_trans hG.used_le hbig
  have c4 : w.cell? ⟨g, 4, none⟩ = some (.map (some G.nb)) := blk_cell hG.blk 4
  have HG := Aside0.mk hG
  have HU := Aside0.mk hus
  clear hG hbig hus
  go_enter Tryd.func28, Tryd.ntmps28
  go_wp2_with (first
    | (at_range; refine wpList_range_own _ rfl _ 61 rfl 9 3 keyLaw Tryd.underlying61 _ G.nb G.nn _ rfl HG.out.nm ?_; intro w0 hrg0 hg0 hs0)
    | go_in)
  have HR0 := Aside0.mk hrg0
  have HG0 := Aside0.mk hg0
  clear hrg0 hg0 hs0 c4
  go_frame
  go_loopw [3] (fun v3 wr => ∃ (left : Lit → Bool) (cnt acc : Nat), v3 = .int .i64 (acc : Int) ∧ Aside0 (wr.ranges Tryd.prog 9 (plainElem Tryd.prog 3) G.nb w.heap.size G.nn S.names left cnt) ∧ Aside0 (∀ k, left k = true → has S.names k = true) ∧ Aside0 (acc + sumL S.files left (entries S.names) = S.used) ∧ Aside0 (Below w.heap.size w wr))
    (fun _ wr => wr.rangeLeft G.nb w.heap.size)
  case atStart => exact ⟨_, _, 0, rfl, ⟨HR0.out⟩, ⟨fun k hk => hk⟩, ⟨by unfold FsS.used; omega⟩, ⟨⟨HG0.out.os, HG0.out.tape, HG0.out.output, HG0.out.size, fun k hk => HG0.out.block k hk (by simp)⟩⟩⟩
  case round =>
    obtain ⟨left, cnt, acc, rfl, HRG, HL, HS, HB⟩ := hrel
    go_wp2_with (first
      | (at_next; refine wpList_next_ranges_si _ rfl _ rfl 9 3 .i64 keyLaw Tryd.underlying9 Tryd.underlying3 G.nb w.heap.size G.nn S.names left cnt rfl HRG.out ?_ ?_)
      | go_in)
    · intro _ hl0
      have e0 := HS.out
      rw [sumL_none _ hl0] at e0
      have HE := Aside0.mk e0
      clear e0 hl0
      go_wp2
      go_ret
      exact ⟨by rw [← HE.out]; rfl, HB.out⟩
    · intro x c w1 cnt1 hxs hwc hlk hat hrg1 hlt hg1 hs1 hen
      have hB1 : Below w.heap.size w w1 := ⟨hg1.os.trans HB.out.os, hg1.tape.trans HB.out.tape, hg1.output.trans HB.out.output, Nat.le_trans HB.out.size hg1.size, fun k hk => (hg1.block k (Nat.lt_of_lt_of_le hk HB.out.size) (fun e => by injection e with e; omega)).trans (HB.out.block k hk)⟩
      have hG1 : FsAt w1 own g S G := HG.out.move (fun k hk _ => hB1.block k hk) (fun _ h => h)
      have hh := HL.out _ hlk
      obtain ⟨i, h1, h2⟩ := hG1.ln _ hh
      obtain rfl : c = (i : Int) := by
        have := (hat .nil).symm.trans (h2 .nil)
        unfold num at this
        injection this with h_
        injection h_ with _ h_
      obtain ⟨b, v, f, fb, cap, h4, h5, h6, h7⟩ := hG1.get i h1
      obtain ⟨q1, q2, q3, q4, q5⟩ := hG1.file i b v f h4 h5
      obtain ⟨A, cc, rfl⟩ := q3.slice
      have c3 : w1.cell? ⟨g, 3, none⟩ = some G.fv := blk_cell hG1.blk 3
      rw [h6] at c3
      unfold ptr at h7
      have c0 : w1.cell? ⟨b, 0, none⟩ = some (.slice A f.1.length cc) := blk_cell q1 0
      have e1 : ((i : Int) < (S.files.length : Int)) = True := eq_true (by omega)
      have e2 : (i < S.files.length) = True := eq_true h1
      obtain ⟨p0, hp0, hpk, hpv⟩ := entry_of hG1.nm.isMap hh (h2 .nil)
      obtain ⟨es, hes, hpw⟩ := hG1.nm.tidy keyLaw
      have hst := sumL_step (fs := S.files) (left := left) (kl := kl x) (es := entries S.names) (WideAt.sameKey_self (by simp [WideAt.IsKeyLit])) hlk (by rw [hes]; exact hpw) hp0 hpk
      have hfl : fileLen S.files p0.2 = f.1.length := by
        rw [hpv]
        unfold fileLen num
        simp [h5]
      have hs0 := HS.out
      have e3 : wrap64 ((acc : Int) + (f.1.length : Int)) = ((acc + f.1.length : Nat) : Int) := by have := HU.out; unfold wrap64; omega
      have HS2 := Aside0.mk (show acc + f.1.length + sumL S.files (fun z => left z && !z.sameKey (kl x)) (entries S.names) = S.used by omega)
      have HB2 := Aside0.mk hB1
      have HRG2 := Aside0.mk hrg1
      have HLT := Aside0.mk hlt
      have HL2 := Aside0.mk (show ∀ k, (left k && !k.sameKey (kl x)) = true → has S.names k = true from fun k hk => HL.out k (by simp only [Bool.and_eq_true] at hk; exact hk.1))
      clear hB1 hG1 hh h2 h4 h5 h6 q1 q2 q3 q4 q5 hp0 hpk hpv hes hpw hst hfl hs0 hrg1 hlt hg1 hs1 hlk hat hxs hwc h1
      go_wp2
      go_roundw
      case rel => exact ⟨_, cnt1, acc + f.1.length, by rw [← e3], HRG2, HL2, HS2, HB2⟩
      case measure => rw [HRG2.out.left_eq, HRG.out.left_eq]; exact HLT.out
end Go.Proofs.YtnnlmackofopeaaDoor.Fs
/- Bytes laid behind a file's row, whatever its room. -/
namespace Go.Proofs.YtnnlmackofopeaaDoor.Fs
open Go.RowKit Go.Lib Go.Maps Go.Shelf Go.Proofs.YtnnlmackofopeaaDoorW.PrintWords Go.Proofs.YtnnlmackofopeaaDoorW.PrintLast Go.Proofs.YtnnlmackofopeaaDoorW.PrintMore
set_option linter.unusedVariables false
set_option linter.unusedSimpArgs false
theorem info5 : (Tryd.prog.info? 5).map (fun i => (i.zero, i.size, i.bytes)) = some (some (.int .u8 0), 1, 1) := by kernel_rfl
/-- Bytes to be read: nil, or cells. -/
def BR (w : World) (A : Option Addr) (ys : List Int) : Prop := ys = [] ∨ ∃ a, A = some a ∧ ∀ j u, (ys.map (Value.int .u8))[j]? = some u → w.cell? (a.add j) = some u
theorem BR.nil (w : World) (A : Option Addr) : BR w A [] := .inl rfl
theorem BR.below {w w' : World} {A : Option Addr} {ys : List Int} (h : BR w A ys) (hb : Below w.heap.size w w') : BR w' A ys := by
  rcases h with rfl | ⟨a, rfl, h⟩
  · exact .inl rfl
  · exact .inr ⟨a, rfl, fun j u hu => (hb.cell (World.block_lt_of_cell? w _ (h j u hu))).trans (h j u hu)⟩
theorem BR.turn {w w' : World} {own : Nat → Prop} {A : Option Addr} {ys : List Int} (h : BR w A ys) (hb : Turn own w w') (hn : ys = [] ∨ ∀ ad, A = some ad → ¬ own ad.block) : BR w' A ys := by
  rcases hn with hn | hn
  · exact .inl hn
  rcases h with rfl | ⟨a, rfl, h⟩
  · exact .inl rfl
  · refine .inr ⟨a, rfl, fun j u hu => ?_⟩
    rw [← h j u hu]
    refine World.cell?_of_block (hb.block _ (World.block_lt_of_cell? w _ (h j u hu)) ?_)
    rw [add_block]
    exact hn a rfl
/-- What is read lies in a block that is there. -/
theorem BR.there {w : World} {A : Option Addr} {ys : List Int} (h : BR w A ys) : ys = [] ∨ ∀ ad, A = some ad → ad.block < w.heap.size := by
  rcases h with rfl | ⟨a, rfl, h⟩
  · exact .inl rfl
  · cases ys with
    | nil => exact .inl rfl
    | cons y r =>
      refine .inr fun ad e => ?_
      injection e with e
      subst e
      have := World.block_lt_of_cell? w _ (h 0 _ rfl)
      rwa [add_block] at this
theorem drow_len {w : World} {own : Nat → Prop} {v : Value} {xs : List Int} (h : DRow w own v xs) : (xs.map (Value.int .u8)).length = xs.length := List.length_map ..
/-- append of bytes behind a row. -/
theorem run_append_drow (w : World) (own : Nat → Prop) (v : Value) (xs ys : List Int) (ty : TypeId) (hd : DRow w own v xs) (A : Option Addr) (c : Nat) (hr : BR w A ys) (hl : xs.length + ys.length ≤ 100000000000000) :
    ∃ v' w', (Builtin.append_ #[22, 22] ty #[v, .slice A ys.length c]).run Tryd.prog w = .ok v' w' ∧ DRow w' (More own w w') v' (xs ++ ys) ∧ w.grownBy w' v.ownBlock ∧ (∀ k, v'.ownBlock = some k → v.ownBlock = some k ∨ w.heap.size ≤ k) := by
  obtain ⟨i, hi, hii⟩ := Option.map_eq_some_iff.1 info5
  simp only [Prod.mk.injEq] at hii
  obtain ⟨hz, hs1, hb1⟩ := hii
  obtain ⟨B, cc, rfl, hlc, hd⟩ := hd
  by_cases h0 : ys = []
  · subst h0
    have hsrc : Src Tryd.prog i.size 22 (.slice A ([] : List Int).length c) 0 [] w := by
      cases A with
      | none => exact Src.ofNil (w := w) Tryd.underlying22 c
      | some a => exact Src.ofSlice (w := w) Tryd.underlying22 a 0 c [] (by simp) (by simp) (by simp)
    refine ⟨_, w, run_append_nothing (P := Tryd.prog) w 22 22 ty 5 i Tryd.underlying22 hi B xs.length cc hlc _ hsrc, ?_, ⟨rfl, rfl, rfl, Nat.le_refl _, fun _ _ _ => rfl⟩, fun k hk => .inl hk⟩
    refine ⟨B, cc, by rw [List.append_nil], by rw [List.append_nil]; exact hlc, ?_⟩
    rcases hd with h | ⟨b, cells, rfl, h1, h2, h3, h4⟩
    · exact .inl h
    · exact .inr ⟨b, cells, rfl, .inl h1, h2, h3, by rw [List.append_nil]; exact h4⟩
  · rcases hr with hr | ⟨a, rfl, hr⟩
    · exact absurd hr h0
    have hyl : 0 < ys.length := List.length_pos_iff.2 h0
    have hone : ∀ u ∈ ys.map (Value.int .u8), u.oneCell' = true := fun u hu => by
      obtain ⟨_, _, rfl⟩ := List.mem_map.1 hu
      rfl
    have hnl : (ys.map (Value.int .u8)).length = ys.length * i.size := by rw [hs1, List.length_map, Nat.mul_one]
    have hxl : (xs.map (Value.int .u8)).length = xs.length * i.size := by rw [hs1, List.length_map, Nat.mul_one]
    -- a new row
    have grown : ∀ (old : Nat) (row : Option Nat),
        DRow (w.drew.alloc (.cells ((xs.map (Value.int .u8)).toArray ++ (ys.map (Value.int .u8)).toArray ++ Builtin.zeroCells (Value.int .u8 0).cells (grownCap w (xs.length + ys.length) old 5 - (xs.length + ys.length))) 5))
          (More own w (w.drew.alloc (.cells ((xs.map (Value.int .u8)).toArray ++ (ys.map (Value.int .u8)).toArray ++ Builtin.zeroCells (Value.int .u8 0).cells (grownCap w (xs.length + ys.length) old 5 - (xs.length + ys.length))) 5)))
          (.slice (some ⟨w.heap.size, 0, none⟩) (xs.length + ys.length) (grownCap w (xs.length + ys.length) old 5)) (xs ++ ys) ∧
        w.grownBy (w.drew.alloc (.cells ((xs.map (Value.int .u8)).toArray ++ (ys.map (Value.int .u8)).toArray ++ Builtin.zeroCells (Value.int .u8 0).cells (grownCap w (xs.length + ys.length) old 5 - (xs.length + ys.length))) 5)) row := by
      intro old row
      have hge := grownCap_ge w (xs.length + ys.length) old 5
      refine ⟨⟨_, _, by rw [List.length_append], by rw [List.length_append]; exact hge, .inr ⟨w.heap.size, _, rfl, .inr ⟨Nat.le_refl _, by simp⟩, heap_alloc_new w.drew _, ?_, ?_⟩⟩, ⟨rfl, rfl, rfl, by simp, fun k hk _ => Below.heap_alloc w.drew _ k hk⟩⟩
      · rw [Array.size_append, Array.size_append, size_zeroCells, List.size_toArray, List.size_toArray, List.length_map, List.length_map, show (Value.int .u8 0).cells.size = 1 from rfl, Nat.mul_one]
        omega
      · simp only [Array.toList_append, List.append_assoc]
        rw [← List.append_assoc, ← List.map_append, List.length_append]
        have : (xs ++ ys).length = ((xs ++ ys).map (Value.int .u8)).length := by rw [List.length_map]
        rw [← List.length_append, this]
        exact List.take_left
    rcases hd with ⟨rfl, rfl⟩ | ⟨b, cells, rfl, h1, h2, h3, h4⟩
    · have hx : xs = [] := List.eq_nil_of_length_eq_zero (by omega)
      subst hx
      have hrun := run_append_nil (P := Tryd.prog) w 22 ty 5 i (.int .u8 0) Tryd.underlying22 hi hz a ys.length c (ys.map (Value.int .u8)) hnl hr hyl (by simp at hl; omega) (by rw [hb1]; simp at hl; omega)
      have hg := grown 0 none
      simp only [List.map_nil, List.length_nil, Nat.zero_add, List.nil_append, Array.empty_append] at hg hrun ⊢
      exact ⟨_, _, hrun, hg.1, hg.2, fun k hk => by simp only [Value.ownBlock, Option.some.injEq] at hk; exact .inr (by omega)⟩
    · by_cases hroom : xs.length + ys.length ≤ cc
      · have hfit : xs.length * i.size + (ys.map (Value.int .u8)).length ≤ cells.size := by rw [hs1, List.length_map]; omega
        have hrun := run_append_room (P := Tryd.prog) w 22 ty 5 i Tryd.underlying22 hi b xs.length cc cells h2 a ys.length c (ys.map (Value.int .u8)) hnl hr hone hroom hfit
        refine ⟨_, _, hrun, ⟨_, _, by rw [List.length_append], by rw [List.length_append]; exact hroom, .inr ⟨b, _, rfl, .inl h1, setRow_heap w b cells _ 5 _ h2, ?_, ?_⟩⟩, ⟨rfl, rfl, rfl, by simp, fun k _ hk => setRow_other w b k _ (fun e => hk (by simp [Value.ownBlock, e]))⟩, fun k hk => .inl hk⟩
        · rw [hs1] at hfit ⊢
          simp only [List.size_toArray, List.length_append, List.length_take, List.length_drop, Array.length_toList]
          omega
        · rw [hs1, Nat.mul_one, h4, ← List.map_append, List.length_append]
          have : xs.length + ys.length = ((xs ++ ys).map (Value.int .u8)).length := by rw [List.length_map, List.length_append]
          rw [this]
          exact List.take_left
      · have holds : ∀ j u, (xs.map (Value.int .u8))[j]? = some u → w.cell? ((⟨b, 0, none⟩ : Addr).add j) = some u := fun j u hu => by
          have hadd : (⟨b, 0, none⟩ : Addr).add j = ⟨b, j, none⟩ := by unfold Addr.add; split <;> simp_all
          rw [hadd, cell_of_row w b j cells 5 (0, 0) h2]
          rw [← h4, List.getElem?_take] at hu
          split at hu
          · simpa using hu
          · cases hu
        have hrun := run_append_grow (P := Tryd.prog) w 22 ty 5 i (.int .u8 0) Tryd.underlying22 hi hz ⟨b, 0, none⟩ xs.length cc (xs.map (Value.int .u8)) hxl holds a ys.length c (ys.map (Value.int .u8)) hnl hr (by omega) (by omega) (by rw [hb1]; exact growslice_fits (by omega) (by omega))
        have hg := grown cc (some b)
        exact ⟨_, _, hrun, hg.1, hg.2, fun k hk => by simp only [Value.ownBlock, Option.some.injEq] at hk; exact .inr (by omega)⟩
theorem wpList_append_drow {ops : Array Oper} {rest : List Oper} {o : Oper} {a : Act} {Q : Exit → Act → World → Prop} (w : World) (own : Nat → Prop) (hgd : o.guard = none) (s x : Operand)
    (ho : o.op = .call { callee := .builtin .append, args := #[s, x], argTypes := #[22, 22] }) (v : Value) (xs ys : List Int) (hs : a.eval s = v) (hd : DRow w own v xs) (A : Option Addr) (c : Nat) (hx : a.eval x = .slice A ys.length c) (hr : BR w A ys) (hl : xs.length + ys.length ≤ 100000000000000)
    (hK : ∀ v' w', DRow w' (More own w w') v' (xs ++ ys) → w.grownBy w' v.ownBlock → (∀ k, v'.ownBlock = some k → v.ownBlock = some k ∨ w.heap.size ≤ k) → wpList Tryd.prog ops Q rest (a.put o.dst v') w') :
    wpList Tryd.prog ops Q (o :: rest) a w := by
  refine wpList_plain hgd fun K hK' => ?_
  obtain ⟨v', w', hrun, r1, r2, r3⟩ := run_append_drow w own v xs ys o.type hd A c hr hl
  unfold Oper.wp
  simp [execOp, ho, resolve, invoke, builtin, hs, hx, hrun, Result.andThen]
  exact hK' _ _ (hK v' w' r1 r2 r3)
end Go.Proofs.YtnnlmackofopeaaDoor.Fs
/- Contract of (*Fs).Append. -/
namespace Go.Proofs.YtnnlmackofopeaaDoor.Fs
open Go.RowKit Go.Lib Go.Maps Go.Shelf Go.Proofs.YtnnlmackofopeaaDoorW.PrintWords Go.Proofs.YtnnlmackofopeaaDoorW.PrintLast Go.Proofs.YtnnlmackofopeaaDoorW.PrintMore
set_option linter.unusedVariables false
set_option linter.unusedSimpArgs false
def FsS.app (S : FsS) (i : Nat) (ys : List Int) : FsS := { S.upd i (fun f => (f.1 ++ ys, f.2)) with dat := S.dat + ys.length }
def FsS.append (S : FsS) (n : ByteArray) (ys : List Int) : Int × FsS :=
  if S.beginC [n] = 0 then (match S.at_ n with | some i => if S.quota < (S.used : Int) + (ys.length : Int) then (10, S.beginT) else (0, S.beginT.app i ys) | none => (7, S.beginT)) else (S.beginC [n], S.beginT)
theorem used_begin (S : FsS) : S.beginT.used = S.used := by
  obtain ⟨f1, f2, f3, f4, f5, f6, f7, f8⟩ := beginT_files S
  unfold FsS.used
  rw [f1, f3]
set_option maxHeartbeats 4000000 in
set_option maxRecDepth 100000 in
theorem append_calls (n : ByteArray) (A : Option Addr) (c : Nat) (ys : List Int) (w : World) (own : Nat → Prop) (g : Nat) (S : FsS) (hS : FsIs w own g S) (hu : Under own w) (hr : BR w A ys) (hA : ys = [] ∨ ∀ ad, A = some ad → ¬ own ad.block) (hbig : S.ops * S.dat ≤ 1000000000000000) (hdat : S.dat ≤ 1000000000) (hyl : ys.length ≤ 1000000000) :
    Calls Tryd.prog 24 #[.pointer (some ⟨g, 0, none⟩), .string n, .slice A ys.length c] w fun e w' => e = .returned (.int .i64 (S.append n ys).1) ∧ FsIs w' (More own w w') g (S.append n ys).2 ∧ Turn own w w' := by
  have HS0 := Aside0.mk (hS.below (below_alloc (Below.refl _ _) (.cells #[.string n] 9)))
  have hbg := begin_calls (some ⟨w.heap.size, 0, none⟩) 1 [n] _ own g S HS0.out (SR.one w n) (by simp) (fun ad e => by injection e with e; subst e; exact fun h => absurd (hu _ h) (Nat.lt_irrefl _))
  have HT0 := Aside0.mk (Turn.below (below_alloc (Below.refl w.heap.size w) (.cells #[.string n] 9)) own)
  have HU := Aside0.mk hu
  have HR := Aside0.mk (And.intro hr (And.intro hA hyl))
  obtain ⟨C, hC⟩ : ∃ C, C = S.beginC [n] := ⟨_, rfl⟩
  obtain ⟨T, hT⟩ : ∃ T, T = S.beginT := ⟨_, rfl⟩
  rw [← hC, ← hT, List.length_singleton] at hbg
  have ET := Aside0.mk hT
  clear hS hu hr hA
  obtain ⟨m, hm⟩ : ∃ m, m = ys.length := ⟨_, rfl⟩
  rw [← hm]
  by_cases h0 : C = 0
  case neg =>
    have ER := Aside0.mk (show S.append n ys = (C, T) by unfold FsS.append; rw [← hC, if_neg h0, hT])
    have e1 : (C != 0) = true := bne_iff_ne.mpr h0
    clear hC hT h0 hm hyl hbig hdat
    go_enter Tryd.func24, Tryd.ntmps24
    go_wp2_with (go_at_call 41; refine hbg.mono ?_; rintro e w1 ⟨rfl, hI, ht⟩; have HI1 := Aside0.mk hI; have HT1 := Aside0.mk (HT0.out.trans ht (fun _ h => .inl h)); clear hI ht hbg)
    go_ret
    exact ⟨by rw [ER.out]; rfl, by rw [ER.out]; exact HI1.out.mono (fun k hk => .inl hk), HT1.out⟩
  subst h0
  have hmay : mayS n = true := by have := begin_zero hC.symm; simpa using this
  have hns := may_size hmay
  obtain ⟨f1, f2, f3, f4, f5, f6, f7, f8⟩ := beginT_files S
  have hud := used_begin S
  rw [← hT] at f1 f2 f3 f4 f7 hud
  have hat : T.at_ n = S.at_ n := by unfold FsS.at_; rw [f3]
  have HN := Aside0.mk hns
  have HD := Aside0.mk (show T.dat ≤ 1000000000 by omega)
  have HBIG := Aside0.mk (show T.ops * T.dat ≤ 1000000000000000 by rw [f2, f4]; exact hbig)
  cases hi : S.at_ n with
  | none =>
    have ER := Aside0.mk (show S.append n ys = (7, T) by unfold FsS.append; rw [← hC, if_pos rfl, hi, hT])
    rw [hi] at hat
    have HH := Aside0.mk hat
    clear hC hT hi hmay hns f1 f2 f3 f4 f5 f6 f7 f8 hat hud hm hyl hbig hdat
    go_enter Tryd.func24, Tryd.ntmps24
    go_upto_region 4 with (go_at_call 41; refine hbg.mono ?_; rintro e w1 ⟨rfl, hI, ht⟩; have HI1 := Aside0.mk hI; have HT1 := Aside0.mk (HT0.out.trans ht (fun _ h => .inl h)); clear hI ht hbg)
    obtain ⟨G, hG⟩ := HI1.out
    have HG := Aside0.mk hG
    clear hG
    go_wp2_with (go_at_call 43; refine (of_calls n HN.out w1 own g T G HG.out).mono ?_; rintro e w2 ⟨rfl, ⟨_, rfl⟩ | ⟨i, b, v, hx, _⟩⟩; rotate_left; exact absurd hx (by rw [HH.out]; simp))
    go_ret
    exact ⟨by rw [ER.out]; rfl, by rw [ER.out]; exact HI1.out.mono (fun k hk => .inl hk), HT1.out⟩
  | some i =>
    have er : S.append n ys = if T.quota < (T.used : Int) + (m : Int) then (10, T) else (0, T.app i ys) := by
      unfold FsS.append
      rw [← hC, if_pos rfl, hi, f7, hud, hm, hT]
    have ER := Aside0.mk er
    rw [hi] at hat
    have HH := Aside0.mk hat
    have HM := Aside0.mk hm
    clear hC hT hi hmay hns f1 f2 f3 f4 f5 f6 f7 f8 hat hud hm hyl hbig hdat er
    go_enter Tryd.func24, Tryd.ntmps24
    go_upto_region 4 with (go_at_call 41; refine hbg.mono ?_; rintro e w1 ⟨rfl, hI, ht⟩; have HI1 := Aside0.mk hI; have HT1 := Aside0.mk (HT0.out.trans ht (fun _ h => .inl h)); clear hI ht hbg)
    obtain ⟨G, hG⟩ := HI1.out
    have HG := Aside0.mk hG
    clear hG
    go_upto_region 7 with (go_at_call 43; refine (of_calls n HN.out w1 own g T G HG.out).mono ?_; rintro e w2 ⟨rfl, ⟨hx, _⟩ | ⟨i', b, v, hi', hgf, hlt, rfl⟩⟩; exact absurd HH.out (by rw [at_none hx]; simp))
    obtain rfl : i' = i := by rw [HH.out] at hi'; exact (Option.some.inj hi').symm
    obtain ⟨f, hf⟩ : ∃ f, T.files[i']? = some f := ⟨_, List.getElem?_eq_getElem hlt⟩
    have c0 : w2.cell? ⟨g, 0, none⟩ = some (.int .i64 T.quota) := blk_cell HG.out.blk 0
    have HGF := Aside0.mk (And.intro hgf hf)
    have HD2 := Aside0.mk (show FsIs w2.drew own g T from FsIs.move (w := w2) ⟨G, HG.out⟩ (fun _ _ _ => rfl) (fun _ h => h))
    have husd := HG.out.used_le
    have e1 : IntKind.i64.wrap ((T.used : Int) + (m : Int)) = (T.used : Int) + (m : Int) := by
      have h1 := Nat.le_trans husd HBIG.out
      have h2 := HR.out.2.2
      have h3 := HM.out
      exact IntWalk.i64_in _ (by omega)
    have HUL := Aside0.mk husd
    clear hi' hgf hlt hf husd
    go_region_held3 (fun w' => w'.cell? ⟨g, 0, none⟩ = some (.int .i64 T.quota)) (first | exact c0 | exact c3) (first | (go_at_call 28; refine (used_calls _ own g T HD2.out HBIG.out).mono ?_; rintro e w3 ⟨rfl, hb3⟩; have HB3 := Aside0.mk (show Below w2.heap.size w2 w3 from ⟨hb3.os, hb3.tape, hb3.output, hb3.size, hb3.block⟩); have c3 : w3.cell? ⟨g, 0, none⟩ = some (.int .i64 T.quota) := blk_cell (blk_below HG.out.blk HB3.out) 0; clear hb3))
    have HT3 := Aside0.mk (HT1.out.then_below HB3.out)
    have HG3 := Aside0.mk (show FsAt w3 own g T G from HG.out.move (fun k hk _ => HB3.out.block k hk) (fun _ h => h))
    have HR3 := Aside0.mk (show BR w3 A ys from (HR.out.1.turn HT3.out HR.out.2.1))
    clear c0
    obtain ⟨bq, hbq⟩ : ∃ bq, bq = decide (T.quota < (T.used : Int) + (m : Int)) := ⟨_, rfl⟩
    rw [← hbq]
    by_cases hq : T.quota < (T.used : Int) + (m : Int)
    · have ER2 := Aside0.mk (show S.append n ys = (10, T) by rw [ER.out, if_pos hq])
      obtain rfl : bq = true := by rw [hbq, decide_eq_true hq]
      clear hq hbq
      go_wp2
      go_ret
      exact ⟨by rw [ER2.out]; rfl, by rw [ER2.out]; exact FsIs.mono ⟨_, HG3.out⟩ (fun k hk => .inl hk), HT3.out⟩
    · have ER2 := Aside0.mk (show S.append n ys = (0, T.app i' ys) by rw [ER.out, if_neg hq])
      obtain rfl : bq = false := by rw [hbq, decide_eq_false hq]
      obtain ⟨q1, q2, q3, q4, q5⟩ := HG3.out.file i' b v f HGF.out.1 HGF.out.2
      obtain ⟨B, cc, rfl⟩ := q3.slice
      have c0 : w3.cell? ⟨b, 0, none⟩ = some (.slice B f.1.length cc) := blk_cell q1 0
      have HQ := Aside0.mk (And.intro q1 (And.intro q2 (And.intro q3 (And.intro q4 q5))))
      clear hq hbq q1 q2 q3 q4 q5 c3
      go_wp2_with ((with_reducible refine gate_builtin (b := .append) (xs := #[.tmp 42, .tmp 43]) rfl ?_); at_builtin; refine wpList_append_drow w3 own rfl (.tmp 42) (.tmp 43) rfl (.slice B f.1.length cc) f.1 ys rfl HQ.out.2.2.1 A c (by rw [← HM.out]; rfl) HR3.out (by have := HQ.out.2.2.2.2; have := HD.out; have := HR.out.2.2; omega) ?_; intro v4 w4 hd4 hg4 hn4; obtain ⟨B4, c4, rfl⟩ := hd4.slice; have HD4 := Aside0.mk hd4; have HG4 := Aside0.mk hg4; have HN4 := Aside0.mk hn4; have hb4 := (hg4.block b (blk_lt HQ.out.1) (fun e => by obtain ⟨_, _, cells, hc⟩ := HQ.out.2.2.1.own b e.symm; exact ne_of_type HQ.out.1 hc (by decide) rfl)).trans HQ.out.1; have HB4 := Aside0.mk hb4; have c0 : w4.cell? ⟨b, 0, none⟩ = some (.slice B f.1.length cc) := blk_cell hb4 0; have fr0 := blk_frozen hb4 0; clear hd4 hg4 hn4 hb4)
      go_ret
      have hbn : ∀ k, (Value.slice B4 (f.1 ++ ys).length c4).ownBlock = some k → k ≠ b := fun k hk => by
        obtain ⟨_, _, cells, hc⟩ := HD4.out.own k hk
        exact ne_of_type hc HB4.out (by decide)
      have hsz : (w4.setCell ⟨b, 0, none⟩ (.slice B4 (f.1 ++ ys).length c4)).heap.size = w4.heap.size := World.size_setCell ..
      have hX := HG3.out.setFile (w' := w4.setCell ⟨b, 0, none⟩ (.slice B4 (f.1 ++ ys).length c4)) (own' := More own w3 w4) i' b _ f HGF.out.1 HGF.out.2 (.slice B4 (f.1 ++ ys).length c4) (fun f => (f.1 ++ ys, f.2)) (T.dat + ys.length) (blk_put HB4.out 0 _ rfl)
        (HD4.out.step (fun k hk => Below.heap_setCell _ ⟨b, 0, none⟩ _ k (hbn k hk)) (fun _ h => h)) (fun _ h => .inl h) (by have := HQ.out.2.2.2.1; rw [List.length_append]; omega) (by have := HQ.out.2.2.2.2; rw [List.length_append]; omega) (Nat.le_add_right _ _)
        (fun k hk _ hkb hkv => (Below.heap_setCell _ ⟨b, 0, none⟩ _ k hkb).trans (HG4.out.block k hk hkv)) HN4.out
      have hT4 : Turn own w (w4.setCell ⟨b, 0, none⟩ (.slice B4 (f.1 ++ ys).length c4)) := (HT3.out.trans (Turn.grown (own := own) HG4.out (fun k hk => (HQ.out.2.2.1.own k hk).1)) (fun _ h => .inl h)).trans (Turn.set (own := own) b 0 _ HQ.out.2.1) (fun _ h => .inl h)
      rw [List.length_append] at hX hT4 hsz
      refine ⟨by rw [ER2.out]; rfl, ?_, hT4⟩
      rw [ER2.out]
      refine FsIs.mono ⟨_, hX⟩ (fun k hk => ?_)
      rcases hk with hk | hk
      · exact .inl hk
      · exact .inr ⟨Nat.le_trans HT3.out.size hk.1, by rw [hsz]; exact hk.2⟩
end Go.Proofs.YtnnlmackofopeaaDoor.Fs
/- Contract of (*Fs).Read. -/
namespace Go.Proofs.YtnnlmackofopeaaDoor.Fs
open Go.RowKit Go.Lib Go.Maps Go.Shelf Go.Proofs.YtnnlmackofopeaaDoorW.PrintWords Go.Proofs.YtnnlmackofopeaaDoorW.PrintLast Go.Proofs.YtnnlmackofopeaaDoorW.PrintMore
set_option linter.unusedVariables false
set_option linter.unusedSimpArgs false
def FsS.read (S : FsS) (n : ByteArray) : Int × List Int := if mayS n = true then (match S.at_ n with | some i => (0, ((S.files[i]?).map (·.1)).getD []) | none => (7, [])) else (1, [])
theorem clone_calls (w : World) (own : Nat → Prop) (v : Value) (xs : List Int) (hd : DRow w own v xs) (hl : xs.length ≤ 1000000000) :
    Calls Tryd.prog 45 #[v] w fun e w' => ∃ v', e = .returned v' ∧ w'.ownsRow w.heap.size 5 1 v' xs.length (xs.map (Value.int .u8)) ∧ Below w.heap.size w w' := by
  obtain ⟨A, c, rfl, hlc, h⟩ := hd
  rcases h with ⟨rfl, rfl⟩ | ⟨b, cells, rfl, h1, h2, h3, h4⟩
  · have hx : xs = [] := List.eq_nil_of_length_eq_zero (by omega)
    subst hx
    exact (Any.bytes_Clone_nil Tryd.lays4 0 0 w).mono fun e w' ⟨he, hw⟩ => ⟨_, he, by subst hw; exact ⟨rfl, .inl ⟨rfl, rfl⟩⟩, by subst hw; exact Below.refl _ _⟩
  · refine (Any.bytes_Clone_at Tryd.lays4 ⟨b, 0, none⟩ xs.length c xs w rfl (by omega) (fun i hi => ?_)).mono fun e w' ⟨v', he, hr, _, hb⟩ => ⟨v', he, hr, hb⟩
    have hadd : (⟨b, 0, none⟩ : Addr).add i = ⟨b, i, none⟩ := by unfold Addr.add; split <;> simp_all
    rw [hadd, cell_of_row w b i cells 5 (0, 0) h2]
    have h5 : (cells.toList.take xs.length)[i]? = (xs.map (Value.int .u8))[i]? := by rw [h4]
    rw [List.getElem?_take_of_lt hi, List.getElem?_map, List.getElem?_eq_getElem hi] at h5
    rw [← Array.getElem?_toList, h5]
    simp [List.getD, List.getElem?_eq_getElem hi]
theorem read_nil (n : ByteArray) (w : World) : Calls Tryd.prog 26 #[.pointer none, .string n] w fun e w' => e = .returned (.tuple #[.slice none 0 0, .int .i64 1]) ∧ w' = w := by
  go_enter Tryd.func26, Tryd.ntmps26
  go_wp2
  go_ret2
  exact ⟨rfl, rfl⟩
theorem row_nil (w : World) (base : Nat) : w.ownsRow base 5 1 (.slice none 0 0) 0 (([] : List Int).map (Value.int .u8)) := ⟨rfl, .inl ⟨rfl, rfl⟩⟩
set_option maxHeartbeats 4000000 in
set_option maxRecDepth 100000 in
theorem read_calls (n : ByteArray) (w : World) (own : Nat → Prop) (g : Nat) (S : FsS) (hS : FsIs w own g S) (hdat : S.dat ≤ 1000000000) :
    Calls Tryd.prog 26 #[.pointer (some ⟨g, 0, none⟩), .string n] w fun e w' => ∃ v, e = .returned (.tuple #[v, .int .i64 (S.read n).1]) ∧ w'.ownsRow w.heap.size 5 1 v (S.read n).2.length ((S.read n).2.map (Value.int .u8)) ∧ Below w.heap.size w w' := by
  have hm := may_calls n w
  have HS := Aside0.mk hS
  have HD := Aside0.mk hdat
  cases hb : mayS n with
  | false =>
    have ER := Aside0.mk (show S.read n = (1, []) by unfold FsS.read; rw [hb]; rfl)
    rw [hb] at hm
    clear hS hdat hb
    go_enter Tryd.func26, Tryd.ntmps26
    go_wp2_with (go_at_call 44; refine hm.mono ?_; rintro e w1 ⟨rfl, hb1⟩; have HB1 := Aside0.mk hb1; clear hb1)
    go_ret2
    exact ⟨_, by rw [ER.out]; rfl, by rw [ER.out]; exact row_nil _ _, HB1.out⟩
  | true =>
    rw [hb] at hm
    have HN := Aside0.mk (may_size hb)
    cases hi : S.at_ n with
    | none =>
      have ER := Aside0.mk (show S.read n = (7, []) by unfold FsS.read; rw [if_pos hb, hi])
      have HH := Aside0.mk hi
      clear hS hdat hb hi
      go_enter Tryd.func26, Tryd.ntmps26
      go_upto_region 3 with (go_at_call 44; refine hm.mono ?_; rintro e w1 ⟨rfl, hb1⟩; have HB1 := Aside0.mk hb1; clear hb1)
      obtain ⟨G, hG⟩ := HS.out.below HB1.out
      have HG := Aside0.mk hG
      clear hG
      go_wp2_with (go_at_call 43; refine (of_calls n HN.out w1 own g S G HG.out).mono ?_; rintro e w2 ⟨rfl, ⟨_, rfl⟩ | ⟨i, b, v, hx, _⟩⟩; rotate_left; exact absurd hx (by rw [HH.out]; simp))
      go_ret2
      exact ⟨_, by rw [ER.out]; rfl, by rw [ER.out]; exact row_nil _ _, HB1.out⟩
    | some i =>
      have HH := Aside0.mk hi
      have HM := Aside0.mk hb
      clear hS hdat hb hi
      go_enter Tryd.func26, Tryd.ntmps26
      go_upto_region 3 with (go_at_call 44; refine hm.mono ?_; rintro e w1 ⟨rfl, hb1⟩; have HB1 := Aside0.mk hb1; clear hb1)
      obtain ⟨G, hG⟩ := HS.out.below HB1.out
      have HG := Aside0.mk hG
      clear hG
      go_upto_region 6 with (go_at_call 43; refine (of_calls n HN.out w1 own g S G HG.out).mono ?_; rintro e w2 ⟨rfl, ⟨hx, _⟩ | ⟨i', b, v, hi', hgf, hlt, rfl⟩⟩; exact absurd HH.out (by rw [at_none hx]; simp))
      obtain rfl : i' = i := by rw [HH.out] at hi'; exact (Option.some.inj hi').symm
      obtain ⟨f, hf⟩ : ∃ f, S.files[i']? = some f := ⟨_, List.getElem?_eq_getElem hlt⟩
      obtain ⟨q1, q2, q3, q4, q5⟩ := HG.out.file i' b v f hgf hf
      obtain ⟨A, cc, rfl⟩ := q3.slice
      have c0 : w2.cell? ⟨b, 0, none⟩ = some (.slice A f.1.length cc) := blk_cell q1 0
      have ER := Aside0.mk (show S.read n = (0, f.1) by unfold FsS.read; rw [if_pos HM.out, HH.out]; simp [hf])
      have hc := clone_calls w2 own _ f.1 q3 (by have := HD.out; omega)
      have HSZ := Aside0.mk HB1.out.size
      clear q1 q2 q3 q4 q5 hgf hf hi' hlt
      go_wp2_with (go_at_call 45; refine hc.mono ?_; rintro e w3 ⟨v, rfl, hr, hb3⟩; obtain ⟨A3, c3, rfl⟩ := row_slice hr; have HR3 := Aside0.mk hr; have HB3 := Aside0.mk hb3; clear hr hb3 hc)
      go_ret2
      refine ⟨_, by rw [ER.out]; rfl, ?_, below_step HB1.out HB3.out⟩
      rw [ER.out]
      refine ⟨HR3.out.1, HR3.out.2.imp id ?_⟩
      rintro ⟨k, cap, cur, h1, h2, h3⟩
      exact ⟨k, cap, cur, h1, Nat.le_trans HSZ.out h2, h3⟩
end Go.Proofs.YtnnlmackofopeaaDoor.Fs
/- Contract of (*Fs).List. -/
namespace Go.Proofs.YtnnlmackofopeaaDoor.Fs
open Go.RowKit Go.Lib Go.Maps Go.Shelf Go.Sort Go.Proofs.YtnnlmackofopeaaDoorW.PrintWords Go.Proofs.YtnnlmackofopeaaDoorW.PrintLast Go.Proofs.YtnnlmackofopeaaDoorW.PrintMore
set_option linter.unusedVariables false
set_option linter.unusedSimpArgs false
/-- All names, sorted. -/
def listD (D : Names) : List (List UInt8) := (strKeys D).mergeSort leB
theorem sortsA (m : Nat) : AnyZ.SortsIn Tryd.prog Tryd.sortedA_ren Fence.wide m :=
  ⟨fun blk off cap ss W hH hblk hsz => callsIn_wide.2 (AnyM.slices_Sort_string Tryd.sortA blk off cap ss W hH hblk hsz),
   fun p cap W => callsIn_wide.2 (AnyM.slices_Sort_string_none Tryd.sortA p cap W)⟩
theorem list_nil (w : World) : Calls Tryd.prog 20 #[.pointer none] w fun e w' => e = .returned (.slice none 0 0) ∧ w' = w := by
  go_enter Tryd.func20, Tryd.ntmps20
  go_wp2
  go_ret
  exact ⟨rfl, rfl⟩
set_option maxHeartbeats 2000000 in
theorem list_calls (w : World) (own : Nat → Prop) (g : Nat) (S : FsS) (hS : FsIs w own g S) (hops : S.ops ≤ 1000000) :
    Calls Tryd.prog 20 #[.pointer (some ⟨g, 0, none⟩)] w fun e w' => ∃ v, e = .returned v ∧ w'.ownsRow w.heap.size 9 1 v (listD S.names).length ((listD S.names).map encStr) ∧ Below w.heap.size w w' := by
  obtain ⟨G, hG⟩ := hS
  have hsz : Maps.size S.names ≤ 1000000 := Nat.le_trans hG.nm.size_le (Nat.le_trans hG.bnd.2.2.1 hops)
  have hown := hG.nm
  have hmax : Maps.size S.names ≤ maxLen := by unfold maxLen; omega
  have hbytes : Maps.size S.names * 16 ≤ 140737488355328 := by omega
  have c4 : w.cell? ⟨g, 4, none⟩ = some (.map (some G.nb)) := blk_cell hG.blk 4
  refine (callsIn_wide (n := 6)).1 ?_
  have hbl := hown.lt
  have hseq : SeqGives Fence.wide 2 Tryd.prog 58 #[.pointer (some ⟨w.heap.size, 0, none⟩)] encStr (fun ss => ss.Perm (strKeys S.names)) (Maps.size S.names) (w.alloc (.cells #[.map (some G.nb)] 61)) :=
    AnyZ.keys_gives (ρ := Tryd.keysA_ren) { Tryd.keysA with } Fence.wide _ trivial rfl (by omega) w.heap.size G.nb G.nn S.names _ (by simp) (by simp) (by
      obtain ⟨es, clock, hb, Ft, hs, hD⟩ := hown
      exact ⟨es, clock, (Below.heap_alloc _ _ G.nb hbl).trans hb, Ft, hs, hD⟩)
  have cK : ∀ mb W, CallsIn Fence.wide 5 Tryd.prog 40 #[.map mb] W fun e w' => e = .returned (.func (.func 58) #[] #[.pointer (some ⟨W.heap.size, 0, none⟩)]) ∧ w' = W.alloc (.cells #[.map mb] 61) := fun mb W => AnyZ.keys_in Tryd.keysA Fence.wide 5 trivial rfl mb W
  have cS := AnyZ.sorted_in Tryd.sortedA Fence.wide 5 trivial trivial trivial trivial rfl (by omega) (sortsA _) (enters_of Tryd.func57 (by kernel_rfl) rfl) 58 #[.pointer (some ⟨w.heap.size, 0, none⟩)] trivial (enters_of Tryd.func58 (by kernel_rfl) rfl) _ _ hmax hbytes _ hseq
  change CallsIn _ _ Tryd.prog 39 _ _ _ at cS
  have hfK : Fence.wide.fn 40 := trivial
  have hfS : Fence.wide.fn 39 := trivial
  clear hown hmax hbytes hsz hbl hseq hG
  refine callsIn_of_wp Tryd.func20 rfl trivial ?_ rfl
  simp only [Tryd.ntmps20, List.size_toArray, List.length_cons, List.length_nil, Nat.reduceAdd, Nat.reduceSub, Array.replicate_succ, Array.replicate_zero, List.push_toArray, List.append_toArray, List.nil_append, List.cons_append]
  gi_wp2_with (first
    | (gi_at_call 40; refine (cK _ _).mono ?_; rintro e w' ⟨rfl, rfl⟩)
    | (gi_at_call 39; refine cS.mono ?_; rintro e w' ⟨v, ss, rfl, hS, hrow, hnil, hb⟩))
  go_ret
  have hl : ss.mergeSort (fun x y => decide (x ≤ y)) = listD S.names := mergeSort_of_perm hS
  have hlen : ss.length = (listD S.names).length := by rw [← hl, List.length_mergeSort]
  rw [hl, hlen] at hrow
  exact ⟨v, rfl, ownsRow_base_a hrow (by simp), ((Below.refl _ w).alloc (Nat.le_refl _) _).trans (hb.mono (by simp))⟩
end Go.Proofs.YtnnlmackofopeaaDoor.Fs
/- Contract of New. -/
namespace Go.Proofs.YtnnlmackofopeaaDoor.Fs
open Go.RowKit Go.Lib Go.Maps Go.Shelf Go.Proofs.YtnnlmackofopeaaDoorW.PrintWords Go.Proofs.YtnnlmackofopeaaDoorW.PrintLast Go.Proofs.YtnnlmackofopeaaDoorW.PrintMore
set_option linter.unusedVariables false
set_option linter.unusedSimpArgs false
def fs0 (q : Int) : FsS := { quota := q, left := 0, limited := false, files := [], names := .map [], durable := .map [], changes := [], ops := 0, dat := 0 }
set_option maxHeartbeats 2000000 in
theorem new_calls (q : Int) (w : World) :
    Calls Tryd.prog 14 #[.int .i64 q] w fun e w' => ∃ g, e = .returned (.pointer (some ⟨g, 0, none⟩)) ∧ FsIs w' (fun k => w.heap.size ≤ k ∧ k < w'.heap.size) g (fs0 q) ∧ Below w.heap.size w w' := by
  have hmm := @run_makeMap Tryd.prog
  go_enter Tryd.func14, Tryd.ntmps14
  go_wp2
  go_ret
  have hs1 : (w.alloc (.map #[] 0)).heap.size = w.heap.size + 1 := by simp
  have hs2 : ((w.alloc (.map #[] 0)).alloc (.map #[] 0)).heap.size = w.heap.size + 1 + 1 := by simp
  have m1 := ((World.ownsMap_made (H := Unit) w Tryd.prog 9 (plainElem Tryd.prog 3)).alloc (.map #[] 0)).alloc (.cells #[.int .i64 q, .int .i64 0, .bool false, .slice none 0 0, .map (some w.heap.size), .map (some (w.heap.size + 1)), .slice none 0 0] 65)
  have m2 := (World.ownsMap_made (H := Unit) (w.alloc (.map #[] 0)) Tryd.prog 9 (plainElem Tryd.prog 3)).alloc (.cells #[.int .i64 q, .int .i64 0, .bool false, .slice none 0 0, .map (some w.heap.size), .map (some (w.heap.size + 1)), .slice none 0 0] 65)
  have hb := blk_new ((w.alloc (.map #[] 0)).alloc (.map #[] 0)) (.cells #[.int .i64 q, .int .i64 0, .bool false, .slice none 0 0, .map (some w.heap.size), .map (some (w.heap.size + 1)), .slice none 0 0] 65)
  rw [hs1] at m2
  rw [hs2] at hb
  refine ⟨w.heap.size + 1 + 1, by simp, ⟨⟨.slice none 0 0, .slice none 0 0, [], w.heap.size, w.heap.size + 1, 0, 0⟩, hb, ⟨by omega, by simp⟩, ⟨rfl, .inl ⟨rfl, rfl⟩⟩, fun b hb => by simp [Value.ownBlock] at hb, rfl, fun i b v f h1 _ => by simp at h1, fun i j x y h1 => by simp at h1, m1, m2, ⟨⟨Nat.le_refl _, by simp; omega⟩, ⟨by simp only; omega, by simp⟩, by simp only; omega⟩,
    ⟨rfl, .inl ⟨rfl, rfl⟩⟩, fun b hb => by simp [Value.ownBlock] at hb, ⟨Nat.le_refl _, Nat.le_refl _, Nat.le_refl _, Nat.le_refl _⟩, fun k hk => by simp [fs0, has] at hk, fun k hk => by simp [fs0, has] at hk, fun c hc => by simp [fs0] at hc⟩, ?_⟩
  exact below_alloc (below_alloc (below_alloc (Below.refl _ _) _) _) _
end Go.Proofs.YtnnlmackofopeaaDoor.Fs
/- A crash: the state behind it. -/
namespace Go.Proofs.YtnnlmackofopeaaDoor.Fs
open Go.RowKit Go.Lib Go.Maps Go.Shelf Go.Proofs.YtnnlmackofopeaaDoorW.PrintWords Go.Proofs.YtnnlmackofopeaaDoorW.PrintLast Go.Proofs.YtnnlmackofopeaaDoorW.PrintMore
set_option linter.unusedVariables false
set_option linter.unusedSimpArgs false
/-- The durable names' map is written. -/
theorem FsAt.onDurable {w w' : World} {own : Nat → Prop} {g : Nat} {S : FsS} {G : FsG} (h : FsAt w own g S G) (c : Chg) (hc : c.okL S.files.length) (hg : w.grownBy w' (some G.db)) (hm : w'.ownsMap Tryd.prog 9 (plainElem Tryd.prog 3) G.db (G.dn + 1) (c.app S.durable)) :
    FsAt w' own g { S with durable := c.app S.durable, ops := S.ops + 1 } { G with dn := G.dn + 1 } := by
  obtain ⟨es, cl, hn⟩ := map_blk h.nm
  obtain ⟨es', cl', hd⟩ := map_blk h.dm
  have hk : ∀ k (o : Obj), w.heap[k]? = some o → (∀ e c, o ≠ .map e c) → w'.heap[k]? = w.heap[k]? := fun k o ho hne => hg.block k (blk_lt ho) (fun e => by
    injection e with e
    subst e
    rw [ho] at hd
    exact hne _ _ (Option.some.inj hd))
  refine ⟨(hk g _ h.blk (by simp)).trans h.blk, h.og, row_kept h.fv (fun k hb => ?_), h.ofv, h.len, fun i b v f h1 h2 => ?_, h.inj, map_kept h.nm (hg.block _ (blk_lt hn) (fun e => h.om.2.2 (Option.some.inj e))), hm, h.om,
    row_kept h.cv (fun k hb => ?_), h.ocv, ?_, h.ln, leads_app h.ld h.dm.isMap hc, h.lc⟩
  · obtain ⟨hl, cells, hc⟩ := row_typed h.fv k hb
    exact hk k _ hc (by simp)
  · obtain ⟨q1, q2, q3, q4, q5⟩ := h.file i b v f h1 h2
    refine ⟨(hk b _ q1 (by simp)).trans q1, q2, q3.step (fun k hb => ?_) (fun _ h => h), q4, q5⟩
    obtain ⟨o1, o2, cells, hc⟩ := q3.own k hb
    exact hk k _ hc (by simp)
  · obtain ⟨hl, cells, hc⟩ := row_typed h.cv k hb
    exact hk k _ hc (by simp)
  · have := h.bnd
    exact ⟨by simp only; omega, by simp only; omega, by simp only; omega, by simp only; omega⟩
/-- Other bounds. -/
theorem FsAt.setOps {w : World} {own : Nat → Prop} {g : Nat} {S : FsS} {G : FsG} (h : FsAt w own g S G) (o : Nat) (hb : S.files.length ≤ o ∧ S.changes.length ≤ o ∧ G.nn ≤ o ∧ G.dn + S.changes.length ≤ o) : FsAt w own g { S with ops := o } G :=
  ⟨h.blk, h.og, h.fv, h.ofv, h.len, h.file, h.inj, h.nm, h.dm, h.om, h.cv, h.ocv, hb, h.ln, h.ld, h.lc⟩
/-- Of what isn't synced so many bytes stay. -/
def stayS (bs : List Int) (i : Nat) (f : List Int × Nat) : Nat := if i < bs.length then (max (min (bs.getD i 0) ((f.1.length : Int) - (f.2 : Int))) 0).toNat else 0
def cutF (bs : List Int) (i : Nat) (f : List Int × Nat) : List Int × Nat := (f.1.take (f.2 + stayS bs i f), f.2 + stayS bs i f)
def FsS.cutN (S : FsS) (bs : List Int) : Nat → FsS
  | 0 => S
  | i + 1 => (S.cutN bs i).upd i (cutF bs i)
def kept (nm : Int) (n : Nat) : Nat := (max (min nm (n : Int)) 0).toNat
def foldD (D : Names) (cs : List Chg) : Names := cs.foldl (fun D c => c.app D) D
def FsS.crash (S : FsS) (nm : Int) (bs : List Int) : FsS :=
  { S.cutN bs S.files.length with limited := false, durable := foldD S.durable (S.changes.take (kept nm S.changes.length)), names := foldD S.durable (S.changes.take (kept nm S.changes.length)), changes := [] }
theorem cutN_rest (S : FsS) (bs : List Int) : ∀ n, (S.cutN bs n).quota = S.quota ∧ (S.cutN bs n).left = S.left ∧ (S.cutN bs n).limited = S.limited ∧ (S.cutN bs n).names = S.names ∧ (S.cutN bs n).durable = S.durable ∧ (S.cutN bs n).changes = S.changes ∧ (S.cutN bs n).ops = S.ops ∧ (S.cutN bs n).dat = S.dat ∧ (S.cutN bs n).files.length = S.files.length
  | 0 => ⟨rfl, rfl, rfl, rfl, rfl, rfl, rfl, rfl, rfl⟩
  | n + 1 => by
    obtain ⟨h1, h2, h3, h4, h5, h6, h7, h8, h9⟩ := cutN_rest S bs n
    exact ⟨h1, h2, h3, h4, h5, h6, h7, h8, by rw [← h9]; exact List.length_modify ..⟩
theorem cutN_file (S : FsS) (bs : List Int) : ∀ n j, (S.cutN bs n).files[j]? = if j < n then (S.files[j]?).map (cutF bs j) else S.files[j]?
  | 0, j => by simp [FsS.cutN]
  | n + 1, j => by
    have ih := cutN_file S bs n j
    show ((S.cutN bs n).files.modify n (cutF bs n))[j]? = _
    rw [List.getElem?_modify, ih]
    by_cases e : n = j
    · subst e
      rw [if_neg (Nat.lt_irrefl _), if_pos (Nat.lt_succ_self _)]
      simp
    · by_cases hj : j < n
      · rw [if_pos hj, if_pos (by omega)]
        simp [e]
      · rw [if_neg hj, if_neg (by omega)]
        simp [e]
theorem stay_le (bs : List Int) (i : Nat) (f : List Int × Nat) (h : f.2 ≤ f.1.length) : f.2 + stayS bs i f ≤ f.1.length := by
  unfold stayS
  split
  · omega
  · omega
theorem kept_le (nm : Int) (n : Nat) : kept nm n ≤ n := by unfold kept; omega
end Go.Proofs.YtnnlmackofopeaaDoor.Fs
