/- A file is written; contract of (*Fs).Sync. -/
import Derived.Test.YtnnlmackofopeaaDoorFsCreate
namespace Go.Proofs.YtnnlmackofopeaaDoor.Fs
open Go.RowKit Go.Lib Go.Maps Go.Proofs.YtnnlmackofopeaaDoorW.PrintWords Go.Proofs.YtnnlmackofopeaaDoorW.PrintLast Go.Proofs.YtnnlmackofopeaaDoorW.PrintMore
set_option linter.unusedVariables false
set_option linter.unusedSimpArgs false
/-- One file is another. -/
def FsS.upd (S : FsS) (i : Nat) (F : List Int × Nat → List Int × Nat) : FsS := { S with files := S.files.modify i F }
theorem upd_map {l : List (Nat × Value)} {i b : Nat} {v v' : Value} (h : l[i]? = some (b, v)) : (l.set i (b, v')).map (fun x => ptr x.1) = l.map (fun x => ptr x.1) := by
  refine List.ext_getElem? fun j => ?_
  rw [List.getElem?_map, List.getElem?_map, List.getElem?_set]
  by_cases e : i = j
  · subst e
    rw [if_pos rfl, h]
    obtain ⟨hl, _⟩ := List.getElem?_eq_some_iff.1 h
    rw [if_pos hl]
    rfl
  · rw [if_neg e]
theorem FsAt.setFile {w w' : World} {own own' : Nat → Prop} {g : Nat} {S : FsS} {G : FsG} (h : FsAt w own g S G) (i b : Nat) (v : Value) (f : List Int × Nat) (h1 : G.fs[i]? = some (b, v)) (h2 : S.files[i]? = some f)
    (v' : Value) (F : List Int × Nat → List Int × Nat) (D : Nat) (hb : w'.heap[b]? = some (.cells #[v', .int .i64 ((F f).2 : Int)] 70 (0, 0))) (hd : DRow w' own' v' (F f).1) (ho : ∀ k, own k → own' k) (hs : (F f).2 ≤ (F f).1.length) (hD : (F f).1.length ≤ D) (hD2 : S.dat ≤ D)
    (hk : ∀ k, k < w.heap.size → own k → k ≠ b → some k ≠ v.ownBlock → w'.heap[k]? = w.heap[k]?) (hn : ∀ k, v'.ownBlock = some k → v.ownBlock = some k ∨ w.heap.size ≤ k) :
    FsAt w' own' g { S.upd i F with dat := D } { G with fs := G.fs.set i (b, v') } := by
  obtain ⟨es, cl, hnm⟩ := map_blk h.nm
  obtain ⟨es', cl', hdm⟩ := map_blk h.dm
  obtain ⟨q1, q2, q3, q4, q5⟩ := h.file i b v f h1 h2
  have hty : ∀ k cells t, w.heap[k]? = some (.cells cells t (0, 0)) → t ≠ 5 → some k ≠ v.ownBlock := fun k cells t hk ht e => by
    obtain ⟨_, _, cells', hc'⟩ := q3.own k e.symm
    exact ne_of_type hk hc' ht rfl
  have htm : ∀ k es cl, w.heap[k]? = some (.map es cl) → some k ≠ v.ownBlock := fun k es cl hk e => by
    obtain ⟨_, _, cells', hc'⟩ := q3.own k e.symm
    exact ne_of_obj hk hc' (by simp) rfl
  have hcell : ∀ k cells t, w.heap[k]? = some (.cells cells t (0, 0)) → own k → t ≠ 5 → t ≠ 70 → w'.heap[k]? = w.heap[k]? := fun k cells t hc hw h5 h70 => hk k (blk_lt hc) hw (ne_of_type hc q1 h70) (hty k cells t hc h5)
  have hmap : ∀ k es cl, w.heap[k]? = some (.map es cl) → own k → w'.heap[k]? = w.heap[k]? := fun k es cl hc hw => hk k (blk_lt hc) hw (ne_of_obj hc q1 (by simp)) (htm k es cl hc)
  have hil : i < G.fs.length := (List.getElem?_eq_some_iff.1 h1).1
  have hget : ∀ (j : Nat) (x : Nat × Value), (G.fs.set i (b, v'))[j]? = some x → (j = i ∧ x = (b, v')) ∨ (j ≠ i ∧ G.fs[j]? = some x) := fun j x hj => by
    rw [List.getElem?_set] at hj
    by_cases e : i = j
    · rw [if_pos e] at hj
      subst e
      rw [if_pos hil] at hj
      exact .inl ⟨rfl, (Option.some.inj hj).symm⟩
    · rw [if_neg e] at hj
      exact .inr ⟨fun e2 => e e2.symm, hj⟩
  have hlen : (S.files.modify i F).length = S.files.length := List.length_modify ..
  refine ⟨(hcell g _ _ h.blk h.og (by decide) (by decide)).trans h.blk, ho g h.og, ?_, fun b hb => ho b (h.ofv b hb), ?_, fun j c u fj hj1 hj2 => ?_, fun j k x y hx hy hjk => ?_, map_kept h.nm (hmap _ _ _ hnm h.om.1), map_kept h.dm (hmap _ _ _ hdm h.om.2.1), ⟨ho _ h.om.1, ho _ h.om.2.1, h.om.2.2⟩,
    row_kept h.cv (fun k hb => ?_), fun b hb => ho b (h.ocv b hb), ?_, ?_, ?_, fun c hc => ?_⟩
  · show w'.ownsRow 0 68 1 G.fv (S.files.modify i F).length ((G.fs.set i (b, v')).map (fun x => ptr x.1))
    rw [upd_map h1, hlen]
    exact row_kept h.fv (fun k hb => by
      obtain ⟨hl, cells, hc⟩ := row_typed h.fv k hb
      exact hcell k _ _ hc (h.ofv k hb) (by decide) (by decide))
  · show (G.fs.set i (b, v')).length = (S.files.modify i F).length
    rw [hlen, List.length_set]
    exact h.len
  · have hj2' : (S.files.modify i F)[j]? = some fj := hj2
    rw [List.getElem?_modify] at hj2'
    rcases hget j (c, u) hj1 with ⟨e, hx⟩ | ⟨e, hx⟩
    · subst e
      rw [h2] at hj2'
      simp only [if_true, Option.map_eq_map, Option.map_some, Option.some.injEq] at hj2'
      obtain ⟨rfl, rfl⟩ := Prod.mk.inj hx
      subst hj2'
      exact ⟨hb, ho _ q2, hd, hs, hD⟩
    · have hj3 : S.files[j]? = some fj := by
        simpa [show i ≠ j from fun e2 => e e2.symm] using hj2'
      obtain ⟨r1, r2, r3, r4, r5⟩ := h.file j c u fj hx hj3
      have hne := h.inj j i (c, u) (b, v) hx h1 e
      refine ⟨(hk c (blk_lt r1) r2 hne.1 (hty c _ _ r1 (by decide))).trans r1, ho _ r2, r3.step (fun k hb => ?_) ho, r4, Nat.le_trans r5 hD2⟩
      obtain ⟨o1, o2, cells, hc⟩ := r3.own k hb
      exact hk k o2 o1 (ne_of_type hc q1 (by decide)) (fun e2 => hne.2 k hb e2.symm)
  · rcases hget j x hx with ⟨e1, rfl⟩ | ⟨e1, hxx⟩ <;> rcases hget k y hy with ⟨e2, rfl⟩ | ⟨e2, hyy⟩
    · omega
    · subst e1
      have hne := h.inj j k (b, v) y h1 hyy hjk
      refine ⟨hne.1, fun q hq => ?_⟩
      rcases hn q hq with hq | hq
      · exact hne.2 q hq
      · intro e3
        obtain ⟨fy, hfy⟩ : ∃ fy, S.files[k]? = some fy := ⟨_, List.getElem?_eq_getElem (by rw [← h.len]; exact (List.getElem?_eq_some_iff.1 hyy).1)⟩
        have := ((h.file k y.1 y.2 fy hyy hfy).2.2.1.own q e3).2.1
        omega
    · subst e2
      have hne := h.inj j k x (b, v) hxx h1 hjk
      refine ⟨hne.1, fun q hq e3 => ?_⟩
      rcases hn q e3 with hq2 | hq2
      · exact hne.2 q hq hq2
      · obtain ⟨fy, hfy⟩ : ∃ fy, S.files[j]? = some fy := ⟨_, List.getElem?_eq_getElem (by rw [← h.len]; exact (List.getElem?_eq_some_iff.1 hxx).1)⟩
        have := ((h.file j x.1 x.2 fy hxx hfy).2.2.1.own q hq).2.1
        omega
    · exact h.inj j k x y hxx hyy hjk
  · obtain ⟨hl, cells, hc⟩ := row_typed h.cv k hb
    exact hcell k _ _ hc (h.ocv k hb) (by decide) (by decide)
  · show (S.files.modify i F).length ≤ S.ops ∧ _
    rw [hlen]
    exact h.bnd
  · show Leads S.names (S.files.modify i F).length
    rw [hlen]
    exact h.ln
  · show Leads S.durable (S.files.modify i F).length
    rw [hlen]
    exact h.ld
  · show c.okL (S.files.modify i F).length
    rw [hlen]
    exact h.lc c hc
def FsS.sync (S : FsS) (n : ByteArray) : Int × FsS :=
  if S.beginC [n] = 0 then (match S.at_ n with | some i => (0, S.beginT.upd i (fun f => (f.1, f.1.length))) | none => (7, S.beginT)) else (S.beginC [n], S.beginT)
set_option maxHeartbeats 4000000 in
set_option maxRecDepth 100000 in
theorem sync_calls (n : ByteArray) (w : World) (own : Nat → Prop) (g : Nat) (S : FsS) (hS : FsIs w own g S) (hu : Under own w) (hdat : S.dat ≤ 1000000000) :
    Calls Tryd.prog 25 #[.pointer (some ⟨g, 0, none⟩), .string n] w fun e w' => e = .returned (.int .i64 (S.sync n).1) ∧ FsIs w' (More own w w') g (S.sync n).2 ∧ Turn own w w' := by
  have HS0 := Aside0.mk (hS.below (below_alloc (Below.refl _ _) (.cells #[.string n] 9)))
  have hbg := begin_calls (some ⟨w.heap.size, 0, none⟩) 1 [n] _ own g S HS0.out (SR.one w n) (by simp) (fun ad e => by injection e with e; subst e; exact fun h => absurd (hu _ h) (Nat.lt_irrefl _))
  have HT0 := Aside0.mk (Turn.below (below_alloc (Below.refl w.heap.size w) (.cells #[.string n] 9)) own)
  have HU := Aside0.mk hu
  obtain ⟨C, hC⟩ : ∃ C, C = S.beginC [n] := ⟨_, rfl⟩
  obtain ⟨T, hT⟩ : ∃ T, T = S.beginT := ⟨_, rfl⟩
  rw [← hC, ← hT, List.length_singleton] at hbg
  have ET := Aside0.mk hT
  clear hS hu
  by_cases h0 : C = 0
  case neg =>
    have ER := Aside0.mk (show S.sync n = (C, T) by unfold FsS.sync; rw [← hC, if_neg h0, hT])
    have e1 : (C != 0) = true := bne_iff_ne.mpr h0
    clear hC hT h0
    go_enter Tryd.func25, Tryd.ntmps25
    go_wp2_with (go_at_call 41; refine hbg.mono ?_; rintro e w1 ⟨rfl, hI, ht⟩; have HI1 := Aside0.mk hI; have HT1 := Aside0.mk (HT0.out.trans ht (fun _ h => .inl h)); clear hI ht hbg)
    go_ret
    exact ⟨by rw [ER.out]; rfl, by rw [ER.out]; exact HI1.out.mono (fun k hk => .inl hk), HT1.out⟩
  subst h0
  have hmay : mayS n = true := by have := begin_zero hC.symm; simpa using this
  have hns := may_size hmay
  obtain ⟨f1, f2, f3, f4, f5, f6, f7, f8⟩ := beginT_files S
  rw [← hT] at f3 f4
  have hat : T.at_ n = S.at_ n := by unfold FsS.at_; rw [f3]
  have HN := Aside0.mk hns
  have HD := Aside0.mk (show T.dat ≤ 1000000000 by omega)
  cases hi : S.at_ n with
  | none =>
    have ER := Aside0.mk (show S.sync n = (7, T) by unfold FsS.sync; rw [← hC, if_pos rfl, hi, hT])
    rw [hi] at hat
    have HH := Aside0.mk hat
    clear hC hT hi hmay hns f1 f2 f3 f4 f5 f6 f7 f8 hat
    go_enter Tryd.func25, Tryd.ntmps25
    go_upto_region 4 with (go_at_call 41; refine hbg.mono ?_; rintro e w1 ⟨rfl, hI, ht⟩; have HI1 := Aside0.mk hI; have HT1 := Aside0.mk (HT0.out.trans ht (fun _ h => .inl h)); clear hI ht hbg)
    obtain ⟨G, hG⟩ := HI1.out
    have HG := Aside0.mk hG
    clear hG
    go_wp2_with (go_at_call 43; refine (of_calls n HN.out w1 own g T G HG.out).mono ?_; rintro e w2 ⟨rfl, ⟨_, rfl⟩ | ⟨i, b, v, hx, _⟩⟩; rotate_left; exact absurd hx (by rw [HH.out]; simp))
    go_ret
    exact ⟨by rw [ER.out]; rfl, by rw [ER.out]; exact HI1.out.mono (fun k hk => .inl hk), HT1.out⟩
  | some i =>
    have ER := Aside0.mk (show S.sync n = (0, T.upd i (fun f => (f.1, f.1.length))) by unfold FsS.sync; rw [← hC, if_pos rfl, hi, hT])
    rw [hi] at hat
    have HH := Aside0.mk hat
    clear hC hT hi hmay hns f1 f2 f3 f4 f5 f6 f7 f8 hat
    go_enter Tryd.func25, Tryd.ntmps25
    go_upto_region 4 with (go_at_call 41; refine hbg.mono ?_; rintro e w1 ⟨rfl, hI, ht⟩; have HI1 := Aside0.mk hI; have HT1 := Aside0.mk (HT0.out.trans ht (fun _ h => .inl h)); clear hI ht hbg)
    obtain ⟨G, hG⟩ := HI1.out
    have HG := Aside0.mk hG
    clear hG
    go_upto_region 6 with (go_at_call 43; refine (of_calls n HN.out w1 own g T G HG.out).mono ?_; rintro e w2 ⟨rfl, ⟨hx, _⟩ | ⟨i', b, v, hi', hgf, hlt, rfl⟩⟩; exact absurd HH.out (by rw [at_none hx]; simp))
    obtain rfl : i' = i := by rw [HH.out] at hi'; exact (Option.some.inj hi').symm
    obtain ⟨f, hf⟩ : ∃ f, T.files[i']? = some f := ⟨_, List.getElem?_eq_getElem hlt⟩
    obtain ⟨q1, q2, q3, q4, q5⟩ := HG.out.file i' b v f hgf hf
    obtain ⟨A, cc, rfl⟩ := q3.slice
    have c0 : w2.cell? ⟨b, 0, none⟩ = some (.slice A f.1.length cc) := blk_cell q1 0
    have c1 : w2.cell? ⟨b, 1, none⟩ = some (.int .i64 (f.2 : Int)) := blk_cell q1 1
    have fr1 := blk_frozen q1 1
    have HX := Aside0.mk (HG.out.setFile (w' := w2.setCell ⟨b, 1, none⟩ (.int .i64 (f.1.length : Int))) (own' := own) i' b _ f hgf hf (.slice A f.1.length cc) (fun f => (f.1, f.1.length)) T.dat (blk_put q1 1 _ rfl)
      (q3.step (fun k hk => Below.heap_setCell _ ⟨b, 1, none⟩ _ k (by obtain ⟨_, _, cells, hc⟩ := q3.own k hk; exact ne_of_type hc q1 (by decide))) (fun _ h => h)) (fun _ h => h) (Nat.le_refl _) q5 (Nat.le_refl _) (fun k _ _ hk _ => Below.heap_setCell _ ⟨b, 1, none⟩ _ k hk) (fun k hk => .inl hk))
    have HT2 := Aside0.mk (HT1.out.trans (Turn.set b 1 (.int .i64 (f.1.length : Int)) q2) (fun _ h => .inl h))
    clear q1 q2 q3 q4 q5 hgf hf hi' hlt
    go_wp2
    go_ret
    refine ⟨by rw [ER.out]; rfl, by rw [ER.out]; exact FsIs.mono ⟨_, HX.out⟩ (fun k hk => .inl hk), HT2.out⟩
end Go.Proofs.YtnnlmackofopeaaDoor.Fs
