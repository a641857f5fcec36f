/- Contract of (*Fs).Create. -/
import Derived.Test.YtnnlmackofopeaaDoorFsRename
namespace Go.Proofs.YtnnlmackofopeaaDoor.Fs
open Go.RowKit Go.Lib Go.Maps Go.Proofs.YtnnlmackofopeaaDoorW.PrintWords Go.Proofs.YtnnlmackofopeaaDoorW.PrintLast Go.Proofs.YtnnlmackofopeaaDoorW.PrintMore
set_option linter.unusedVariables false
set_option linter.unusedSimpArgs false
abbrev newFile : Obj := .cells #[.slice none 0 0, .int .i64 0] 70 (0, 0)
def FsS.file1 (S : FsS) : FsS := { S with files := S.files ++ [([], 0)], ops := S.ops + 1 }
/-- A new file. -/
theorem FsAt.pushF {w W : World} {own : Nat → Prop} {g : Nat} {S : FsS} {G : FsG} (h : FsAt w own g S G) (hu : Under own w) (fv : Value) (hg : (w.alloc newFile).grownBy W G.fv.ownBlock) (hr : W.ownsRow 0 68 1 fv (S.files.length + 1) (G.fs.map (fun x => ptr x.1) ++ [ptr w.heap.size])) (hat : fv.ownBlock = G.fv.ownBlock ∨ ∃ b, fv.ownBlock = some b ∧ (w.alloc newFile).heap.size ≤ b) :
    FsAt (W.setCell ⟨g, 3, none⟩ fv) (More own w (W.setCell ⟨g, 3, none⟩ fv)) g S.file1 { G with fv := fv, fs := G.fs ++ [(w.heap.size, .slice none 0 0)] } ∧ Turn own w (W.setCell ⟨g, 3, none⟩ fv) := by
  have hsa : (w.alloc newFile).heap.size = w.heap.size + 1 := by simp
  have hne : ∀ k cells t, w.heap[k]? = some (.cells cells t (0, 0)) → t ≠ 68 → some k ≠ G.fv.ownBlock := fun k cells t hk ht e => by
    obtain ⟨_, cells', hc'⟩ := row_typed h.fv k e.symm
    exact ne_of_type hk hc' ht rfl
  have hnem : ∀ k es cl, w.heap[k]? = some (.map es cl) → some k ≠ G.fv.ownBlock := fun k es cl hk e => by
    obtain ⟨_, cells', hc'⟩ := row_typed h.fv k e.symm
    exact ne_of_obj hk hc' (by simp) rfl
  have hgo : ∀ k, k < w.heap.size → some k ≠ G.fv.ownBlock → W.heap[k]? = w.heap[k]? := fun k h1 h2 => (hg.block k (by omega) h2).trans (Below.heap_alloc w newFile k h1)
  have hgg : W.heap[g]? = w.heap[g]? := hgo g (blk_lt h.blk) (hne g _ _ h.blk (by decide))
  have hset : ∀ k, k ≠ g → (W.setCell ⟨g, 3, none⟩ fv).heap[k]? = W.heap[k]? := fun k hk => Below.heap_setCell _ ⟨g, 3, none⟩ _ k hk
  have hsz : (W.setCell ⟨g, 3, none⟩ fv).heap.size = W.heap.size := World.size_setCell ..
  have hk : ∀ k, k ≠ g → k < w.heap.size → some k ≠ G.fv.ownBlock → (W.setCell ⟨g, 3, none⟩ fv).heap[k]? = w.heap[k]? := fun k h1 h2 h3 => (hset k h1).trans (hgo k h2 h3)
  obtain ⟨es, cl, hn⟩ := map_blk h.nm
  obtain ⟨es', cl', hd⟩ := map_blk h.dm
  have hWs : w.heap.size + 1 ≤ W.heap.size := by have := hg.size; omega
  have hnew : (W.setCell ⟨g, 3, none⟩ fv).heap[w.heap.size]? = some newFile := by
    rw [hset _ (by have := blk_lt h.blk; omega), hg.block _ (by omega) (fun e => by have := (row_typed h.fv _ e.symm).1; omega)]
    exact blk_new w newFile
  have hcg : ∀ b, fv.ownBlock = some b → b ≠ g := fun b hb e => by
    subst e
    obtain ⟨_, cells', hc'⟩ := row_typed hr b hb
    rw [hgg, h.blk] at hc'
    have := Option.some.inj hc'
    injection this with _ h2
    exact absurd h2 (by decide)
  have hfl : ∀ (i b : Nat) (v : Value), G.fs[i]? = some (b, v) → b < w.heap.size ∧ ∀ k, v.ownBlock = some k → k < w.heap.size := fun i b v hi => by
    have hi2 : i < S.files.length := by rw [← h.len]; exact (List.getElem?_eq_some_iff.1 hi).1
    obtain ⟨q1, q2, q3, q4, q5⟩ := h.file i b v _ hi (List.getElem?_eq_getElem hi2)
    exact ⟨blk_lt q1, fun k hk => (q3.own k hk).2.1⟩
  refine ⟨⟨blk_put (hgg.trans h.blk) 3 _ rfl, .inl h.og, ?_, fun b hb => ?_, ?_, fun i b v f h1 h2 => ?_, fun i j x y h1 h2 hij => ?_, map_kept h.nm (hk _ (ne_of_obj hn h.blk (by simp)) (blk_lt hn) (hnem _ _ _ hn)), map_kept h.dm (hk _ (ne_of_obj hd h.blk (by simp)) (blk_lt hd) (hnem _ _ _ hd)), ⟨.inl h.om.1, .inl h.om.2.1, h.om.2.2⟩,
    row_kept h.cv (fun k hb => ?_), fun b hb => .inl (h.ocv b hb), ?_, ?_, ?_, fun x hx => ?_⟩, ?_⟩
  · have := row_kept (w' := W.setCell ⟨g, 3, none⟩ fv) hr (fun b hb => hset b (hcg b hb))
    rw [show S.file1.files.length = S.files.length + 1 by unfold FsS.file1; simp]
    simpa using this
  · rcases hat with e | ⟨b', e, hb'⟩
    · exact .inl (h.ofv b (by rw [← e]; exact hb))
    · rw [e] at hb
      injection hb with hb
      subst hb
      exact .inr ⟨by omega, by rw [hsz]; exact (row_typed hr _ e).1⟩
  · unfold FsS.file1
    simp [h.len]
  · unfold FsS.file1 at h2
    by_cases hi : i < G.fs.length
    · rw [List.getElem?_append_left hi] at h1
      rw [List.getElem?_append_left (by rw [← h.len]; exact hi)] at h2
      obtain ⟨q1, q2, q3, q4, q5⟩ := h.file i b v f h1 h2
      refine ⟨(hk b (ne_of_type q1 h.blk (by decide)) (blk_lt q1) (hne b _ _ q1 (by decide))).trans q1, .inl q2, q3.step (fun k hb => ?_) (fun _ h => .inl h), q4, q5⟩
      obtain ⟨o1, o2, cells, hc⟩ := q3.own k hb
      exact hk k (ne_of_type hc h.blk (by decide)) o2 (hne k _ _ hc (by decide))
    · rw [List.getElem?_append_right (by omega)] at h1
      rw [List.getElem?_append_right (by rw [← h.len]; omega)] at h2
      have e0 : i - G.fs.length = 0 := by
        have := (List.getElem?_eq_some_iff.1 h1).1
        simp at this
        omega
      rw [e0] at h1
      rw [← h.len, e0] at h2
      simp only [List.getElem?_cons_zero, Option.some.injEq, Prod.mk.injEq] at h1
      obtain ⟨rfl, rfl⟩ := h1
      simp only [List.getElem?_cons_zero, Option.some.injEq] at h2
      subst h2
      exact ⟨hnew, .inr ⟨Nat.le_refl _, by rw [hsz]; omega⟩, DRow.nil _ _, Nat.le_refl _, Nat.zero_le _⟩
  · have hx : ∀ (i : Nat) (x : Nat × Value), (G.fs ++ [(w.heap.size, Value.slice none 0 0)])[i]? = some x → G.fs[i]? = some x ∨ (i = G.fs.length ∧ x = (w.heap.size, .slice none 0 0)) := fun i x hi => by
      by_cases hl : i < G.fs.length
      · rw [List.getElem?_append_left hl] at hi
        exact .inl hi
      · rw [List.getElem?_append_right (by omega)] at hi
        have e0 : i - G.fs.length = 0 := by
          have := (List.getElem?_eq_some_iff.1 hi).1
          simp at this
          omega
        rw [e0] at hi
        simp only [List.getElem?_cons_zero, Option.some.injEq] at hi
        exact .inr ⟨by omega, hi.symm⟩
    rcases hx i x h1 with a | ⟨a1, a2⟩ <;> rcases hx j y h2 with b | ⟨b1, b2⟩
    · exact h.inj i j x y a b hij
    · subst b2
      refine ⟨?_, fun k _ q => by simp [Value.ownBlock] at q⟩
      have := (hfl i x.1 x.2 a).1
      simp only
      omega
    · subst a2
      refine ⟨?_, fun k q => by simp [Value.ownBlock] at q⟩
      have := (hfl j y.1 y.2 b).1
      simp only
      omega
    · omega
  · obtain ⟨hl, cells, hc⟩ := row_typed h.cv k hb
    exact hk k (ne_of_type hc h.blk (by decide)) hl (hne k _ _ hc (by decide))
  · have := h.bnd
    unfold FsS.file1
    refine ⟨?_, ?_, ?_, ?_⟩
    · simp only [List.length_append, List.length_singleton]; omega
    · simp only; omega
    · simp only; omega
    · simp only; omega
  · exact leads_mono h.ln (by unfold FsS.file1; simp)
  · exact leads_mono h.ld (by unfold FsS.file1; simp)
  · exact okL_mono (h.lc x hx) (by unfold FsS.file1; simp)
  · exact ((Turn.below (below_alloc (Below.refl _ _) newFile) own).trans (Turn.grown hg (fun k hk => h.ofv k hk)) (fun _ h => .inl h)).trans (Turn.set g 3 fv h.og) (fun _ h => .inl h)
def FsS.create (S : FsS) (n : ByteArray) : Int × FsS := if S.beginC [n] = 0 then (0, S.beginT.file1.chg (.link n S.files.length)) else (S.beginC [n], S.beginT)
set_option maxHeartbeats 4000000 in
set_option maxRecDepth 100000 in
theorem create_calls (n : ByteArray) (w : World) (own : Nat → Prop) (g : Nat) (S : FsS) (hS : FsIs w own g S) (hu : Under own w) (hops : S.ops ≤ 90000) :
    Calls Tryd.prog 22 #[.pointer (some ⟨g, 0, none⟩), .string n] w fun e w' => e = .returned (.int .i64 (S.create n).1) ∧ FsIs w' (More own w w') g (S.create n).2 ∧ Turn own w w' := by
  have HS0 := Aside0.mk (hS.below (below_alloc (Below.refl _ _) (.cells #[.string n] 9)))
  have hbg := begin_calls (some ⟨w.heap.size, 0, none⟩) 1 [n] _ own g S HS0.out (SR.one w n) (by simp) (fun ad e => by injection e with e; subst e; exact fun h => absurd (hu _ h) (Nat.lt_irrefl _))
  have HT0 := Aside0.mk (Turn.below (below_alloc (Below.refl w.heap.size w) (.cells #[.string n] 9)) own)
  have HU := Aside0.mk hu
  have HOP := Aside0.mk hops
  obtain ⟨C, hC⟩ : ∃ C, C = S.beginC [n] := ⟨_, rfl⟩
  obtain ⟨T, hT⟩ : ∃ T, T = S.beginT := ⟨_, rfl⟩
  rw [← hC, ← hT, List.length_singleton] at hbg
  have ET := Aside0.mk hT
  clear hS hu hops
  by_cases h0 : C = 0
  case neg =>
    have ER := Aside0.mk (show S.create n = (C, T) by unfold FsS.create; rw [← hC, if_neg h0, hT])
    have e1 : (C != 0) = true := bne_iff_ne.mpr h0
    clear hC hT h0
    go_enter Tryd.func22, Tryd.ntmps22
    go_wp2_with (go_at_call 41; refine hbg.mono ?_; rintro e w1 ⟨rfl, hI, ht⟩; have HI1 := Aside0.mk hI; have HT1 := Aside0.mk (HT0.out.trans ht (fun _ h => .inl h)); clear hI ht hbg)
    go_ret
    exact ⟨by rw [ER.out]; rfl, by rw [ER.out]; exact HI1.out.mono (fun k hk => .inl hk), HT1.out⟩
  subst h0
  have hmay : mayS n = true := by have := begin_zero hC.symm; simpa using this
  have hns := may_size hmay
  obtain ⟨f1, f2, f3, f4, f5, f6, f7, f8⟩ := beginT_files S
  rw [← hT] at f1 f2 f3
  have HN := Aside0.mk hns
  have HF := Aside0.mk (And.intro f1 (And.intro f2 f3))
  have ER := Aside0.mk (show S.create n = (0, T.file1.chg (.link n T.files.length)) by unfold FsS.create; rw [← hC, if_pos rfl, hT, (beginT_files S).1])
  clear hC hT hmay hns f1 f2 f3 f4 f5 f6 f7 f8
  go_enter Tryd.func22, Tryd.ntmps22
  go_upto_region 4 with (go_at_call 41; refine hbg.mono ?_; rintro e w1 ⟨rfl, hI, ht⟩; have HI1 := Aside0.mk hI; have HT1 := Aside0.mk (HT0.out.trans ht (fun _ h => .inl h)); clear hI ht hbg)
  obtain ⟨G, hG⟩ := HI1.out
  have c3 : w1.cell? ⟨g, 3, none⟩ = some G.fv := blk_cell hG.blk 3
  have f3 := blk_frozen hG.blk 3
  obtain ⟨A, cc, hfv⟩ := row_slice hG.fv
  rw [hfv] at c3
  have hrow0 := hG.fv
  rw [hfv] at hrow0
  have HB := Aside0.mk (And.intro hG.bnd HF.out)
  have HG := Aside0.mk hG
  have HFV := Aside0.mk hfv
  have HR0 := Aside0.mk (hrow0.alloc newFile)
  have HU1 := Aside0.mk (show Under own w1 from fun k hk => Nat.lt_of_lt_of_le (HU.out k hk) HT1.out.size)
  clear hG hfv hrow0
  go_upto_region 5 with ((with_reducible refine gate_builtin (b := .append) (xs := #[.tmp 17, .tmp 20]) rfl ?_); at_builtin; refine print_append_cells (w0 := w1.alloc newFile) 0 rfl (.tmp 17) (.tmp 20) 62 68 (.pointer none) 1 8 rfl Tryd.underlying62 info68 rfl (by decide) (by decide) (.slice A T.files.length cc) T.files.length (G.fs.map (fun x => ptr x.1)) [ptr w1.heap.size] rfl (by rw [show (w1.alloc newFile).heap.size = w1.heap.size + 1 by simp]; rfl) rfl ?h1 ?HO ?HB ?hb ?hl ?_)
  case h1 => intro u hu; rw [List.mem_singleton.1 hu]; rfl
  case HO => exact HR0.out
  case HB => exact Below.refl _ _
  case hb => exact Nat.zero_le _
  case hl => have := HB.out; have := HOP.out; omega
  intro v2 w2 hrow hbel hgr hat
  have hg0 : (w1.alloc newFile).grownBy w2 G.fv.ownBlock := by rw [HFV.out]; exact hgr
  have hh2 := (HG.out.move (w' := w1.alloc newFile) (fun k hk _ => Below.heap_alloc w1 newFile k hk) (fun _ h => h)).head_kept (v := G.fv) (by rw [HFV.out]; exact HR0.out) (by decide) hg0
  have hb2 := hh2.trans ((Below.heap_alloc w1 newFile g (blk_lt HG.out.blk)).trans HG.out.blk)
  have c3 : w2.cell? ⟨g, 3, none⟩ = some G.fv := blk_cell hb2 3
  have f3 := blk_frozen hb2 3
  have HP := Aside0.mk (HG.out.pushF HU1.out v2 hg0 hrow (by
    rcases hat with h | ⟨b, h1, h2⟩
    · exact .inl (by rw [h, HFV.out])
    · exact .inr ⟨b, h1, by simpa using h2⟩))
  clear hg0 hh2 hb2 hrow hbel hgr hat
  obtain ⟨A2, c2, rfl⟩ : ∃ A2 c2, v2 = .slice A2 (T.files.length + 1) c2 := by
    obtain ⟨A2, c2, h⟩ := row_slice HP.out.1.fv
    refine ⟨A2, c2, ?_⟩
    have e : v2 = .slice A2 (T.files ++ [(([], 0) : List Int × Nat)]).length c2 := h
    rw [List.length_append, List.length_singleton] at e
    exact e
  go_upto_region 5 with (fail)
  have HT3 := Aside0.mk (HT1.out.trans HP.out.2 (fun _ h => .inl h))
  obtain ⟨W3, hW3⟩ : ∃ W3, W3 = w2.setCell ⟨g, 3, none⟩ (.slice A2 (T.files.length + 1) c2) := ⟨_, rfl⟩
  rw [← hW3] at HP HT3 ⊢
  clear hW3 c3 f3
  have c3 : W3.cell? ⟨g, 3, none⟩ = some (.slice A2 (T.files.length + 1) c2) := blk_cell HP.out.1.blk 3
  have e1 : wrap64 (T.files.length : Int) = (T.files.length : Int) := by have := HB.out; have := HOP.out; unfold wrap64; omega
  have HC2 := Aside0.mk (change_calls (.link n T.files.length) W3 (More own w1 W3) g T.file1 ⟨_, HP.out.1⟩ ⟨by unfold FsS.file1; simp, HN.out⟩ (by unfold FsS.file1; have := HB.out; have := HOP.out; simp only; omega))
  go_wp2_with (go_at_call 42; refine HC2.out.mono ?_; rintro e w4 ⟨rfl, hI, ht⟩; have HI4 := Aside0.mk hI; have HT4 := Aside0.mk ht; clear hI ht)
  go_ret
  refine ⟨by rw [ER.out]; rfl, by rw [ER.out]; exact HI4.out.mono (fun k hk => more_step HT1.out.size k (more_trans HP.out.2.size HT4.out.size k hk)), HT3.out.trans HT4.out (fun k hk => ?_)⟩
  rcases hk with hk | hk
  · exact .inl hk
  · exact .inr (Nat.le_trans HT1.out.size hk.1)
end Go.Proofs.YtnnlmackofopeaaDoor.Fs
