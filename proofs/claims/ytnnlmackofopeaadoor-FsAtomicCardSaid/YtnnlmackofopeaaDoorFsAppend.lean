/- Contract of (*Fs).Append. -/
import Derived.Test.YtnnlmackofopeaaDoorFsMoreBytes
namespace Go.Proofs.YtnnlmackofopeaaDoor.Fs
open Go.RowKit Go.Lib Go.Maps Go.Shelf Go.Proofs.YtnnlmackofopeaaDoorW.PrintWords Go.Proofs.YtnnlmackofopeaaDoorW.PrintLast Go.Proofs.YtnnlmackofopeaaDoorW.PrintMore
set_option linter.unusedVariables false
set_option linter.unusedSimpArgs false
def FsS.app (S : FsS) (i : Nat) (ys : List Int) : FsS := { S.upd i (fun f => (f.1 ++ ys, f.2)) with dat := S.dat + ys.length }
def FsS.append (S : FsS) (n : ByteArray) (ys : List Int) : Int × FsS :=
  if S.beginC [n] = 0 then (match S.at_ n with | some i => if S.quota < (S.used : Int) + (ys.length : Int) then (10, S.beginT) else (0, S.beginT.app i ys) | none => (7, S.beginT)) else (S.beginC [n], S.beginT)
theorem used_begin (S : FsS) : S.beginT.used = S.used := by
  obtain ⟨f1, f2, f3, f4, f5, f6, f7, f8⟩ := beginT_files S
  unfold FsS.used
  rw [f1, f3]
set_option maxHeartbeats 4000000 in
set_option maxRecDepth 100000 in
theorem append_calls (n : ByteArray) (A : Option Addr) (c : Nat) (ys : List Int) (w : World) (own : Nat → Prop) (g : Nat) (S : FsS) (hS : FsIs w own g S) (hu : Under own w) (hr : BR w A ys) (hA : ys = [] ∨ ∀ ad, A = some ad → ¬ own ad.block) (hbig : S.ops * S.dat ≤ 1000000000000000) (hdat : S.dat ≤ 1000000000) (hyl : ys.length ≤ 1000000000) :
    Calls Tryd.prog 24 #[.pointer (some ⟨g, 0, none⟩), .string n, .slice A ys.length c] w fun e w' => e = .returned (.int .i64 (S.append n ys).1) ∧ FsIs w' (More own w w') g (S.append n ys).2 ∧ Turn own w w' := by
  have HS0 := Aside0.mk (hS.below (below_alloc (Below.refl _ _) (.cells #[.string n] 9)))
  have hbg := begin_calls (some ⟨w.heap.size, 0, none⟩) 1 [n] _ own g S HS0.out (SR.one w n) (by simp) (fun ad e => by injection e with e; subst e; exact fun h => absurd (hu _ h) (Nat.lt_irrefl _))
  have HT0 := Aside0.mk (Turn.below (below_alloc (Below.refl w.heap.size w) (.cells #[.string n] 9)) own)
  have HU := Aside0.mk hu
  have HR := Aside0.mk (And.intro hr (And.intro hA hyl))
  obtain ⟨C, hC⟩ : ∃ C, C = S.beginC [n] := ⟨_, rfl⟩
  obtain ⟨T, hT⟩ : ∃ T, T = S.beginT := ⟨_, rfl⟩
  rw [← hC, ← hT, List.length_singleton] at hbg
  have ET := Aside0.mk hT
  clear hS hu hr hA
  obtain ⟨m, hm⟩ : ∃ m, m = ys.length := ⟨_, rfl⟩
  rw [← hm]
  by_cases h0 : C = 0
  case neg =>
    have ER := Aside0.mk (show S.append n ys = (C, T) by unfold FsS.append; rw [← hC, if_neg h0, hT])
    have e1 : (C != 0) = true := bne_iff_ne.mpr h0
    clear hC hT h0 hm hyl hbig hdat
    go_enter Tryd.func24, Tryd.ntmps24
    go_wp2_with (go_at_call 41; refine hbg.mono ?_; rintro e w1 ⟨rfl, hI, ht⟩; have HI1 := Aside0.mk hI; have HT1 := Aside0.mk (HT0.out.trans ht (fun _ h => .inl h)); clear hI ht hbg)
    go_ret
    exact ⟨by rw [ER.out]; rfl, by rw [ER.out]; exact HI1.out.mono (fun k hk => .inl hk), HT1.out⟩
  subst h0
  have hmay : mayS n = true := by have := begin_zero hC.symm; simpa using this
  have hns := may_size hmay
  obtain ⟨f1, f2, f3, f4, f5, f6, f7, f8⟩ := beginT_files S
  have hud := used_begin S
  rw [← hT] at f1 f2 f3 f4 f7 hud
  have hat : T.at_ n = S.at_ n := by unfold FsS.at_; rw [f3]
  have HN := Aside0.mk hns
  have HD := Aside0.mk (show T.dat ≤ 1000000000 by omega)
  have HBIG := Aside0.mk (show T.ops * T.dat ≤ 1000000000000000 by rw [f2, f4]; exact hbig)
  cases hi : S.at_ n with
  | none =>
    have ER := Aside0.mk (show S.append n ys = (7, T) by unfold FsS.append; rw [← hC, if_pos rfl, hi, hT])
    rw [hi] at hat
    have HH := Aside0.mk hat
    clear hC hT hi hmay hns f1 f2 f3 f4 f5 f6 f7 f8 hat hud hm hyl hbig hdat
    go_enter Tryd.func24, Tryd.ntmps24
    go_upto_region 4 with (go_at_call 41; refine hbg.mono ?_; rintro e w1 ⟨rfl, hI, ht⟩; have HI1 := Aside0.mk hI; have HT1 := Aside0.mk (HT0.out.trans ht (fun _ h => .inl h)); clear hI ht hbg)
    obtain ⟨G, hG⟩ := HI1.out
    have HG := Aside0.mk hG
    clear hG
    go_wp2_with (go_at_call 43; refine (of_calls n HN.out w1 own g T G HG.out).mono ?_; rintro e w2 ⟨rfl, ⟨_, rfl⟩ | ⟨i, b, v, hx, _⟩⟩; rotate_left; exact absurd hx (by rw [HH.out]; simp))
    go_ret
    exact ⟨by rw [ER.out]; rfl, by rw [ER.out]; exact HI1.out.mono (fun k hk => .inl hk), HT1.out⟩
  | some i =>
    have er : S.append n ys = if T.quota < (T.used : Int) + (m : Int) then (10, T) else (0, T.app i ys) := by
      unfold FsS.append
      rw [← hC, if_pos rfl, hi, f7, hud, hm, hT]
    have ER := Aside0.mk er
    rw [hi] at hat
    have HH := Aside0.mk hat
    have HM := Aside0.mk hm
    clear hC hT hi hmay hns f1 f2 f3 f4 f5 f6 f7 f8 hat hud hm hyl hbig hdat er
    go_enter Tryd.func24, Tryd.ntmps24
    go_upto_region 4 with (go_at_call 41; refine hbg.mono ?_; rintro e w1 ⟨rfl, hI, ht⟩; have HI1 := Aside0.mk hI; have HT1 := Aside0.mk (HT0.out.trans ht (fun _ h => .inl h)); clear hI ht hbg)
    obtain ⟨G, hG⟩ := HI1.out
    have HG := Aside0.mk hG
    clear hG
    go_upto_region 7 with (go_at_call 43; refine (of_calls n HN.out w1 own g T G HG.out).mono ?_; rintro e w2 ⟨rfl, ⟨hx, _⟩ | ⟨i', b, v, hi', hgf, hlt, rfl⟩⟩; exact absurd HH.out (by rw [at_none hx]; simp))
    obtain rfl : i' = i := by rw [HH.out] at hi'; exact (Option.some.inj hi').symm
    obtain ⟨f, hf⟩ : ∃ f, T.files[i']? = some f := ⟨_, List.getElem?_eq_getElem hlt⟩
    have c0 : w2.cell? ⟨g, 0, none⟩ = some (.int .i64 T.quota) := blk_cell HG.out.blk 0
    have HGF := Aside0.mk (And.intro hgf hf)
    have HD2 := Aside0.mk (show FsIs w2.drew own g T from FsIs.move (w := w2) ⟨G, HG.out⟩ (fun _ _ _ => rfl) (fun _ h => h))
    have husd := HG.out.used_le
    have e1 : IntKind.i64.wrap ((T.used : Int) + (m : Int)) = (T.used : Int) + (m : Int) := by
      have h1 := Nat.le_trans husd HBIG.out
      have h2 := HR.out.2.2
      have h3 := HM.out
      exact IntWalk.i64_in _ (by omega)
    have HUL := Aside0.mk husd
    clear hi' hgf hlt hf husd
    go_region_held3 (fun w' => w'.cell? ⟨g, 0, none⟩ = some (.int .i64 T.quota)) (first | exact c0 | exact c3) (first | (go_at_call 28; refine (used_calls _ own g T HD2.out HBIG.out).mono ?_; rintro e w3 ⟨rfl, hb3⟩; have HB3 := Aside0.mk (show Below w2.heap.size w2 w3 from ⟨hb3.os, hb3.tape, hb3.output, hb3.size, hb3.block⟩); have c3 : w3.cell? ⟨g, 0, none⟩ = some (.int .i64 T.quota) := blk_cell (blk_below HG.out.blk HB3.out) 0; clear hb3))
    have HT3 := Aside0.mk (HT1.out.then_below HB3.out)
    have HG3 := Aside0.mk (show FsAt w3 own g T G from HG.out.move (fun k hk _ => HB3.out.block k hk) (fun _ h => h))
    have HR3 := Aside0.mk (show BR w3 A ys from (HR.out.1.turn HT3.out HR.out.2.1))
    clear c0
    obtain ⟨bq, hbq⟩ : ∃ bq, bq = decide (T.quota < (T.used : Int) + (m : Int)) := ⟨_, rfl⟩
    rw [← hbq]
    by_cases hq : T.quota < (T.used : Int) + (m : Int)
    · have ER2 := Aside0.mk (show S.append n ys = (10, T) by rw [ER.out, if_pos hq])
      obtain rfl : bq = true := by rw [hbq, decide_eq_true hq]
      clear hq hbq
      go_wp2
      go_ret
      exact ⟨by rw [ER2.out]; rfl, by rw [ER2.out]; exact FsIs.mono ⟨_, HG3.out⟩ (fun k hk => .inl hk), HT3.out⟩
    · have ER2 := Aside0.mk (show S.append n ys = (0, T.app i' ys) by rw [ER.out, if_neg hq])
      obtain rfl : bq = false := by rw [hbq, decide_eq_false hq]
      obtain ⟨q1, q2, q3, q4, q5⟩ := HG3.out.file i' b v f HGF.out.1 HGF.out.2
      obtain ⟨B, cc, rfl⟩ := q3.slice
      have c0 : w3.cell? ⟨b, 0, none⟩ = some (.slice B f.1.length cc) := blk_cell q1 0
      have HQ := Aside0.mk (And.intro q1 (And.intro q2 (And.intro q3 (And.intro q4 q5))))
      clear hq hbq q1 q2 q3 q4 q5 c3
      go_wp2_with ((with_reducible refine gate_builtin (b := .append) (xs := #[.tmp 42, .tmp 43]) rfl ?_); at_builtin; refine wpList_append_drow w3 own rfl (.tmp 42) (.tmp 43) rfl (.slice B f.1.length cc) f.1 ys rfl HQ.out.2.2.1 A c (by rw [← HM.out]; rfl) HR3.out (by have := HQ.out.2.2.2.2; have := HD.out; have := HR.out.2.2; omega) ?_; intro v4 w4 hd4 hg4 hn4; obtain ⟨B4, c4, rfl⟩ := hd4.slice; have HD4 := Aside0.mk hd4; have HG4 := Aside0.mk hg4; have HN4 := Aside0.mk hn4; have hb4 := (hg4.block b (blk_lt HQ.out.1) (fun e => by obtain ⟨_, _, cells, hc⟩ := HQ.out.2.2.1.own b e.symm; exact ne_of_type HQ.out.1 hc (by decide) rfl)).trans HQ.out.1; have HB4 := Aside0.mk hb4; have c0 : w4.cell? ⟨b, 0, none⟩ = some (.slice B f.1.length cc) := blk_cell hb4 0; have fr0 := blk_frozen hb4 0; clear hd4 hg4 hn4 hb4)
      go_ret
      have hbn : ∀ k, (Value.slice B4 (f.1 ++ ys).length c4).ownBlock = some k → k ≠ b := fun k hk => by
        obtain ⟨_, _, cells, hc⟩ := HD4.out.own k hk
        exact ne_of_type hc HB4.out (by decide)
      have hsz : (w4.setCell ⟨b, 0, none⟩ (.slice B4 (f.1 ++ ys).length c4)).heap.size = w4.heap.size := World.size_setCell ..
      have hX := HG3.out.setFile (w' := w4.setCell ⟨b, 0, none⟩ (.slice B4 (f.1 ++ ys).length c4)) (own' := More own w3 w4) i' b _ f HGF.out.1 HGF.out.2 (.slice B4 (f.1 ++ ys).length c4) (fun f => (f.1 ++ ys, f.2)) (T.dat + ys.length) (blk_put HB4.out 0 _ rfl)
        (HD4.out.step (fun k hk => Below.heap_setCell _ ⟨b, 0, none⟩ _ k (hbn k hk)) (fun _ h => h)) (fun _ h => .inl h) (by have := HQ.out.2.2.2.1; rw [List.length_append]; omega) (by have := HQ.out.2.2.2.2; rw [List.length_append]; omega) (Nat.le_add_right _ _)
        (fun k hk _ hkb hkv => (Below.heap_setCell _ ⟨b, 0, none⟩ _ k hkb).trans (HG4.out.block k hk hkv)) HN4.out
      have hT4 : Turn own w (w4.setCell ⟨b, 0, none⟩ (.slice B4 (f.1 ++ ys).length c4)) := (HT3.out.trans (Turn.grown (own := own) HG4.out (fun k hk => (HQ.out.2.2.1.own k hk).1)) (fun _ h => .inl h)).trans (Turn.set (own := own) b 0 _ HQ.out.2.1) (fun _ h => .inl h)
      rw [List.length_append] at hX hT4 hsz
      refine ⟨by rw [ER2.out]; rfl, ?_, hT4⟩
      rw [ER2.out]
      refine FsIs.mono ⟨_, hX⟩ (fun k hk => ?_)
      rcases hk with hk | hk
      · exact .inl hk
      · exact .inr ⟨Nat.le_trans HT3.out.size hk.1, by rw [hsz]; exact hk.2⟩
end Go.Proofs.YtnnlmackofopeaaDoor.Fs
