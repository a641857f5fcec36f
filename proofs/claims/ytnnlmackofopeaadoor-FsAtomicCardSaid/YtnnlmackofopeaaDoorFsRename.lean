/- Contract of (*Fs).Rename. -/
import Derived.Test.YtnnlmackofopeaaDoorFsRemove
namespace Go.Proofs.YtnnlmackofopeaaDoor.Fs
open Go.RowKit Go.Lib Go.Maps Go.Proofs.YtnnlmackofopeaaDoorW.PrintWords Go.Proofs.YtnnlmackofopeaaDoorW.PrintLast Go.Proofs.YtnnlmackofopeaaDoorW.PrintMore
set_option linter.unusedVariables false
set_option linter.unusedSimpArgs false
def FsS.rename (S : FsS) (n o : ByteArray) : Int × FsS := if S.beginC [n, o] = 0 then (if has S.names (kl n) = true then (if n.toList = o.toList then (0, S.beginT) else (0, S.beginT.chg (.moved o ((S.at_ n).getD 0) n))) else (7, S.beginT)) else (S.beginC [n, o], S.beginT)
set_option maxHeartbeats 4000000 in
set_option maxRecDepth 100000 in
theorem rename_calls (n o : ByteArray) (w : World) (own : Nat → Prop) (g : Nat) (S : FsS) (hS : FsIs w own g S) (hu : Under own w) (hops : S.ops ≤ 90000) :
    Calls Tryd.prog 29 #[.pointer (some ⟨g, 0, none⟩), .string n, .string o] w fun e w' => e = .returned (.int .i64 (S.rename n o).1) ∧ FsIs w' (More own w w') g (S.rename n o).2 ∧ Turn own w w' := by
  have HS0 := Aside0.mk (hS.below (below_alloc (Below.refl _ _) (.cells #[.string n, .string o] 9)))
  have hbg := begin_calls (some ⟨w.heap.size, 0, none⟩) 2 [n, o] _ own g S HS0.out (SR.two w n o) (by simp) (fun ad e => by injection e with e; subst e; exact fun h => absurd (hu _ h) (Nat.lt_irrefl _))
  have HT0 := Aside0.mk (Turn.below (below_alloc (Below.refl w.heap.size w) (.cells #[.string n, .string o] 9)) own)
  have HOP := Aside0.mk hops
  obtain ⟨C, hC⟩ : ∃ C, C = S.beginC [n, o] := ⟨_, rfl⟩
  obtain ⟨T, hT⟩ : ∃ T, T = S.beginT := ⟨_, rfl⟩
  rw [← hC, ← hT, show ([n, o] : List ByteArray).length = 2 from rfl] at hbg
  have ET := Aside0.mk hT
  clear hS hu hops
  by_cases h0 : C = 0
  case neg =>
    have ER := Aside0.mk (show S.rename n o = (C, T) by unfold FsS.rename; rw [← hC, if_neg h0, hT])
    have e1 : (C != 0) = true := bne_iff_ne.mpr h0
    clear hC hT h0
    go_enter Tryd.func29, Tryd.ntmps29
    go_wp2_with (go_at_call 41; refine hbg.mono ?_; rintro e w1 ⟨rfl, hI, ht⟩; have HI1 := Aside0.mk hI; have HT1 := Aside0.mk (HT0.out.trans ht (fun _ h => .inl h)); clear hI ht hbg)
    go_ret
    exact ⟨by rw [ER.out]; rfl, by rw [ER.out]; exact HI1.out.mono (fun k hk => .inl hk), HT1.out⟩
  subst h0
  have hmay := begin_zero hC.symm
  have hn1 : n.size ≤ maxLen := may_size (by simp at hmay; exact hmay.1)
  have hn2 : o.size ≤ maxLen := may_size (by simp at hmay; exact hmay.2)
  obtain ⟨f1, f2, f3, f4, f5, f6, f7, f8⟩ := beginT_files S
  rw [← hT] at f1 f2 f3
  have HN := Aside0.mk (And.intro hn1 hn2)
  have HF := Aside0.mk (And.intro f1 (And.intro f2 f3))
  have hkey : keyOf Tryd.prog 9 (.string n) = some (kl n) := WideMaps.keyOf_string_mk Tryd.underlying9 hn1
  have HK := Aside0.mk hkey
  by_cases hh : has S.names (kl n) = true
  case neg =>
    have ER := Aside0.mk (show S.rename n o = (7, T) by unfold FsS.rename; rw [← hC, if_pos rfl, if_neg hh, hT])
    have HH := Aside0.mk (show has T.names (kl n) = false by rw [f3]; exact Bool.eq_false_iff.mpr hh)
    clear hC hT hh hmay hn1 hn2 hkey f1 f2 f3 f4 f5 f6 f7 f8
    go_enter Tryd.func29, Tryd.ntmps29
    go_upto_region 4 with (go_at_call 41; refine hbg.mono ?_; rintro e w1 ⟨rfl, hI, ht⟩; have HI1 := Aside0.mk hI; have HT1 := Aside0.mk (HT0.out.trans ht (fun _ h => .inl h)); clear hI ht hbg)
    obtain ⟨G, hG⟩ := HI1.out
    have c4 : w1.cell? ⟨g, 4, none⟩ = some (.map (some G.nb)) := blk_cell hG.blk 4
    have HG := Aside0.mk hG
    clear hG
    go_wp2_with (at_lookup; refine wpList_lookup_own_ok_int _ rfl _ _ 61 rfl 9 3 .i64 keyLaw Tryd.underlying61 Tryd.underlying3 (zero3 _) G.nb G.nn T.names rfl HG.out.nm _ _ rfl HK.out ?_; intro c hat hwc; rw [HH.out]; clear hat hwc)
    go_ret
    exact ⟨by rw [ER.out]; rfl, by rw [ER.out]; exact HI1.out.mono (fun k hk => .inl hk), HT1.out⟩
  by_cases he : n.toList = o.toList
  · have ER := Aside0.mk (show S.rename n o = (0, T) by unfold FsS.rename; rw [← hC, if_pos rfl, if_pos hh, if_pos he, hT])
    have HH := Aside0.mk (show has T.names (kl n) = true by rw [f3]; exact hh)
    have q1 : (n.toList == o.toList) = true := beq_iff_eq.mpr he
    have q2 : (n.toList != o.toList) = false := bne_eq_false_iff_eq.mpr he
    clear hC hT hh hmay hn1 hn2 hkey f1 f2 f3 f4 f5 f6 f7 f8 he
    go_enter Tryd.func29, Tryd.ntmps29
    go_upto_region 4 with (go_at_call 41; refine hbg.mono ?_; rintro e w1 ⟨rfl, hI, ht⟩; have HI1 := Aside0.mk hI; have HT1 := Aside0.mk (HT0.out.trans ht (fun _ h => .inl h)); clear hI ht hbg)
    obtain ⟨G, hG⟩ := HI1.out
    have c4 : w1.cell? ⟨g, 4, none⟩ = some (.map (some G.nb)) := blk_cell hG.blk 4
    have HG := Aside0.mk hG
    clear hG
    go_wp2_with (at_lookup; refine wpList_lookup_own_ok_int _ rfl _ _ 61 rfl 9 3 .i64 keyLaw Tryd.underlying61 Tryd.underlying3 (zero3 _) G.nb G.nn T.names rfl HG.out.nm _ _ rfl HK.out ?_; intro c hat hwc; rw [HH.out]; clear hat hwc)
    go_ret
    exact ⟨by rw [ER.out]; rfl, by rw [ER.out]; exact HI1.out.mono (fun k hk => .inl hk), HT1.out⟩
  · have q1 : (n.toList == o.toList) = false := beq_eq_false_iff_ne.mpr he
    have q2 : (n.toList != o.toList) = true := bne_iff_ne.mpr he
    have ER := Aside0.mk (show S.rename n o = (0, T.chg (.moved o ((S.at_ n).getD 0) n)) by unfold FsS.rename; rw [← hC, if_pos rfl, if_pos hh, if_neg he, hT])
    have HH := Aside0.mk (show has T.names (kl n) = true by rw [f3]; exact hh)
    have HAT := Aside0.mk (show T.at_ n = S.at_ n by unfold FsS.at_; rw [f3])
    clear hC hT hh hmay hn1 hn2 hkey f1 f2 f3 f4 f5 f6 f7 f8 he
    go_enter Tryd.func29, Tryd.ntmps29
    go_upto_region 4 with (go_at_call 41; refine hbg.mono ?_; rintro e w1 ⟨rfl, hI, ht⟩; have HI1 := Aside0.mk hI; have HT1 := Aside0.mk (HT0.out.trans ht (fun _ h => .inl h)); clear hI ht hbg)
    obtain ⟨G, hG⟩ := HI1.out
    have c4 : w1.cell? ⟨g, 4, none⟩ = some (.map (some G.nb)) := blk_cell hG.blk 4
    have HG := Aside0.mk hG
    obtain ⟨i, h1, h2, h3⟩ := at_some hG.ln HH.out
    have H1 := Aside0.mk h1
    have H2 := Aside0.mk (HAT.out.symm.trans h2)
    have H3 := Aside0.mk (h3 (.lit (.int .i64 0)))
    have hcc := Aside0.mk (change_calls (.moved o i n) w1 own g T ⟨G, HG.out⟩ ⟨h1, HN.out.2, HN.out.1⟩ (by rw [HF.out.2.1]; have := HOP.out; omega))
    clear hG h1 h2 h3
    go_wp2_with (first | (at_lookup; refine wpList_lookup_own_ok_int _ rfl _ _ 61 rfl 9 3 .i64 keyLaw Tryd.underlying61 Tryd.underlying3 (zero3 _) G.nb G.nn T.names rfl HG.out.nm _ _ rfl HK.out ?_; intro c hat hwc; rw [HH.out]; obtain rfl : c = (i : Int) := (by rw [H3.out] at hat; unfold num at hat; injection hat with h_; injection h_ with _ h_; exact h_.symm); clear hat hwc) | (go_at_call 42; refine hcc.out.mono ?_; rintro e w3 ⟨rfl, hI, ht⟩; have HI3 := Aside0.mk hI; have HT3 := Aside0.mk (HT1.out.trans ht (fun _ h => .inl h)); clear hI ht))
    go_ret
    exact ⟨by rw [ER.out]; rfl, by rw [ER.out, H2.out]; exact HI3.out.mono (more_step HT1.out.size), HT3.out⟩
end Go.Proofs.YtnnlmackofopeaaDoor.Fs
