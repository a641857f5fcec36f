/- ManiAgain: the walk. -/
import Derived.Test.YtnnlmackofopeaaDoorMaWholeWalk
namespace Go.Proofs.YtnnlmackofopeaaDoor.Fs
open Go.RowKit Go.Lib Go.Maps Go.Shelf Go.Sort Go.Proofs.YtnnlmackofopeaaDoorW.PrintWords Go.Proofs.YtnnlmackofopeaaDoorW.PrintLast Go.Proofs.YtnnlmackofopeaaDoorW.PrintMore
set_option linter.unusedVariables false
set_option linter.unusedSimpArgs false
/-- A saving that nothing stops, and a crash in which nothing more survives: the record is the new one, and no other name is. -/
theorem again_end {S : FsS} {x : Option (List Int)} {zs : List Int} (h : St S x) (hz : zs.length ≤ 1020) : turnS nT na zs 5 S = (0, sv S zs 5 S.left) ∧ St ((sv S zs 5 S.left).crash 0 []) (some zs) ∧ ((sv S zs 5 S.left).crash 0 []).names = nmS (some S.files.length) none := by
  obtain ⟨p, y, hn, hd, hh⟩ := h.nam
  refine ⟨save_free h.lim h.quo h.small hz hn, ?_, ?_⟩
  · obtain ⟨x', h1, _, h3⟩ := crash_sv h.chg h.quo h.small hz hn hd hh 5 (Nat.le_refl 5) S.left 0 []
    rw [h3 rfl] at h1
    exact h1
  · show foldD (sv S zs 5 S.left).names (([] : List Chg).take _) = _
    rw [List.take_nil]
    exact sv5_names hn S.left
theorem sv5_lim (S : FsS) (zs : List Int) (l : Int) : (sv S zs 5 l).ops = S.ops + 3 ∧ (sv S zs 5 l).dat = S.dat + zs.length := ⟨rfl, rfl⟩
set_option maxHeartbeats 8000000 in
set_option maxRecDepth 100000 in
theorem again_calls (A : Option Addr) (c : Nat) (xs : List Int) (D : Option Addr) (dc : Nat) (ys : List Int) (LA : Option Addr) (lc : Nat) (ls : List Int) (nm : Int) (Ab : Option Addr) (bc : Nat) (bs : List Int) (w : World) (hxr : BR w A xs) (hxc : xs.length ≤ c) (hxb : NumLib.Bytes xs) (hy : BR w D ys) (hcap : ys.length ≤ dc) (hby : NumLib.Bytes ys) (hlr : BR w LA ls) (hlc : ls.length ≤ lc) (hlb : NumLib.Bytes ls) (hb : IR w Ab bs) (hbl : bs.length ≤ maxLen) :
    Calls Tryd.prog 3 #[.slice A xs.length c, .slice D ys.length dc, .slice LA ls.length lc, .agg #[.int .i64 nm, .slice Ab bs.length bc]] w fun e w' => e = .returned (.bool true) ∧ Below w.heap.size w w' := by
  have HLS := Aside0.mk (And.intro hlr hlb)
  obtain ⟨q, hq⟩ : ∃ q, q = ls.length := ⟨_, rfl⟩
  have HQ := Aside0.mk hq
  rw [← hq]
  clear hlr hlb hlc hq
  have hx0 := blk_new w (.cells #[.int .i64 nm, .slice Ab bs.length bc] 25)
  have HB0 := Aside0.mk (below_alloc (Below.refl w.heap.size w) (.cells #[.int .i64 nm, .slice Ab bs.length bc] 25))
  have HH := Aside0.mk (And.intro hy (And.intro hcap (And.intro hby (And.intro hb (And.intro hb.there hbl)))))
  have HH2 := Aside0.mk (And.intro hxr (And.intro hxc hxb))
  obtain ⟨W, hW⟩ : ∃ W, W = w.alloc (.cells #[.int .i64 nm, .slice Ab bs.length bc] 25) := ⟨_, rfl⟩
  obtain ⟨r, hr0⟩ : ∃ r, r = w.heap.size := ⟨_, rfl⟩
  obtain ⟨p, hp⟩ : ∃ p, p = ys.length := ⟨_, rfl⟩
  obtain ⟨m, hm⟩ : ∃ m, m = xs.length := ⟨_, rfl⟩
  rw [← hW, ← hr0] at hx0
  rw [← hW] at HB0
  have HX := Aside0.mk hx0
  have HM := Aside0.mk (And.intro hp hm)
  rw [← hp, ← hm]
  clear hx0 hy hb hbl hp hcap hby hxr hxc hxb hm
  go_enter Tryd.func3, Tryd.ntmps3
  go_upto_region 1 with (fail)
  rw [← hW, ← hr0]
  have HR0 := Aside0.mk hr0
  clear hW hr0
  go_upto_region 2 with (go_at_call 13; refine (shownM_calls W).mono ?_; rintro e w1 ⟨rfl, hb⟩; have HB1 := Aside0.mk (show Below w.heap.size w w1 from below_step HB0.out hb); have HX1 := Aside0.mk (blk_below HX.out hb); clear hb HX HB0)
  by_cases hml : m ≤ 1000
  case neg =>
    have e1 : ((1000 : Int) < (m : Int)) = True := eq_true (by omega)
    clear hml
    go_wp2
    go_ret
    exact ⟨rfl, HB1.out⟩
  by_cases hpl : p ≤ 1000
  case neg =>
    have e1 : ((1000 : Int) < (m : Int)) = False := eq_false (by omega)
    have e2 : ((1000 : Int) < (p : Int)) = True := eq_true (by omega)
    clear hml hpl
    go_wp2
    go_ret
    exact ⟨rfl, HB1.out⟩
  have e1 : ((1000 : Int) < (m : Int)) = False := eq_false (by omega)
  have e2 : ((1000 : Int) < (p : Int)) = False := eq_false (by omega)
  have HL := Aside0.mk (show xs.length ≤ 1000 ∧ ys.length ≤ 1000 by have := HM.out; omega)
  clear hpl hml
  go_upto_region 5 with (go_at_call 14; refine (one_new q20 w1).mono ?_; rintro e w2 ⟨g, rfl, h⟩; have H0 := Aside0.mk h; clear h)
  have hsv := saveA_calls A m c xs HM.out.2 HH2.out.2.1 w2 H0.out ((HH2.out.1.below HB1.out).below H0.out.bel) HH2.out.2.2 HL.out.1 (show 0 ≤ 1000 by decide) (show 0 ≤ 100000 by decide)
  rw [wh_turn xs HL.out.1] at hsv
  go_upto_region 8 with (go_at_call 15; refine hsv.mono ?_; rintro e w2b ⟨rfl, h⟩; have H0b := Aside0.mk h; clear h H0 hsv)
  have HX3 := Aside0.mk (blk_below HX1.out H0b.out.bel)
  go_wp2
  go_loopg [11] q (fun kq v11 wr => ∃ (i : Nat) (S : FsS) (x : Option (List Int)), v11 = .int .i64 (i : Int) ∧ i + kq = q ∧ Aside0 (St S x ∧ S.ops ≤ 3 + 10 * i ∧ S.dat ≤ 1020 + 5100 * i ∧ i ≤ 10) ∧ Aside0 (One w1 (fun _ => False) wr g S))
  case atStart => exact ⟨0, wh xs, _, rfl, by omega, ⟨wh_st xs HL.out.1, (wh_lim xs HL.out.1).1, (wh_lim xs HL.out.1).2, by omega⟩, H0b⟩
  case round =>
    obtain ⟨i, S, x, rfl, hi, HS, HO⟩ := hrel
    have hrs := rec_small ys HL.out.2
    have HRS := Aside0.mk hrs
    clear hrs
    by_cases hgo : i < q ∧ i < 10
    case pos =>
      obtain ⟨d, rfl⟩ : ∃ d, gk = d + 1 := ⟨gk - 1, by omega⟩
      have e3 : ((i : Int) < (q : Int)) = True := eq_true (by omega)
      have e4 : ((i : Int) < 10) = True := eq_true (by omega)
      have e5 : (i < q) = True := eq_true (by omega)
      have hil : i < ls.length := by have := HQ.out; omega
      obtain ⟨v, hv⟩ : ∃ v, v = ls[i] := ⟨_, rfl⟩
      have hv8 : 0 ≤ v ∧ v ≤ 255 := by rw [hv]; exact HLS.out.2 _ (List.getElem_mem hil)
      obtain ⟨l, hl6, el, el2⟩ := seven_of v hv8
      have hBW := below_step HB1.out HO.out.bel
      have hbr := HLS.out.1.below hBW
      rcases hbr with h | ⟨ad, rfl, hcell⟩
      · rw [h] at hil
        exact absurd hil (Nat.not_lt_zero _)
      have x3 : wr.cell? (ad.add i) = some (.int .u8 v) := hcell i _ (by rw [List.getElem?_map, List.getElem?_eq_getElem hil, hv]; rfl)
      have HI := Aside0.mk (And.intro hi (And.intro hgo hl6))
      clear hi hgo hv hv8 el2 hcell hil hl6 hBW
      go_upto_region 12 with (go_at_call 16; refine (HO.out.limit (l : Int)).mono ?_; rintro e w3 ⟨rfl, h⟩; rw [limit_st] at h; have H1 := Aside0.mk h; clear h x3)
      have hsv := saveA_calls D p dc ys HM.out.1 HH.out.2.1 w3 H1.out ((HH.out.1.below HB1.out).below H1.out.bel) HH.out.2.2.1 HL.out.2 (show S.ops ≤ 1000 by have := HS.out.2; omega) (show S.dat ≤ 100000 by have := HS.out.2; omega)
      have hlaw := save_crash HS.out.1 HRS.out l (by have := HI.out.2.2; omega) nm bs
      have hlim := turn_lim nT na (FrameLib.recL ys) 5 { S with left := (l : Int), limited := true }
      obtain ⟨T, hT⟩ : ∃ T, T = turnS nT na (FrameLib.recL ys) 5 { S with left := (l : Int), limited := true } := ⟨_, rfl⟩
      rw [← hT] at hsv hlaw hlim
      have hlim2 : T.2.ops ≤ S.ops + 10 ∧ T.2.dat ≤ S.dat + 5100 := ⟨Nat.le_trans hlim.1 (by show S.ops + 2 * 5 ≤ _; omega), Nat.le_trans hlim.2 (by show S.dat + 5 * (FrameLib.recL ys).length ≤ _; have := HRS.out; omega)⟩
      obtain ⟨_, x', hst, _, _⟩ := hlaw
      have HLIM := Aside0.mk hlim2
      have HST := Aside0.mk hst
      clear hT hlim hlim2 hst
      obtain ⟨ec, hec⟩ : ∃ ec : Int, ec = T.1 := ⟨_, rfl⟩
      rw [← hec] at hsv
      clear hec
      go_upto_region 13 with (go_at_call 15; refine hsv.mono ?_; rintro e w4 ⟨rfl, h⟩; have H2 := Aside0.mk h; clear h hsv)
      have HB4 := Aside0.mk (show Below w.heap.size w w4 from below_step HB1.out H2.out.bel)
      have hx := blk_below HX1.out H2.out.bel
      have x0 : w4.cell? ⟨r, 0, none⟩ = some (.int .i64 nm) := blk_cell hx 0
      have x1 : w4.cell? ⟨r, 1, none⟩ = some (.slice Ab bs.length bc) := blk_cell hx 1
      clear hx
      go_wp2_with (go_at_call 17; refine (H2.out.crash nm Ab bc bs (HH.out.2.2.2.1.below HB4.out) (HH.out.2.2.2.2.1.imp id fun h ad e => ⟨fun h => h, Nat.lt_of_lt_of_le (h ad e) HB1.out.size⟩) (by have := HLIM.out; have := HS.out.2; omega) (by have := HLIM.out; have := HS.out.2; omega) HH.out.2.2.2.2.2).mono ?_; rintro e w5 ⟨rfl, h⟩; have H3 := Aside0.mk h; clear h x0 x1)
      go_roundg d
      case measure => have := HI.out; omega
      case rel =>
        refine ⟨i + 1, T.2.crash nm bs, x', by rw [wrap64_small (by omega) (by have := HI.out; omega)]; rfl, by have := HI.out; omega, ⟨HST.out, ?_, ?_, by have := HI.out; omega⟩, H3⟩
        · rw [(crash_bounds _ nm bs).1]
          have := HLIM.out
          have := HS.out.2
          omega
        · rw [(crash_bounds _ nm bs).2]
          have := HLIM.out
          have := HS.out.2
          omega
    case neg =>
      have hex : ((i : Int) < (q : Int)) = False ∨ (((i : Int) < (q : Int)) = True ∧ ((i : Int) < 10) = False) := by
        by_cases h1 : i < q
        · exact .inr ⟨eq_true (by omega), eq_false (by omega)⟩
        · exact .inl (eq_false (by omega))
      have hend := again_end (zs := FrameLib.recL ys) HS.out.1 HRS.out
      have hsv := saveA_calls D p dc ys HM.out.1 HH.out.2.1 wr HO.out ((HH.out.1.below HB1.out).below HO.out.bel) HH.out.2.2.1 HL.out.2 (by have := HS.out.2; omega) (by have := HS.out.2; omega)
      rw [hend.1] at hsv
      have hl5 := sv5_lim S (FrameLib.recL ys) S.left
      have hlz : (sv S (FrameLib.recL ys) 5 S.left).ops ≤ 1000 ∧ (sv S (FrameLib.recL ys) 5 S.left).dat ≤ 100000 := by
        rw [hl5.1, hl5.2]
        have := HS.out.2
        have := HRS.out
        omega
      obtain ⟨V, hV⟩ : ∃ V, V = sv S (FrameLib.recL ys) 5 S.left := ⟨_, rfl⟩
      rw [← hV] at hsv hend hlz
      have HEND := Aside0.mk (And.intro hend.2.1 (And.intro hend.2.2 hlz))
      clear hgo hi hend hl5 hlz hV
      rcases hex with e3 | ⟨e3, e4⟩
      all_goals (
        go_upto_region 15 with (go_at_call 15; refine hsv.mono ?_; rintro e w4 ⟨rfl, h⟩; have H2 := Aside0.mk h; clear h hsv)
        go_upto_region 16 with (go_at_call 17; refine (H2.out.crash 0 none 0 [] (fun i hi => absurd hi (Nat.not_lt_zero i)) (.inl rfl) (by have := HEND.out; omega) (by have := HEND.out; omega) (Nat.zero_le _)).mono ?_; rintro e w5 ⟨rfl, h⟩; have H3 := Aside0.mk h; clear h)
        have hld := load_ok H3.out na ys (read_some HEND.out.1) HH.out.2.2.1 HL.out.2 (by rw [(crash_bounds _ 0 []).2]; have := HEND.out; omega)
        rw [← HM.out.1] at hld
        go_upto_region 17 with (go_at_call 18; refine hld.mono ?_; rintro e w6 ⟨A3, c3, rfl, hbr, hb, h⟩; have HBR3 := Aside0.mk hbr; have H4 := Aside0.mk h; clear h hb hld hbr)
        have s1 := str_BR HBR3.out c3
        have s2 := str_BR ((HH.out.1.below HB1.out).below H4.out.bel) dc
        rw [← HM.out.1] at s1 s2
        have hls := H4.out.listS (by rw [(crash_bounds _ 0 []).1]; have := HEND.out; omega)
        rw [HEND.out.2.1, nm_list] at hls
        go_wp2_with (first
          | (go_at_call 20; refine hls.mono ?_; rintro e w7 ⟨LB, lc2, rfl, hn, hs, hA, hb, h⟩; have HB7 := Aside0.mk (show Below w6.heap.size w6 w7 from hb); have hsm := same_calls [na] 1 rfl (show 1 ≤ maxLen by decide) LB lc2 (some ⟨w7.heap.size, 0, none⟩) 1 (w7.alloc (.cells #[.string na] 9)) (hs.below (below_alloc (Below.refl _ _) (.cells #[.string na] 9))) (SR.one w7 na); clear h hs hA hb hn hls)
          | (go_at_call 19; refine hsm.mono ?_; rintro e w8 ⟨rfl, hb⟩; have HB8 := Aside0.mk (show Below w7.heap.size w7 w8 from below_step (below_alloc (Below.refl _ _) (.cells #[.string na] 9)) hb); clear hb hsm))
        go_ret
        exact ⟨rfl, below_step HB1.out (below_step H4.out.bel (below_step HB7.out HB8.out))⟩)
end Go.Proofs.YtnnlmackofopeaaDoor.Fs
