/- ManiFirst: the walk. -/
import Derived.Test.YtnnlmackofopeaaDoorMaShown
namespace Go.Proofs.YtnnlmackofopeaaDoor.Fs
open Go.RowKit Go.Lib Go.Maps Go.Shelf Go.Sort Go.Proofs.YtnnlmackofopeaaDoorW.PrintWords Go.Proofs.YtnnlmackofopeaaDoorW.PrintLast Go.Proofs.YtnnlmackofopeaaDoorW.PrintMore
set_option linter.unusedVariables false
set_option linter.unusedSimpArgs false
theorem seven_of (x : Int) (h : 0 ≤ x ∧ x ≤ 255) : ∃ l : Nat, l ≤ 6 ∧ wrap64 (x.tmod 7) = (l : Int) ∧ x.tmod 7 = (l : Int) := by
  have h1 : 0 ≤ x.tmod 7 ∧ x.tmod 7 ≤ 6 := by rw [Int.tmod_eq_emod_of_nonneg h.1]; omega
  exact ⟨(x.tmod 7).toNat, by omega, by rw [wrap64_small h1.1 (by omega)]; omega, by omega⟩
theorem limit_st (S : FsS) (l : Nat) : ({ S with left := (l : Int), limited := decide (0 ≤ (l : Int)) } : FsS) = { S with left := (l : Int), limited := true } := by
  rw [decide_eq_true (show (0 : Int) ≤ (l : Int) by omega)]
set_option maxHeartbeats 8000000 in
set_option maxRecDepth 100000 in
theorem first_calls (D : Option Addr) (dc : Nat) (ys : List Int) (n8 : Int) (nm : Int) (Ab : Option Addr) (bc : Nat) (bs : List Int) (w : World) (hy : BR w D ys) (hcap : ys.length ≤ dc) (hby : NumLib.Bytes ys) (hn8 : 0 ≤ n8 ∧ n8 ≤ 255) (hb : IR w Ab bs) (hbl : bs.length ≤ maxLen) :
    Calls Tryd.prog 12 #[.slice D ys.length dc, .int .u8 n8, .agg #[.int .i64 nm, .slice Ab bs.length bc]] w fun e w' => e = .returned (.bool true) ∧ Below w.heap.size w w' := by
  have hx0 := blk_new w (.cells #[.int .i64 nm, .slice Ab bs.length bc] 25)
  have HB0 := Aside0.mk (below_alloc (Below.refl w.heap.size w) (.cells #[.int .i64 nm, .slice Ab bs.length bc] 25))
  have HH := Aside0.mk (And.intro hy (And.intro hcap (And.intro hby (And.intro hb (And.intro hb.there hbl)))))
  obtain ⟨l, hl6, el, el2⟩ := seven_of n8 hn8
  obtain ⟨W, hW⟩ : ∃ W, W = w.alloc (.cells #[.int .i64 nm, .slice Ab bs.length bc] 25) := ⟨_, rfl⟩
  obtain ⟨r, hr0⟩ : ∃ r, r = w.heap.size := ⟨_, rfl⟩
  obtain ⟨p, hp⟩ : ∃ p, p = ys.length := ⟨_, rfl⟩
  rw [← hW, ← hr0] at hx0
  rw [← hW] at HB0
  have HX := Aside0.mk hx0
  have HM := Aside0.mk (And.intro hp (And.intro hl6 el2))
  rw [← hp]
  clear hx0 hy hb hbl hp hcap hby hn8 hl6 el2
  go_enter Tryd.func12, Tryd.ntmps12
  go_upto_region 1 with (fail)
  rw [← hW, ← hr0]
  have HR0 := Aside0.mk hr0
  clear hW hr0
  go_upto_region 2 with (go_at_call 13; refine (shownM_calls W).mono ?_; rintro e w1 ⟨rfl, hb⟩; have HB1 := Aside0.mk (show Below w.heap.size w w1 from below_step HB0.out hb); have HX1 := Aside0.mk (blk_below HX.out hb); clear hb HX HB0)
  by_cases hpl : p ≤ 1000
  case neg =>
    have e1 : ((1000 : Int) < (p : Int)) = True := eq_true (by omega)
    clear hpl
    go_wp2
    go_ret
    exact ⟨rfl, HB1.out⟩
  have e1 : ((1000 : Int) < (p : Int)) = False := eq_false (by omega)
  have HL := Aside0.mk (show ys.length ≤ 1000 by have := HM.out; omega)
  clear hpl
  go_upto_region 5 with (go_at_call 14; refine (one_new q20 w1).mono ?_; rintro e w2 ⟨g, rfl, h⟩; have H0 := Aside0.mk h; clear h)
  go_upto_region 8 with (go_at_call 16; refine (H0.out.limit (l : Int)).mono ?_; rintro e w3 ⟨rfl, h⟩; rw [limit_st] at h; have H1 := Aside0.mk h; clear h H0)
  have hsv := saveA_calls D p dc ys HM.out.1 HH.out.2.1 w3 H1.out ((HH.out.1.below HB1.out).below H1.out.bel) HH.out.2.2.1 HL.out (show 0 ≤ 1000 by decide) (show 0 ≤ 100000 by decide)
  have hlaw := save_crash st_start (rec_small ys HL.out) l (by have := HM.out.2.1; omega) nm bs
  have hlim := turn_lim nT na (FrameLib.recL ys) 5 { fs0 q20 with left := (l : Int), limited := true }
  have hrs := rec_small ys HL.out
  obtain ⟨T, hT⟩ : ∃ T, T = turnS nT na (FrameLib.recL ys) 5 { fs0 q20 with left := (l : Int), limited := true } := ⟨_, rfl⟩
  rw [← hT] at hsv hlaw hlim
  have hlim2 : T.2.ops ≤ 10 ∧ T.2.dat ≤ 5100 := ⟨Nat.le_trans hlim.1 (by show 0 + 2 * 5 ≤ 10; omega), Nat.le_trans hlim.2 (by show 0 + 5 * (FrameLib.recL ys).length ≤ 5100; omega)⟩
  obtain ⟨h1, x', hst, hx', h5⟩ := hlaw
  have HLIM := Aside0.mk hlim2
  have HST := Aside0.mk (And.intro hst (And.intro hx' h5))
  rw [h1] at hsv
  clear hT hlim hlim2 hrs hst hx' h5 h1
  obtain ⟨ec, hec⟩ : ∃ ec : Int, ec = if 5 ≤ l then 0 else 11 := ⟨_, rfl⟩
  rw [← hec] at hsv
  have HEC := Aside0.mk hec
  clear hec
  go_upto_region 9 with (go_at_call 15; refine hsv.mono ?_; rintro e w4 ⟨rfl, h⟩; have H2 := Aside0.mk h; clear h H1 hsv)
  have HB4 := Aside0.mk (show Below w.heap.size w w4 from below_step HB1.out H2.out.bel)
  have hx := blk_below HX1.out H2.out.bel
  have x0 : w4.cell? ⟨r, 0, none⟩ = some (.int .i64 nm) := blk_cell hx 0
  have x1 : w4.cell? ⟨r, 1, none⟩ = some (.slice Ab bs.length bc) := blk_cell hx 1
  clear hx
  go_upto_region 10 with (go_at_call 17; refine (H2.out.crash nm Ab bc bs (HH.out.2.2.2.1.below HB4.out) (HH.out.2.2.2.2.1.imp id fun h ad e => ⟨fun h => h, Nat.lt_of_lt_of_le (h ad e) HB1.out.size⟩) (by have := HLIM.out; omega) (by have := HLIM.out; omega) HH.out.2.2.2.2.2).mono ?_; rintro e w5 ⟨rfl, h⟩; have H3 := Aside0.mk h; clear h H2 x0 x1)
  have hdat : (T.2.crash nm bs).dat ≤ 100000 := by rw [(crash_bounds _ nm bs).2]; have := HLIM.out; omega
  rcases HST.out.2.1 with hx | hx
  · have hst := HST.out.1
    rw [hx] at hst
    have hl5 : ¬ 5 ≤ l := fun h => by have := HST.out.2.2 h; rw [hx] at this; cases this
    have hec := HEC.out
    rw [if_neg hl5] at hec
    subst hec
    clear hx hl5
    have hld := load_none H3.out na (read_nothing hst) hdat
    clear hst hdat
    go_upto_region 11 with (go_at_call 18; refine hld.mono ?_; rintro e w6 ⟨rfl, hb, h⟩; have H4 := Aside0.mk h; clear h hb hld)
    go_wp2
    go_ret
    exact ⟨rfl, below_step HB1.out H4.out.bel⟩
  · have hst := HST.out.1
    rw [hx] at hst
    clear hx
    have hld := load_ok H3.out na ys (read_some hst) HH.out.2.2.1 HL.out hdat
    rw [← HM.out.1] at hld
    clear hst hdat
    go_upto_region 11 with (go_at_call 18; refine hld.mono ?_; rintro e w6 ⟨A2, c2, rfl, hbr, hb, h⟩; have HBR := Aside0.mk hbr; have H4 := Aside0.mk h; clear h hb hld hbr)
    have s1 := str_BR HBR.out c2
    have s2 := str_BR ((HH.out.1.below HB1.out).below H4.out.bel) dc
    rw [← HM.out.1] at s1 s2
    go_wp2
    go_ret
    exact ⟨rfl, below_step HB1.out H4.out.bel⟩
end Go.Proofs.YtnnlmackofopeaaDoor.Fs
