/- ManiWhole: the walk. -/
import Derived.Test.YtnnlmackofopeaaDoorMaFirstWalk
namespace Go.Proofs.YtnnlmackofopeaaDoor.Fs
open Go.RowKit Go.Lib Go.Maps Go.Shelf Go.Sort Go.Proofs.YtnnlmackofopeaaDoorW.PrintWords Go.Proofs.YtnnlmackofopeaaDoorW.PrintLast Go.Proofs.YtnnlmackofopeaaDoorW.PrintMore
set_option linter.unusedVariables false
set_option linter.unusedSimpArgs false
/-- What was saved ahead. -/
def wh (xs : List Int) : FsS := sv (fs0 q20) (FrameLib.recL xs) 5 0
theorem wh_turn (xs : List Int) (h : xs.length ≤ 1000) : turnS nT na (FrameLib.recL xs) 5 (fs0 q20) = (0, wh xs) :=
  save_free (S := fs0 q20) (p := none) (y := none) rfl rfl (fun f hf => by cases hf) (rec_small xs h) rfl
theorem wh_st (xs : List Int) (h : xs.length ≤ 1000) : St (wh xs) (some (FrameLib.recL xs)) :=
  sv5_st (S := fs0 q20) (p := none) (y := none) rfl rfl (fun f hf => by cases hf) (rec_small xs h) rfl 0
theorem wh_lim (xs : List Int) (h : xs.length ≤ 1000) : (wh xs).ops ≤ 3 ∧ (wh xs).dat ≤ 1020 := ⟨Nat.le_refl 3, by
  have := rec_small xs h
  show 0 + (FrameLib.recL xs).length ≤ 1020
  omega⟩
set_option maxHeartbeats 8000000 in
set_option maxRecDepth 100000 in
theorem whole_calls (A : Option Addr) (c : Nat) (xs : List Int) (D : Option Addr) (dc : Nat) (ys : List Int) (n8 : Int) (nm : Int) (Ab : Option Addr) (bc : Nat) (bs : List Int) (w : World) (hxr : BR w A xs) (hxc : xs.length ≤ c) (hxb : NumLib.Bytes xs) (hy : BR w D ys) (hcap : ys.length ≤ dc) (hby : NumLib.Bytes ys) (hn8 : 0 ≤ n8 ∧ n8 ≤ 255) (hb : IR w Ab bs) (hbl : bs.length ≤ maxLen) :
    Calls Tryd.prog 11 #[.slice A xs.length c, .slice D ys.length dc, .int .u8 n8, .agg #[.int .i64 nm, .slice Ab bs.length bc]] w fun e w' => e = .returned (.bool true) ∧ Below w.heap.size w w' := by
  have hx0 := blk_new w (.cells #[.int .i64 nm, .slice Ab bs.length bc] 25)
  have HB0 := Aside0.mk (below_alloc (Below.refl w.heap.size w) (.cells #[.int .i64 nm, .slice Ab bs.length bc] 25))
  have HH := Aside0.mk (And.intro hy (And.intro hcap (And.intro hby (And.intro hb (And.intro hb.there hbl)))))
  have HH2 := Aside0.mk (And.intro hxr (And.intro hxc hxb))
  obtain ⟨l, hl6, el, el2⟩ := seven_of n8 hn8
  obtain ⟨W, hW⟩ : ∃ W, W = w.alloc (.cells #[.int .i64 nm, .slice Ab bs.length bc] 25) := ⟨_, rfl⟩
  obtain ⟨r, hr0⟩ : ∃ r, r = w.heap.size := ⟨_, rfl⟩
  obtain ⟨p, hp⟩ : ∃ p, p = ys.length := ⟨_, rfl⟩
  obtain ⟨m, hm⟩ : ∃ m, m = xs.length := ⟨_, rfl⟩
  rw [← hW, ← hr0] at hx0
  rw [← hW] at HB0
  have HX := Aside0.mk hx0
  have HM := Aside0.mk (And.intro hp (And.intro hl6 (And.intro el2 hm)))
  rw [← hp, ← hm]
  clear hx0 hy hb hbl hp hcap hby hn8 hl6 el2 hxr hxc hxb hm
  go_enter Tryd.func11, Tryd.ntmps11
  go_upto_region 1 with (fail)
  rw [← hW, ← hr0]
  have HR0 := Aside0.mk hr0
  clear hW hr0
  go_upto_region 2 with (go_at_call 13; refine (shownM_calls W).mono ?_; rintro e w1 ⟨rfl, hb⟩; have HB1 := Aside0.mk (show Below w.heap.size w w1 from below_step HB0.out hb); have HX1 := Aside0.mk (blk_below HX.out hb); clear hb HX HB0)
  by_cases hml : m ≤ 1000
  case neg =>
    have e1 : ((1000 : Int) < (m : Int)) = True := eq_true (by omega)
    clear hml
    go_wp2
    go_ret
    exact ⟨rfl, HB1.out⟩
  by_cases hpl : p ≤ 1000
  case neg =>
    have e1 : ((1000 : Int) < (m : Int)) = False := eq_false (by omega)
    have e2 : ((1000 : Int) < (p : Int)) = True := eq_true (by omega)
    clear hml hpl
    go_wp2
    go_ret
    exact ⟨rfl, HB1.out⟩
  have e1 : ((1000 : Int) < (m : Int)) = False := eq_false (by omega)
  have e2 : ((1000 : Int) < (p : Int)) = False := eq_false (by omega)
  have HL := Aside0.mk (show xs.length ≤ 1000 ∧ ys.length ≤ 1000 by have := HM.out; omega)
  clear hpl hml
  go_upto_region 5 with (go_at_call 14; refine (one_new q20 w1).mono ?_; rintro e w2 ⟨g, rfl, h⟩; have H0 := Aside0.mk h; clear h)
  have hsv := saveA_calls A m c xs HM.out.2.2.2 HH2.out.2.1 w2 H0.out ((HH2.out.1.below HB1.out).below H0.out.bel) HH2.out.2.2 HL.out.1 (show 0 ≤ 1000 by decide) (show 0 ≤ 100000 by decide)
  rw [wh_turn xs HL.out.1] at hsv
  go_upto_region 8 with (go_at_call 15; refine hsv.mono ?_; rintro e w2b ⟨rfl, h⟩; have H0b := Aside0.mk h; clear h H0 hsv)
  go_upto_region 9 with (go_at_call 16; refine (H0b.out.limit (l : Int)).mono ?_; rintro e w3 ⟨rfl, h⟩; rw [limit_st] at h; have H1 := Aside0.mk h; clear h H0b)
  have hwl := wh_lim xs HL.out.1
  have hrs := rec_small ys HL.out.2
  have hsv := saveA_calls D p dc ys HM.out.1 HH.out.2.1 w3 H1.out ((HH.out.1.below HB1.out).below H1.out.bel) HH.out.2.2.1 HL.out.2 (show (wh xs).ops ≤ 1000 by omega) (show (wh xs).dat ≤ 100000 by omega)
  have hlaw := save_crash (wh_st xs HL.out.1) hrs l (by have := HM.out.2.1; omega) nm bs
  have hlim := turn_lim nT na (FrameLib.recL ys) 5 { wh xs with left := (l : Int), limited := true }
  obtain ⟨T, hT⟩ : ∃ T, T = turnS nT na (FrameLib.recL ys) 5 { wh xs with left := (l : Int), limited := true } := ⟨_, rfl⟩
  rw [← hT] at hsv hlaw hlim
  have hlim2 : T.2.ops ≤ 13 ∧ T.2.dat ≤ 6120 := ⟨Nat.le_trans hlim.1 (by show (wh xs).ops + 2 * 5 ≤ 13; omega), Nat.le_trans hlim.2 (by show (wh xs).dat + 5 * (FrameLib.recL ys).length ≤ 6120; omega)⟩
  obtain ⟨h1, x', hst, hx', h5⟩ := hlaw
  have HLIM := Aside0.mk hlim2
  have HST := Aside0.mk (And.intro hst (And.intro hx' h5))
  rw [h1] at hsv
  clear hT hlim hlim2 hrs hst hx' h5 h1 hwl
  obtain ⟨ec, hec⟩ : ∃ ec : Int, ec = if 5 ≤ l then 0 else 11 := ⟨_, rfl⟩
  rw [← hec] at hsv
  have HEC := Aside0.mk hec
  clear hec
  go_upto_region 10 with (go_at_call 15; refine hsv.mono ?_; rintro e w4 ⟨rfl, h⟩; have H2 := Aside0.mk h; clear h H1 hsv)
  have HB4 := Aside0.mk (show Below w.heap.size w w4 from below_step HB1.out H2.out.bel)
  have hx := blk_below HX1.out H2.out.bel
  have x0 : w4.cell? ⟨r, 0, none⟩ = some (.int .i64 nm) := blk_cell hx 0
  have x1 : w4.cell? ⟨r, 1, none⟩ = some (.slice Ab bs.length bc) := blk_cell hx 1
  clear hx
  go_upto_region 11 with (go_at_call 17; refine (H2.out.crash nm Ab bc bs (HH.out.2.2.2.1.below HB4.out) (HH.out.2.2.2.2.1.imp id fun h ad e => ⟨fun h => h, Nat.lt_of_lt_of_le (h ad e) HB1.out.size⟩) (by have := HLIM.out; omega) (by have := HLIM.out; omega) HH.out.2.2.2.2.2).mono ?_; rintro e w5 ⟨rfl, h⟩; have H3 := Aside0.mk h; clear h H2 x0 x1)
  have hdat : (T.2.crash nm bs).dat ≤ 100000 := by rw [(crash_bounds _ nm bs).2]; have := HLIM.out; omega
  by_cases h5 : 5 ≤ l
  case pos =>
    have hx := HST.out.2.2 h5
    have hst := HST.out.1
    rw [hx] at hst
    have hec := HEC.out
    rw [if_pos h5] at hec
    subst hec
    have e3 : (5 ≤ n8.tmod 7) = True := eq_true (by have := HM.out.2.2.1; omega)
    have hld := load_ok H3.out na ys (read_some hst) HH.out.2.2.1 HL.out.2 hdat
    rw [← HM.out.1] at hld
    clear hst hdat hx h5
    go_upto_region 12 with (go_at_call 18; refine hld.mono ?_; rintro e w6 ⟨A2, c2, rfl, hbr, hb, h⟩; have HBR := Aside0.mk hbr; have H4 := Aside0.mk h; clear h hb hld hbr)
    have s1 := str_BR HBR.out c2
    have s2 := str_BR ((HH.out.1.below HB1.out).below H4.out.bel) dc
    rw [← HM.out.1] at s2
    rw [← HM.out.1] at s1
    go_wp2
    go_ret
    exact ⟨rfl, below_step HB1.out H4.out.bel⟩
  rcases HST.out.2.1 with hx | hx
  case inl =>
    have hst := HST.out.1
    rw [hx] at hst
    have hec := HEC.out
    rw [if_neg h5] at hec
    subst hec
    have e3 : (5 ≤ n8.tmod 7) = False := eq_false (by have := HM.out.2.2.1; omega)
    have hld := load_ok H3.out na xs (read_some hst) HH2.out.2.2 HL.out.1 hdat
    rw [← HM.out.2.2.2] at hld
    clear hst hdat hx h5
    go_upto_region 12 with (go_at_call 18; refine hld.mono ?_; rintro e w6 ⟨A2, c2, rfl, hbr, hb, h⟩; have HBR := Aside0.mk hbr; have H4 := Aside0.mk h; clear h hb hld hbr)
    have s1 := str_BR HBR.out c2
    have s2 := str_BR ((HH.out.1.below HB1.out).below H4.out.bel) dc
    rw [← HM.out.1] at s2
    rw [← HM.out.2.2.2] at s1
    have s3 := str_BR ((HH2.out.1.below HB1.out).below H4.out.bel) c
    rw [← HM.out.2.2.2] at s3
    by_cases hq : sOf xs = sOf ys
    · have e4 : (sOf xs = sOf ys) = True := eq_true hq
      rw [hq] at s1 s3
      clear hq e4
      go_wp2
      go_ret
      exact ⟨rfl, below_step HB1.out H4.out.bel⟩
    · have e4 : (sOf xs = sOf ys) = False := eq_false hq
      clear hq
      go_wp2
      all_goals (go_ret; exact ⟨rfl, below_step HB1.out H4.out.bel⟩)
  case inr =>
    have hst := HST.out.1
    rw [hx] at hst
    have hec := HEC.out
    rw [if_neg h5] at hec
    subst hec
    have e3 : (5 ≤ n8.tmod 7) = False := eq_false (by have := HM.out.2.2.1; omega)
    have hld := load_ok H3.out na ys (read_some hst) HH.out.2.2.1 HL.out.2 hdat
    rw [← HM.out.1] at hld
    clear hst hdat hx h5
    go_upto_region 12 with (go_at_call 18; refine hld.mono ?_; rintro e w6 ⟨A2, c2, rfl, hbr, hb, h⟩; have HBR := Aside0.mk hbr; have H4 := Aside0.mk h; clear h hb hld hbr)
    have s1 := str_BR HBR.out c2
    have s2 := str_BR ((HH.out.1.below HB1.out).below H4.out.bel) dc
    rw [← HM.out.1] at s2
    rw [← HM.out.1] at s1
    go_wp2
    go_ret
    exact ⟨rfl, below_step HB1.out H4.out.bel⟩
end Go.Proofs.YtnnlmackofopeaaDoor.Fs
