/- FsAtomic: the walk. -/
import Derived.Test.YtnnlmackofopeaaDoorFsAtomicLaw
namespace Go.Proofs.YtnnlmackofopeaaDoor.Fs
open Go.RowKit Go.Lib Go.Maps Go.Shelf Go.Sort Go.Proofs.YtnnlmackofopeaaDoorW.PrintWords Go.Proofs.YtnnlmackofopeaaDoorW.PrintLast Go.Proofs.YtnnlmackofopeaaDoorW.PrintMore
set_option linter.unusedVariables false
set_option linter.unusedSimpArgs false
theorem am_big (m : Nat) (h : m ≤ 100) : (am1.ops + 2) * (0 + m) ≤ 1000000000000000 := by
  have h3 : am1.ops = 2 := by kernel_rfl
  rw [h3]
  omega
set_option maxHeartbeats 4000000 in
set_option maxRecDepth 100000 in
theorem atomic_calls (A : Option Addr) (c : Nat) (xs : List Int) (D : Option Addr) (dc : Nat) (ys : List Int) (nm : Int) (Ab : Option Addr) (bc : Nat) (bs : List Int) (w : World) (hx : BR w A xs) (hy : BR w D ys) (hb : IR w Ab bs) (hbl : bs.length ≤ maxLen) :
    Calls Tryd.prog 6 #[.slice A xs.length c, .slice D ys.length dc, .agg #[.int .i64 nm, .slice Ab bs.length bc]] w fun e w' => e = .returned (.bool true) ∧ Below w.heap.size w w' := by
  have hx0 := blk_new w (.cells #[.int .i64 nm, .slice Ab bs.length bc] 25)
  have HB0 := Aside0.mk (below_alloc (Below.refl w.heap.size w) (.cells #[.int .i64 nm, .slice Ab bs.length bc] 25))
  have HH := Aside0.mk (And.intro hx (And.intro hx.there (And.intro hy (And.intro hy.there (And.intro hb (And.intro hb.there hbl))))))
  obtain ⟨W, hW⟩ : ∃ W, W = w.alloc (.cells #[.int .i64 nm, .slice Ab bs.length bc] 25) := ⟨_, rfl⟩
  obtain ⟨r, hr0⟩ : ∃ r, r = w.heap.size := ⟨_, rfl⟩
  obtain ⟨m, hm⟩ : ∃ m, m = xs.length := ⟨_, rfl⟩
  obtain ⟨p, hp⟩ : ∃ p, p = ys.length := ⟨_, rfl⟩
  rw [← hW, ← hr0] at hx0
  rw [← hW] at HB0
  have HX := Aside0.mk hx0
  have HM := Aside0.mk (And.intro hm hp)
  rw [← hm, ← hp]
  clear hx0 hx hy hb hbl hm hp
  go_enter Tryd.func6, Tryd.ntmps6
  go_upto_region 1 with (fail)
  rw [← hW, ← hr0]
  have HR0 := Aside0.mk hr0
  clear hW hr0
  go_upto_region 2 with (go_at_call 21; refine (shown_calls W).mono ?_; rintro e w1 ⟨rfl, hb⟩; have HB1 := Aside0.mk hb; clear hb)
  go_upto_region 3 with (go_at_call 14; refine (one_new q20 w1).mono ?_; rintro e w2 ⟨g, rfl, h⟩; have H0 := Aside0.mk h; clear h)
  have HW1 := Aside0.mk (show Below w.heap.size w w1 from below_step HB0.out HB1.out)
  by_cases hml : m ≤ 100
  case neg =>
    have e1 : ((100 : Int) < (m : Int)) = True := eq_true (by omega)
    clear hml
    go_wp2
    go_ret
    exact ⟨rfl, below_step HW1.out H0.out.bel⟩
  by_cases hpl : p ≤ 100
  case neg =>
    have e1 : ((100 : Int) < (m : Int)) = False := eq_false (by omega)
    have e2 : ((100 : Int) < (p : Int)) = True := eq_true (by omega)
    clear hml hpl
    go_wp2
    go_ret
    exact ⟨rfl, below_step HW1.out H0.out.bel⟩
  have e1 : ((100 : Int) < (m : Int)) = False := eq_false (by omega)
  have e2 : ((100 : Int) < (p : Int)) = False := eq_false (by omega)
  have HML := Aside0.mk (And.intro (show xs.length ≤ 100 by rw [← HM.out.1]; exact hml) (show ys.length ≤ 100 by rw [← HM.out.2]; exact hpl))
  clear hml hpl
  go_upto_region 6 with (go_at_call 22; refine (H0.out.create nOut (by decide)).mono ?_; rintro e w3 ⟨rfl, h⟩; rw [am1_eq] at h; have H1 := Aside0.mk h; clear h H0)
  have hap := H1.out.append nOut A c xs ((HH.out.1.below HW1.out).below H1.out.bel) (HH.out.2.1.imp id fun h ad e => ⟨fun h => h, Nat.lt_of_lt_of_le (h ad e) HW1.out.size⟩) (by decide) (by decide) (by have := HML.out; omega)
  rw [← HM.out.1] at hap
  go_upto_region 7 with (go_at_call 24; refine hap.mono ?_; rintro e w4 ⟨rfl, h⟩; rw [am2_eq xs HML.out.1] at h; have H2 := Aside0.mk h; clear h H1 hap)
  go_upto_region 8 with (go_at_call 25; refine (H2.out.sync nOut (by show 0 + xs.length ≤ 1000000000; have := HML.out; omega)).mono ?_; rintro e w5 ⟨rfl, h⟩; rw [am3_eq xs] at h; have H3 := Aside0.mk h; clear h H2)
  go_upto_region 9 with (go_at_call 23; refine (H3.out.syncNames).mono ?_; rintro e w6 ⟨rfl, h⟩; rw [am4_eq xs] at h; have H4 := Aside0.mk h; clear h H3)
  go_upto_region 10 with (go_at_call 22; refine (H4.out.create nTmp (by show am1.ops ≤ 90000; decide)).mono ?_; rintro e w7 ⟨rfl, h⟩; rw [am5_eq] at h; have H5 := Aside0.mk h; clear h H4)
  have hap := H5.out.append nTmp D dc ys ((HH.out.2.2.1.below HW1.out).below H5.out.bel) (HH.out.2.2.2.1.imp id fun h ad e => ⟨fun h => h, Nat.lt_of_lt_of_le (h ad e) HW1.out.size⟩) (am_big xs.length HML.out.1) (by show 0 + xs.length ≤ 1000000000; have := HML.out; omega) (by have := HML.out; omega)
  rw [← HM.out.2] at hap
  go_upto_region 11 with (go_at_call 24; refine hap.mono ?_; rintro e w8 ⟨rfl, h⟩; rw [am6_eq xs ys HML.out.1 HML.out.2] at h; have H6 := Aside0.mk h; clear h H5 hap)
  go_upto_region 12 with (go_at_call 25; refine (H6.out.sync nTmp (by show 0 + xs.length + ys.length ≤ 1000000000; have := HML.out; omega)).mono ?_; rintro e w9 ⟨rfl, h⟩; rw [am7_eq xs ys] at h; have H7 := Aside0.mk h; clear h H6)
  go_upto_region 13 with (go_at_call 29; refine (H7.out.rename nTmp nOut (by show am1.ops + 2 ≤ 90000; decide)).mono ?_; rintro e w10 ⟨rfl, h⟩; rw [am8_eq xs ys] at h ⊢; have H8 := Aside0.mk h; clear h H7)
  have hx := blk_below (blk_below HX.out HB1.out) H8.out.bel
  have x0 : w10.cell? ⟨r, 0, none⟩ = some (.int .i64 nm) := blk_cell hx 0
  have x1 : w10.cell? ⟨r, 1, none⟩ = some (.slice Ab bs.length bc) := blk_cell hx 1
  clear hx
  go_upto_region 14 with (go_at_call 17; refine (H8.out.crash nm Ab bc bs ((HH.out.2.2.2.2.1.below HW1.out).below H8.out.bel) (HH.out.2.2.2.2.2.1.imp id fun h ad e => ⟨fun h => h, Nat.lt_of_lt_of_le (h ad e) HW1.out.size⟩) (by show am1.ops + 3 ≤ 90000; decide) (by show 0 + xs.length + ys.length ≤ 1000000000; have := HML.out; omega) HH.out.2.2.2.2.2.2).mono ?_; rintro e w11 ⟨rfl, h⟩; have H9 := Aside0.mk h; clear h H8 x0 x1)
  have hdat : ((am8 xs ys).crash nm bs).dat ≤ 1000000000 := by rw [(crash_bounds _ nm bs).2]; show 0 + xs.length + ys.length ≤ 1000000000; have := HML.out; omega
  have HDAT := Aside0.mk hdat
  clear hdat
  have hrd := H9.out.read nOut HDAT.out
  by_cases hn2 : 2 ≤ nm
  case pos =>
    have hst := am_new xs ys nm bs hn2
    have e3 : (2 ≤ nm) = True := eq_true hn2
    clear hn2
    rw [hst.1] at hrd
    go_upto_region 15 with (go_at_call 26; refine hrd.mono ?_; rintro e w12 ⟨v, rfl, hr, hb, h⟩; obtain ⟨A2, c2, rfl, hbr, _⟩ := row_BR (xs := ys) hr; have HR := Aside0.mk hbr; have HA := Aside0.mk h; clear h H9 hr hb hrd hbr)
    have hrd := HA.out.read nTmp HDAT.out
    rw [hst.2] at hrd
    go_upto_region 16 with (go_at_call 26; refine hrd.mono ?_; rintro e w13 ⟨v, rfl, hr, hb, h⟩; obtain ⟨A3, c3, rfl⟩ := row_slice hr; have HC := Aside0.mk h; have HRB := Aside0.mk (HR.out.below hb); clear h HA hr hb hrd)
    have hx := blk_below (blk_below HX.out HB1.out) HC.out.bel
    have x0 : w13.cell? ⟨r, 0, none⟩ = some (.int .i64 nm) := blk_cell hx 0
    clear hx
    have s1 := str_BR HRB.out c2
    have s2 := str_BR ((HH.out.2.2.1.below HW1.out).below HC.out.bel) dc
    rw [← HM.out.2] at s2
    go_wp2
    go_ret
    exact ⟨rfl, below_step HW1.out HC.out.bel⟩
  by_cases hn1 : nm = 1
  case pos =>
    have hst := am_both xs ys nm bs hn1
    have e3 : (2 ≤ nm) = False := eq_false hn2
    have e4 : (nm = 1) = True := eq_true hn1
    clear hn2
    rw [hst.1] at hrd
    go_upto_region 15 with (go_at_call 26; refine hrd.mono ?_; rintro e w12 ⟨v, rfl, hr, hb, h⟩; obtain ⟨A2, c2, rfl, hbr, _⟩ := row_BR (xs := xs) hr; have HR := Aside0.mk hbr; have HA := Aside0.mk h; clear h H9 hr hb hrd hbr)
    have hrd := HA.out.read nTmp HDAT.out
    rw [hst.2] at hrd
    go_upto_region 16 with (go_at_call 26; refine hrd.mono ?_; rintro e w13 ⟨v, rfl, hr, hb, h⟩; obtain ⟨A3, c3, rfl, hbr, _⟩ := row_BR (xs := ys) hr; have HC := Aside0.mk h; have HRB := Aside0.mk (And.intro (HR.out.below hb) hbr); clear h HA hr hb hrd hbr)
    have hx := blk_below (blk_below HX.out HB1.out) HC.out.bel
    have x0 : w13.cell? ⟨r, 0, none⟩ = some (.int .i64 nm) := blk_cell hx 0
    clear hx
    have s1 := str_BR HRB.out.1 c2
    have s2 := str_BR ((HH.out.1.below HW1.out).below HC.out.bel) c
    have s3 := str_BR HRB.out.2 c3
    have s4 := str_BR ((HH.out.2.2.1.below HW1.out).below HC.out.bel) dc
    rw [← HM.out.1] at s2
    rw [← HM.out.2] at s4
    go_wp2
    go_ret
    exact ⟨rfl, below_step HW1.out HC.out.bel⟩
  have hst := am_old xs ys nm bs (by omega)
  have e3 : (2 ≤ nm) = False := eq_false hn2
  have e4 : (nm = 1) = False := eq_false hn1
  have E5 := Aside0.mk (show (nm == 1) = false by simpa using hn1)
  clear hn2 hn1
  rw [hst.1] at hrd
  go_upto_region 15 with (go_at_call 26; refine hrd.mono ?_; rintro e w12 ⟨v, rfl, hr, hb, h⟩; obtain ⟨A2, c2, rfl, hbr, _⟩ := row_BR (xs := xs) hr; have HR := Aside0.mk hbr; have HA := Aside0.mk h; clear h H9 hr hb hrd hbr)
  have hrd := HA.out.read nTmp HDAT.out
  rw [hst.2] at hrd
  go_upto_region 16 with (go_at_call 26; refine hrd.mono ?_; rintro e w13 ⟨v, rfl, hr, hb, h⟩; obtain ⟨A3, c3, rfl⟩ := row_slice hr; have HC := Aside0.mk h; have HRB := Aside0.mk (HR.out.below hb); clear h HA hr hb hrd)
  have hx := blk_below (blk_below HX.out HB1.out) HC.out.bel
  have x0 : w13.cell? ⟨r, 0, none⟩ = some (.int .i64 nm) := blk_cell hx 0
  clear hx
  have s1 := str_BR HRB.out c2
  have s2 := str_BR ((HH.out.1.below HW1.out).below HC.out.bel) c
  rw [← HM.out.1] at s2
  go_wp2
  go_ret
  refine ⟨?_, below_step HW1.out HC.out.bel⟩
  show Ending.returned (.bool (!nm == 1)) = _
  rw [E5.out]
  rfl
end Go.Proofs.YtnnlmackofopeaaDoor.Fs
