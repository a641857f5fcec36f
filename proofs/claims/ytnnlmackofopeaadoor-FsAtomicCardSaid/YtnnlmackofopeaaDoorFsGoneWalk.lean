/- FsGone: the walk. -/
import Derived.Test.YtnnlmackofopeaaDoorFsGoneLaw
namespace Go.Proofs.YtnnlmackofopeaaDoor.Fs
open Go.RowKit Go.Lib Go.Maps Go.Shelf Go.Sort Go.Proofs.YtnnlmackofopeaaDoorW.PrintWords Go.Proofs.YtnnlmackofopeaaDoorW.PrintLast Go.Proofs.YtnnlmackofopeaaDoorW.PrintMore
set_option linter.unusedVariables false
set_option linter.unusedSimpArgs false
theorem One.bel {wB w : World} {g : Nat} {S : FsS} (h : One wB (fun _ => False) w g S) : Below wB.heap.size wB w :=
  ⟨h.turn.os, h.turn.tape, h.turn.output, h.turn.size, fun k hk => h.turn.block k hk (fun h => h)⟩
theorem IR.below {w w' : World} {A : Option Addr} {bs : List Int} (h : IR w A bs) (hb : Below w.heap.size w w') : IR w' A bs := fun i hi => by
  obtain ⟨ad, e, hc⟩ := h i hi
  exact ⟨ad, e, (hb.cell (World.block_lt_of_cell? w _ hc)).trans hc⟩
theorem crash_bounds (S : FsS) (nm : Int) (bs : List Int) : (S.crash nm bs).ops = S.ops ∧ (S.crash nm bs).dat = S.dat :=
  ⟨(cutN_rest S bs S.files.length).2.2.2.2.2.2.1, (cutN_rest S bs S.files.length).2.2.2.2.2.2.2.1⟩
theorem gone_big (ys : List Int) (h : ys.length ≤ 1000) : (go1.ops + 1) * (0 + ys.length) ≤ 1000000000000000 := by
  have h3 : go1.ops = 2 := by kernel_rfl
  rw [h3]
  omega
set_option maxHeartbeats 4000000 in
set_option maxRecDepth 100000 in
theorem gone_calls (A : Option Addr) (c : Nat) (ys : List Int) (nm : Int) (Ab : Option Addr) (bc : Nat) (bs : List Int) (sy : Bool) (w : World) (hr : BR w A ys) (hb : IR w Ab bs) (hbl : bs.length ≤ maxLen) :
    Calls Tryd.prog 5 #[.slice A ys.length c, .agg #[.int .i64 nm, .slice Ab bs.length bc], .bool sy] w fun e w' => e = .returned (.bool true) ∧ Below w.heap.size w w' := by
  have hx := blk_new w (.cells #[.int .i64 nm, .slice Ab bs.length bc] 25)
  have HB0 := Aside0.mk (below_alloc (Below.refl w.heap.size w) (.cells #[.int .i64 nm, .slice Ab bs.length bc] 25))
  have HH := Aside0.mk (And.intro hr (And.intro hr.there (And.intro hb (And.intro hb.there hbl))))
  obtain ⟨W, hW⟩ : ∃ W, W = w.alloc (.cells #[.int .i64 nm, .slice Ab bs.length bc] 25) := ⟨_, rfl⟩
  obtain ⟨r, hr0⟩ : ∃ r, r = w.heap.size := ⟨_, rfl⟩
  obtain ⟨m, hm⟩ : ∃ m, m = ys.length := ⟨_, rfl⟩
  rw [← hW, ← hr0] at hx
  rw [← hW] at HB0
  have HX := Aside0.mk hx
  have HM := Aside0.mk hm
  rw [← hm]
  clear hx hr hb hbl hm
  go_enter Tryd.func5, Tryd.ntmps5
  go_upto_region 1 with (fail)
  rw [← hW, ← hr0]
  have HR0 := Aside0.mk hr0
  clear hW hr0
  go_upto_region 2 with (go_at_call 21; refine (shown_calls W).mono ?_; rintro e w1 ⟨rfl, hb⟩; have HB1 := Aside0.mk hb; clear hb)
  go_upto_region 3 with (go_at_call 14; refine (one_new q20 w1).mono ?_; rintro e w2 ⟨g, rfl, h⟩; have H0 := Aside0.mk h; clear h)
  have HW1 := Aside0.mk (show Below w.heap.size w w1 from below_step HB0.out HB1.out)
  by_cases hml : m ≤ 1000
  case neg =>
    have e1 : ((1000 : Int) < (m : Int)) = True := eq_true (by omega)
    clear hml
    go_wp2
    go_ret
    exact ⟨rfl, below_step HW1.out H0.out.bel⟩
  have e1 : ((1000 : Int) < (m : Int)) = False := eq_false (by omega)
  have HML := Aside0.mk hml
  clear hml
  go_upto_region 6 with (go_at_call 22; refine (H0.out.create na (by decide)).mono ?_; rintro e w3 ⟨rfl, h⟩; rw [go1_eq] at h; have H1 := Aside0.mk h; clear h H0)
  have hap := H1.out.append na A c ys ((HH.out.1.below HW1.out).below H1.out.bel) (HH.out.2.1.imp id fun h ad e => ⟨fun h => h, Nat.lt_of_lt_of_le (h ad e) HW1.out.size⟩) (by decide) (by decide) (by have := HML.out; have := HM.out; omega)
  rw [← HM.out] at hap
  go_upto_region 7 with (go_at_call 24; refine hap.mono ?_; rintro e w4 ⟨rfl, h⟩; rw [go2_eq ys (by have := HML.out; have := HM.out; omega)] at h; have H2 := Aside0.mk h; clear h H1 hap)
  go_upto_region 8 with (go_at_call 25; refine (H2.out.sync na (by show 0 + ys.length ≤ 1000000000; have := HML.out; have := HM.out; omega)).mono ?_; rintro e w5 ⟨rfl, h⟩; rw [go3_eq ys] at h; have H3 := Aside0.mk h; clear h H2)
  go_upto_region 9 with (go_at_call 23; refine (H3.out.syncNames).mono ?_; rintro e w6 ⟨rfl, h⟩; rw [go4_eq ys] at h; have H4 := Aside0.mk h; clear h H3)
  go_upto_region 10 with (go_at_call 27; refine (H4.out.remove na (by show go1.ops ≤ 90000; decide)).mono ?_; rintro e w7 ⟨rfl, h⟩; rw [go5_eq ys] at h ⊢; have H5 := Aside0.mk h; clear h H4)
  cases sy with
  | true =>
    go_upto_region 12 with (go_at_call 23; refine (H5.out.syncNames).mono ?_; rintro e w8 ⟨rfl, h⟩; rw [go6_eq ys] at h; have H6 := Aside0.mk h; clear h H5)
    have hx := blk_below (blk_below HX.out HB1.out) H6.out.bel
    have x0 : w8.cell? ⟨r, 0, none⟩ = some (.int .i64 nm) := blk_cell hx 0
    have x1 : w8.cell? ⟨r, 1, none⟩ = some (.slice Ab bs.length bc) := blk_cell hx 1
    clear hx
    go_upto_region 13 with (go_at_call 17; refine (H6.out.crash nm Ab bc bs ((HH.out.2.2.1.below HW1.out).below H6.out.bel) (HH.out.2.2.2.1.imp id fun h ad e => ⟨fun h => h, Nat.lt_of_lt_of_le (h ad e) HW1.out.size⟩) (by show go1.ops + 1 ≤ 90000; decide) (by show 0 + ys.length ≤ 1000000000; have := HML.out; have := HM.out; omega) HH.out.2.2.2.2).mono ?_; rintro e w9 ⟨rfl, h⟩; have H7 := Aside0.mk h; clear h H6 x0 x1)
    have hrd := H7.out.read na (by rw [(crash_bounds _ nm bs).2]; show 0 + ys.length ≤ 1000000000; have := HML.out; have := HM.out; omega)
    rw [(gone_synced ys nm bs).1] at hrd
    go_upto_region 14 with (go_at_call 26; refine hrd.mono ?_; rintro e w10 ⟨v, rfl, hr, hb, h⟩; obtain ⟨A2, c2, rfl⟩ := row_slice hr; have H8 := Aside0.mk h; clear h H7 hr hb hrd)
    have hx := blk_below (blk_below HX.out HB1.out) H8.out.bel
    have x0 : w10.cell? ⟨r, 0, none⟩ = some (.int .i64 nm) := blk_cell hx 0
    clear hx
    have hus := H8.out.usedC (by rw [(crash_bounds _ nm bs).1, (crash_bounds _ nm bs).2]; exact gone_big ys (by have := HML.out; have := HM.out; omega))
    rw [(gone_synced ys nm bs).2] at hus
    go_wp2_with (go_at_call 28; refine hus.mono ?_; rintro e w11 ⟨rfl, hb, h⟩; have H9 := Aside0.mk h; clear h hb hus)
    go_ret
    exact ⟨rfl, below_step HW1.out H9.out.bel⟩
  | false =>
    go_upto_region 12 with (fail)
    have hx := blk_below (blk_below HX.out HB1.out) H5.out.bel
    have x0 : w7.cell? ⟨r, 0, none⟩ = some (.int .i64 nm) := blk_cell hx 0
    have x1 : w7.cell? ⟨r, 1, none⟩ = some (.slice Ab bs.length bc) := blk_cell hx 1
    clear hx
    go_upto_region 13 with (go_at_call 17; refine (H5.out.crash nm Ab bc bs ((HH.out.2.2.1.below HW1.out).below H5.out.bel) (HH.out.2.2.2.1.imp id fun h ad e => ⟨fun h => h, Nat.lt_of_lt_of_le (h ad e) HW1.out.size⟩) (by show go1.ops + 1 ≤ 90000; decide) (by show 0 + ys.length ≤ 1000000000; have := HML.out; have := HM.out; omega) HH.out.2.2.2.2).mono ?_; rintro e w9 ⟨rfl, h⟩; have H7 := Aside0.mk h; clear h H5 x0 x1)
    by_cases hn : nm ≤ 0
    case neg =>
      have hst := gone_stay ys nm bs (by omega)
      have e2 : (nm ≤ 0) = False := eq_false hn
      clear hn
      have hrd := H7.out.read na (by rw [(crash_bounds _ nm bs).2]; show 0 + ys.length ≤ 1000000000; have := HML.out; have := HM.out; omega)
      rw [hst.1] at hrd
      go_upto_region 14 with (go_at_call 26; refine hrd.mono ?_; rintro e w10 ⟨v, rfl, hr, hb, h⟩; obtain ⟨A2, c2, rfl⟩ := row_slice hr; have H8 := Aside0.mk h; clear h H7 hr hb hrd)
      have hx := blk_below (blk_below HX.out HB1.out) H8.out.bel
      have x0 : w10.cell? ⟨r, 0, none⟩ = some (.int .i64 nm) := blk_cell hx 0
      clear hx
      have hus := H8.out.usedC (by rw [(crash_bounds _ nm bs).1, (crash_bounds _ nm bs).2]; exact gone_big ys (by have := HML.out; have := HM.out; omega))
      rw [hst.2] at hus
      go_wp2_with (go_at_call 28; refine hus.mono ?_; rintro e w11 ⟨rfl, hb, h⟩; have H9 := Aside0.mk h; clear h hb hus)
      go_ret
      exact ⟨rfl, below_step HW1.out H9.out.bel⟩
    case pos =>
      have hst := gone_back ys nm bs hn
      have e2 : (nm ≤ 0) = True := eq_true hn
      clear hn
      have hrd := H7.out.read na (by rw [(crash_bounds _ nm bs).2]; show 0 + ys.length ≤ 1000000000; have := HML.out; have := HM.out; omega)
      rw [hst] at hrd
      go_upto_region 14 with (go_at_call 26; refine hrd.mono ?_; rintro e w10 ⟨v, rfl, hr, hb, h⟩; obtain ⟨A2, c2, rfl, hbr, _⟩ := row_BR (xs := ys) hr; have HR := Aside0.mk hbr; have H8 := Aside0.mk h; clear h H7 hr hb hrd hbr)
      have hx := blk_below (blk_below HX.out HB1.out) H8.out.bel
      have x0 : w10.cell? ⟨r, 0, none⟩ = some (.int .i64 nm) := blk_cell hx 0
      clear hx
      have s1 := str_BR HR.out c2
      have s2 := str_BR ((HH.out.1.below HW1.out).below H8.out.bel) c
      rw [← HM.out] at s2
      go_wp2
      go_ret
      exact ⟨rfl, below_step HW1.out H8.out.bel⟩
end Go.Proofs.YtnnlmackofopeaaDoor.Fs
