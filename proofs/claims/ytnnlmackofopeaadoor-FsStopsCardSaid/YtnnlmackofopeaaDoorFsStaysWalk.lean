/- FsStays: the walk. -/
import Derived.Test.YtnnlmackofopeaaDoorFsStaysLaw
import Derived.Deep.RegionHeld3
namespace Go.Proofs.YtnnlmackofopeaaDoor.Fs
open Go.RowKit Go.Lib Go.Maps Go.Shelf Go.Sort Go.Proofs.YtnnlmackofopeaaDoorW.PrintWords Go.Proofs.YtnnlmackofopeaaDoorW.PrintLast Go.Proofs.YtnnlmackofopeaaDoorW.PrintMore
set_option linter.unusedVariables false
set_option linter.unusedSimpArgs false
theorem One.listS {wB w : World} {B : Nat → Prop} {g : Nat} {S : FsS} (h : One wB B w g S) (hops : S.ops ≤ 1000000) : Calls Tryd.prog 20 #[.pointer (some ⟨g, 0, none⟩)] w fun e w' => ∃ A c, e = .returned (.slice A (listD S.names).length c) ∧ (listD S.names).length ≤ maxLen ∧ SR w' A ((listD S.names).map bOf) ∧ (∀ ad, A = some ad → w.heap.size ≤ ad.block ∧ ad.block < w'.heap.size) ∧ Below w.heap.size w w' ∧ One wB B w' g S :=
  (h.list hops).mono fun e w' ⟨v, he, hr, hb, ho⟩ => by
    obtain ⟨A, c, hv, hs⟩ := row_SR hr
    refine ⟨A, c, by rw [he, hv], ?_, hs, fun ad hA => ?_, hb, ho⟩
    · rcases hr.2 with ⟨_, e⟩ | ⟨b, cap, cur, e, h1, h2, h3, h4, _⟩
      · rw [e]; exact Nat.zero_le _
      · exact Nat.le_trans h3 h4
    subst hA
    obtain ⟨cells, hc⟩ := own_typed hr ad.block (by rw [hv]; rfl)
    rcases hr.2 with ⟨e, _⟩ | ⟨b, cap, cur, e, h1, h2, _⟩
    · rw [hv] at e
      cases e
    · rw [hv] at e
      injection e with e
      injection e with e
      subst e
      exact ⟨h1, blk_lt h2⟩
/-- The list, and the chain begun anew behind it: the list's row is not the file system's. -/
theorem One.listR {wB w : World} {B : Nat → Prop} {g : Nat} {S : FsS} (h : One wB B w g S) (hops : S.ops ≤ 1000000) : ∃ own : Nat → Prop, (∀ k, own k → B k ∨ wB.heap.size ≤ k) ∧ Under own w ∧ Turn B wB w ∧
    Calls Tryd.prog 20 #[.pointer (some ⟨g, 0, none⟩)] w fun e w' => ∃ A c, e = .returned (.slice A (listD S.names).length c) ∧ (listD S.names).length ≤ maxLen ∧ SR w' A ((listD S.names).map bOf) ∧ (∀ ad, A = some ad → ¬ own ad.block ∧ ad.block < w'.heap.size) ∧ Below w.heap.size w w' ∧ One w' own w' g S := by
  obtain ⟨own, h1, h2, h3, h4⟩ := h
  refine ⟨own, h1, h2, h4, (One.listS (wB := w) (B := own) ⟨own, fun k hk => .inl hk, h2, h3, Turn.refl _ _⟩ hops).mono fun e w' ⟨A, c, he, hn, hs, hA, hb, _⟩ => ⟨A, c, he, hn, hs, fun ad e => ⟨fun hk => ?_, (hA ad e).2⟩, hb, own, fun k hk => .inl hk, fun k hk => Nat.lt_of_lt_of_le (h2 k hk) hb.size, h3.below hb, Turn.refl _ _⟩⟩
  have := h2 _ hk
  have := (hA ad e).1
  omega
theorem turn_low {own : Nat → Prop} {w0 w w' : World} (h : Turn own w w') (hb : Below w0.heap.size w0 w) (ho : ∀ k, own k → w0.heap.size ≤ k) : Below w0.heap.size w0 w' := h.low hb ho
set_option maxHeartbeats 8000000 in
set_option maxRecDepth 100000 in
theorem stays_calls (A : Option Addr) (c : Nat) (ds : List Dd) (D : Option Addr) (dc : Nat) (ys : List Int) (nm : Int) (Ab : Option Addr) (bc : Nat) (bs : List Int) (w : World) (hr : DeedsR w w A ds) (hdl : ds.length ≤ maxLen) (hy : BR w D ys) (hb : IR w Ab bs) (hbl : bs.length ≤ maxLen) :
    Calls Tryd.prog 7 #[.slice A ds.length c, .slice D ys.length dc, .agg #[.int .i64 nm, .slice Ab bs.length bc]] w fun e w' => e = .returned (.bool true) ∧ Below w.heap.size w w' := by
  have hx0 := blk_new w (.cells #[.int .i64 nm, .slice Ab bs.length bc] 25)
  have HB0 := Aside0.mk (below_alloc (Below.refl w.heap.size w) (.cells #[.int .i64 nm, .slice Ab bs.length bc] 25))
  have HH := Aside0.mk (And.intro hy (And.intro hy.there (And.intro hb (And.intro hb.there hbl))))
  have HD := Aside0.mk (And.intro hr hdl)
  obtain ⟨W, hW⟩ : ∃ W, W = w.alloc (.cells #[.int .i64 nm, .slice Ab bs.length bc] 25) := ⟨_, rfl⟩
  obtain ⟨r, hr0⟩ : ∃ r, r = w.heap.size := ⟨_, rfl⟩
  obtain ⟨m, hm⟩ : ∃ m, m = ds.length := ⟨_, rfl⟩
  obtain ⟨p, hp⟩ : ∃ p, p = ys.length := ⟨_, rfl⟩
  rw [← hW, ← hr0] at hx0
  rw [← hW] at HB0
  have HX := Aside0.mk hx0
  have HM := Aside0.mk (And.intro hm hp)
  rw [← hm, ← hp]
  clear hx0 hy hb hbl hm hp hr hdl
  go_enter Tryd.func7, Tryd.ntmps7
  go_upto_region 1 with (fail)
  rw [← hW, ← hr0]
  have HR0 := Aside0.mk hr0
  clear hW hr0
  go_upto_region 2 with (go_at_call 21; refine (shown_calls W).mono ?_; rintro e w1 ⟨rfl, hb⟩; have HB1 := Aside0.mk (show Below w.heap.size w w1 from below_step HB0.out hb); have HX1 := Aside0.mk (blk_below HX.out hb); clear hb HX HB0)
  have hfew := few_calls A c ds w1 w (HD.out.1.below HB1.out) HD.out.2
  rw [← HM.out.1] at hfew
  go_upto_region 3 with (first | (go_at_call 31; refine hfew.mono ?_; rintro e w2 ⟨out, A2, c2, rfl, hr2, hl2, hd2, hA2, hb2⟩; have HF := Aside0.mk (And.intro hr2 (And.intro hl2 hd2)); have HB2 := Aside0.mk (show Below w.heap.size w w2 from below_step HB1.out hb2); have HX2 := Aside0.mk (blk_below HX1.out hb2); clear hb2 hr2 hl2 hd2 hA2 hfew HX1) | (go_at_call 30; refine (filled_calls A2 c2 out w w2 HF.out.1 HB2.out HF.out.2.1 HF.out.2.2).mono ?_; rintro e w3 ⟨g, rfl, h⟩; have H0 := Aside0.mk h; clear h))
  obtain ⟨S, hS⟩ : ∃ S, S = (fs0 q20).plays out := ⟨_, rfl⟩
  obtain ⟨x, y, hxy, hBd⟩ := plays_Bd q20 _ out rfl HF.out.2.2
  rw [← hS] at H0 hBd
  have HBd := Aside0.mk (And.intro (show x + y ≤ 120 by have := HF.out.2.1; omega) (And.intro hBd H0.out.isMap))
  clear hS hxy hBd
  by_cases hpl : p ≤ 100
  case neg =>
    have e1 : ((100 : Int) < (p : Int)) = True := eq_true (by omega)
    clear hpl
    go_wp2
    go_ret
    exact ⟨rfl, below_step HB2.out H0.out.bel⟩
  have e1 : ((100 : Int) < (p : Int)) = False := eq_false (by omega)
  have hyl : ys.length ≤ 100 := by have := HM.out.2; omega
  have HL := Aside0.mk hyl
  clear hpl hyl
  go_upto_region 6 with (go_at_call 16; refine (H0.out.limit (-1)).mono ?_; rintro e w4 ⟨rfl, h⟩; have H1 := Aside0.mk h; clear h H0)
  go_upto_region 7 with (go_at_call 32; refine (H1.out.quota q20).mono ?_; rintro e w5 ⟨rfl, h⟩; have H2 := Aside0.mk (show One w2 (fun _ => False) w5 g (st2 S) from h); clear h H1)
  have hops : (st2 S).ops ≤ 90000 := by have := (HBd.out.2.1.small2 (by have := HBd.out.1; omega)).2.1; show S.ops ≤ 90000; omega
  go_upto_region 8 with (go_at_call 22; refine (H2.out.create nNew hops).mono ?_; rintro e w6 ⟨rfl, h⟩; rw [st3_eq] at h; have H3 := Aside0.mk h; clear h H2 hops)
  have hsm := (st3_Bd HBd.out.2.1).small2 (by have := HBd.out.1; omega)
  have hap := H3.out.append nNew D dc ys ((HH.out.1.below HB2.out).below H3.out.bel) (HH.out.2.1.imp id fun h ad e => ⟨fun h => h, Nat.lt_of_lt_of_le (h ad e) HB2.out.size⟩) (by omega) (by omega) (by have := HL.out; omega)
  rw [st4_eq HBd.out.2.2 HBd.out.2.1 HBd.out.1 HL.out, ← HM.out.2] at hap
  clear hsm
  go_upto_region 9 with (go_at_call 24; refine hap.mono ?_; rintro e w7 ⟨rfl, h⟩; have H4 := Aside0.mk h; clear h H3 hap)
  have hsy := H4.out.sync nNew (by have := (st4_Bd HBd.out.2.1 HL.out).small2 (by have := HBd.out.1; omega); omega)
  rw [st5_eq HBd.out.2.2] at hsy
  go_upto_region 10 with (go_at_call 25; refine hsy.mono ?_; rintro e w8 ⟨rfl, h⟩; have H5 := Aside0.mk h; clear h H4 hsy)
  have hsn := H5.out.syncNames
  rw [st6_eq] at hsn
  go_upto_region 11 with (go_at_call 23; refine hsn.mono ?_; rintro e w9 ⟨rfl, h⟩; have H6 := Aside0.mk h; clear h H5 hsn)
  have hsm6 := (st6_Bd HBd.out.2.1 HL.out).small2 (by have := HBd.out.1; omega)
  obtain ⟨own, ho1, ho2, ho4, hls⟩ := H6.out.listR (by omega)
  rw [show (st6 S ys).names = (st3 S).names from rfl] at hls
  obtain ⟨ns, hns⟩ : ∃ ns, ns = listD (st3 S).names := ⟨_, rfl⟩
  rw [← hns] at hls
  have HNS := Aside0.mk hns
  clear hns
  have HB9 := Aside0.mk (show Below w.heap.size w w9 from below_step HB2.out H6.out.bel)
  have hrl := blk_lt HX2.out
  have HO := Aside0.mk (show ∀ k, own k → w.heap.size ≤ k ∧ r < k from fun k hk => (ho1 k hk).elim (fun h => h.elim) (fun h => ⟨Nat.le_trans HB2.out.size h, Nat.lt_of_lt_of_le hrl h⟩))
  have HX9 := Aside0.mk (blk_below HX2.out H6.out.bel)
  clear hrl
  clear ho1 ho2 ho4 H6 HX2
  go_upto_region 12 with (go_at_call 20; refine hls.mono ?_; rintro e w10 ⟨LA, lc, rfl, hn, hs, hA, hb, h⟩; have HLA := Aside0.mk (And.intro hs (And.intro hA hn)); have HB10 := Aside0.mk (below_step HB9.out hb); have HX10 := Aside0.mk (blk_below HX9.out hb); have H8 := Aside0.mk h; clear h hs hA hb hls hn)
  have hcv := conv_more w10
  have hap := H8.out.append_new nNew oMore 4 more4 (br_more _) (by omega) (by omega) (by decide)
  rw [st7_eq HBd.out.2.2 HBd.out.2.1 HBd.out.1 HL.out] at hap
  clear hsm6
  go_upto_region 13 with (go_at_call 24; refine hap.mono ?_; rintro e w11 ⟨rfl, h⟩; have H9 := Aside0.mk h; clear h H8 hap hcv)
  have HB11 := Aside0.mk (turn_low H9.out.turn HB10.out (fun k hk => (HO.out k hk).1))
  have hx : w11.heap[r]? = some (.cells #[.int .i64 nm, .slice Ab bs.length bc] 25) := H9.out.turn.blk HX10.out (fun hk => by have := HO.out _ hk; omega)
  have x0 : w11.cell? ⟨r, 0, none⟩ = some (.int .i64 nm) := blk_cell hx 0
  have x1 : w11.cell? ⟨r, 1, none⟩ = some (.slice Ab bs.length bc) := blk_cell hx 1
  clear hx
  have hsm7 := (st7_Bd HBd.out.2.1 HL.out).small2 (by have := HBd.out.1; omega)
  have HS7 := Aside0.mk hsm7
  clear hsm7
  go_upto_region 14 with (go_at_call 17; refine (H9.out.crash nm Ab bc bs (HH.out.2.2.1.below HB11.out) (HH.out.2.2.2.1.imp id fun h ad e => ⟨fun hk => by have := HO.out _ hk; have := h ad e; omega, Nat.lt_of_lt_of_le (h ad e) HB10.out.size⟩) (by have := HS7.out; omega) (by have := HS7.out; omega) HH.out.2.2.2.2).mono ?_; rintro e w12 ⟨rfl, h⟩; have H10 := Aside0.mk h; clear h H9 x0 x1)
  obtain ⟨k, hk1, hk2, hrk⟩ := st_read (S := S) (ys := ys) HBd.out.2.2 nm bs
  have HK := Aside0.mk (And.intro hk1 hk2)
  obtain ⟨zs, hz⟩ : ∃ zs, zs = (ys ++ more4).take k := ⟨_, rfl⟩
  have hrd := H10.out.read nNew (by rw [(crash_bounds _ nm bs).2]; have := HS7.out; omega)
  rw [hrk, ← hz] at hrd
  have HZ := Aside0.mk hz
  clear hz hk1 hk2 hrk
  go_upto_region 15 with (go_at_call 26; refine hrd.mono ?_; rintro e w13 ⟨v, rfl, hr, hb, h⟩; obtain ⟨A3, c3, rfl, hbr, _⟩ := row_BR (xs := zs) hr; have HR := Aside0.mk hbr; have H11 := Aside0.mk h; clear h H10 hr hb hrd hbr)
  have HB13 := Aside0.mk (turn_low H11.out.turn HB10.out (fun k hk => (HO.out k hk).1))
  have hzl : zs.length ≤ p + 4 ∧ p ≤ zs.length := by
    have h1 := HK.out
    have h2 := HM.out.2
    have h3 : zs.length = min k (ys ++ more4).length := by rw [HZ.out, List.length_take]
    have h4 : (ys ++ more4).length = ys.length + 4 := by rw [List.length_append]; rfl
    omega
  have hsz : (sOf ys).size = p := by rw [sOf_size, HM.out.2]
  have hex : (sOf ys ++ ⟨#[109, 111, 114, 101]⟩).extract 0 zs.length = sOf zs := by
    have e : (⟨#[109, 111, 114, 101]⟩ : ByteArray) = sOf more4 := by decide
    rw [e, sOf_append, sOf_take]
    congr 1
    rw [HZ.out, List.length_take, ← List.take_take, List.take_length]
  have e2 : ((p : Int) ≤ (zs.length : Int)) = True := eq_true (by omega)
  have e3 : ((zs.length : Int) ≤ (p : Int) + 4) = True := eq_true (by omega)
  have e4 : (zs.length ≤ p + 4) = True := eq_true (by omega)
  have e5 : IntKind.i64.wrap ((p : Int) + 4) = (p : Int) + 4 := IntWalk.i64_in _ (by have := HM.out; have := HL.out; omega)
  have e6 : (9223372036854775807 < p + 4) = False := eq_false (by have := HM.out; have := HL.out; omega)
  have HDR := Aside0.mk (below_drew1 w13)
  have H12 := Aside0.mk (H11.out.below HDR.out)
  have s1 := str_BR (BR.below HR.out HDR.out) c3
  have s2 := str_BR ((HH.out.1.below HB13.out).below HDR.out) dc
  rw [← HM.out.2] at s2
  obtain ⟨own2, ho1, ho2, ho4, hls⟩ := H12.out.listR (by rw [(crash_bounds _ nm bs).1]; have := HS7.out; omega)
  rw [st_names, ← HNS.out] at hls
  have HSR := Aside0.mk (show SR w13.drew LA (ns.map bOf) from HLA.out.1.turn H12.out.turn (fun ad e => (HLA.out.2.1 ad e).1))
  clear hzl ho1 ho2 ho4
  go_region_held3 (fun w' => (convert 22 9 (.slice A3 zs.length c3)).run Tryd.prog w' = .ok (.string (sOf zs)) w' ∧ (convert 22 9 (.slice D p dc)).run Tryd.prog w' = .ok (.string (sOf ys)) w') (first | exact ⟨s1, s2⟩ | exact ⟨t1, t2⟩ | exact ⟨u1, u2⟩)
    (first
      | (go_at_call 20; refine hls.mono ?_; rintro e w14 ⟨LB, lc2, rfl, hn, hs, hA, hb, h⟩; have HB14 := Aside0.mk (show Below w13.drew.heap.size w13.drew w14 from hb); have t1 := str_BR ((BR.below HR.out HDR.out).below hb) c3; have t2 : (convert 22 9 (.slice D p dc)).run Tryd.prog w14 = .ok (.string (sOf ys)) w14 := (HM.out.2 ▸ str_BR (((HH.out.1.below HB13.out).below HDR.out).below hb) dc); have hsm := same_calls (ns.map bOf) ns.length (by rw [List.length_map]) hn LB lc2 LA lc w14 hs (HSR.out.below hb); clear h hs hA hb hn hls)
      | (go_at_call 19; refine hsm.mono ?_; rintro e w15 ⟨rfl, hb⟩; have HB15 := Aside0.mk (show Below w14.heap.size w14 w15 from hb); have u1 := str_BR (((BR.below HR.out HDR.out).below HB14.out).below hb) c3; have u2 : (convert 22 9 (.slice D p dc)).run Tryd.prog w15 = .ok (.string (sOf ys)) w15 := (HM.out.2 ▸ str_BR ((((HH.out.1.below HB13.out).below HDR.out).below HB14.out).below hb) dc); clear hb hsm))
  go_wp2
  go_ret
  exact ⟨rfl, below_step HB13.out (below_step HDR.out (below_step HB14.out HB15.out))⟩
end Go.Proofs.YtnnlmackofopeaaDoor.Fs
