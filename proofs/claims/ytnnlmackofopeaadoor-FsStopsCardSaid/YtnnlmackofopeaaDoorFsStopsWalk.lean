/- FsStops: the states, the walk. -/
import Derived.Test.YtnnlmackofopeaaDoorFsStaysWalk
namespace Go.Proofs.YtnnlmackofopeaaDoor.Fs
open Go.RowKit Go.Lib Go.Maps Go.Shelf Go.Sort Go.Proofs.YtnnlmackofopeaaDoorW.PrintWords Go.Proofs.YtnnlmackofopeaaDoorW.PrintLast Go.Proofs.YtnnlmackofopeaaDoorW.PrintMore
set_option linter.unusedVariables false
set_option linter.unusedSimpArgs false
abbrev nX : ByteArray := ⟨#[120]⟩
theorem may_x : mayS nX = true := by kernel_rfl
def sp1 (S : FsS) : FsS := { S with left := 0, limited := true }
theorem stop_begin {S : FsS} (h : S.stops = true) (ns : List ByteArray) : S.beginC ns = 11 ∧ S.beginT = S := by
  unfold FsS.beginC FsS.beginT
  rw [if_pos h, if_pos h]
  exact ⟨rfl, rfl⟩
theorem stop_do {S : FsS} (h : S.stops = true) (d : Dd) (h0 : 0 ≤ d.kind) (h6 : d.kind < 6) : S.doS d = (11, S) := by
  have hb := fun ns => (stop_begin h ns).1
  have ht := (stop_begin h []).2
  have h11 : ¬ ((11 : Int) = 0) := by decide
  unfold FsS.doS
  by_cases e0 : d.kind = 0
  · rw [if_pos e0]; unfold FsS.create; rw [hb, if_neg h11, ht]
  rw [if_neg e0]
  by_cases e1 : d.kind = 1
  · rw [if_pos e1]; unfold FsS.append; rw [hb, if_neg h11, ht]
  rw [if_neg e1]
  by_cases e2 : d.kind = 2
  · rw [if_pos e2]; unfold FsS.sync; rw [hb, if_neg h11, ht]
  rw [if_neg e2]
  by_cases e3 : d.kind = 3
  · rw [if_pos e3]; unfold FsS.syncNames; rw [if_pos h]
  rw [if_neg e3]
  by_cases e4 : d.kind = 4
  · rw [if_pos e4]; unfold FsS.rename; rw [hb, if_neg h11, ht]
  rw [if_neg e4]
  rw [if_pos (show d.kind = 5 by omega)]
  unfold FsS.remove
  rw [hb, if_neg h11, ht]
theorem sp_stops (S : FsS) : (sp1 S).stops = true := rfl
theorem sp_create (S : FsS) : ((sp1 S).crash 1000 []).create nX = (0, ((sp1 S).crash 1000 []).file1.chg (.link nX ((sp1 S).crash 1000 []).files.length)) := create_ok (S := (sp1 S).crash 1000 []) rfl may_x
theorem sp_sync (S : FsS) : ((((sp1 S).crash 1000 []).file1.chg (.link nX ((sp1 S).crash 1000 []).files.length))).syncNames.1 = 0 := by
  rw [syncNames_ok (S := (((sp1 S).crash 1000 []).file1.chg (.link nX ((sp1 S).crash 1000 []).files.length))) rfl]
/-- A chain that is left for a while: what is the file system's, and the chain anew behind whatever only makes. -/
theorem One.pause {wB w : World} {B : Nat → Prop} {g : Nat} {S : FsS} (h : One wB B w g S) : ∃ own : Nat → Prop, (∀ k, own k → B k ∨ wB.heap.size ≤ k) ∧ Under own w ∧ Turn B wB w ∧ ∀ w', Below w.heap.size w w' → One w' own w' g S := by
  obtain ⟨own, h1, h2, h3, h4⟩ := h
  exact ⟨own, h1, h2, h4, fun w' hb => ⟨own, fun k hk => .inl hk, fun k hk => Nat.lt_of_lt_of_le (h2 k hk) hb.size, h3.below hb, Turn.refl _ _⟩⟩
set_option maxHeartbeats 8000000 in
set_option maxRecDepth 100000 in
theorem stops_calls (A : Option Addr) (c : Nat) (ds : List Dd) (D : Option Addr) (dc : Nat) (es : List Dd) (w : World) (hr : DeedsR w w A ds) (hdl : ds.length ≤ maxLen) (hr2 : DeedsR w w D es) (hel : es.length ≤ maxLen) :
    Calls Tryd.prog 8 #[.slice A ds.length c, .slice D es.length dc] w fun e w' => e = .returned (.bool true) ∧ Below w.heap.size w w' := by
  have HD := Aside0.mk (And.intro hr (And.intro hdl (And.intro hr2 hel)))
  obtain ⟨m, hm⟩ : ∃ m, m = ds.length := ⟨_, rfl⟩
  obtain ⟨p, hp⟩ : ∃ p, p = es.length := ⟨_, rfl⟩
  have HM := Aside0.mk (And.intro hm hp)
  rw [← hm, ← hp]
  clear hm hp hr hdl hr2 hel
  go_enter Tryd.func8, Tryd.ntmps8
  go_upto_region 2 with (go_at_call 21; refine (shown_calls w).mono ?_; rintro e w1 ⟨rfl, hb⟩; have HB1 := Aside0.mk (show Below w.heap.size w w1 from hb); clear hb)
  have hfew := few_calls A c ds w1 w (HD.out.1.below HB1.out) HD.out.2.1
  rw [← HM.out.1] at hfew
  go_upto_region 3 with (first | (go_at_call 31; refine hfew.mono ?_; rintro e w2 ⟨out, A2, c2, rfl, hr2, hl2, hd2, hA2, hb2⟩; have HF := Aside0.mk (And.intro hr2 (And.intro hl2 hd2)); have HB2 := Aside0.mk (show Below w.heap.size w w2 from below_step HB1.out hb2); clear hb2 hr2 hl2 hd2 hA2 hfew) | (go_at_call 30; refine (filled_calls A2 c2 out w w2 HF.out.1 HB2.out HF.out.2.1 HF.out.2.2).mono ?_; rintro e w3 ⟨g, rfl, h⟩; have H0 := Aside0.mk h; clear h))
  obtain ⟨S, hS⟩ : ∃ S, S = (fs0 q20).plays out := ⟨_, rfl⟩
  obtain ⟨x, y, hxy, hBd⟩ := plays_Bd q20 _ out rfl HF.out.2.2
  rw [← hS] at H0 hBd
  have HBd := Aside0.mk (hBd.small (by have := HF.out.2.1; omega))
  clear hS hxy hBd
  go_upto_region 6 with (go_at_call 16; refine (H0.out.limit 0).mono ?_; rintro e w4 ⟨rfl, h⟩; have H1 := Aside0.mk (show One w2 (fun _ => False) w4 g (sp1 S) from h); clear h H0)
  obtain ⟨own, ho1, ho2, ho3, hpz⟩ := H1.out.pause
  have HB4 := Aside0.mk (show Below w.heap.size w w4 from below_step HB2.out H1.out.bel)
  have HO := Aside0.mk (And.intro (show ∀ k, own k → w.heap.size ≤ k from fun k hk => (ho1 k hk).elim (fun h => h.elim) (fun h => Nat.le_trans HB2.out.size h)) ho2)
  have HPZ := Aside0.mk hpz
  clear ho1 ho2 ho3 hpz H1
  have hfew := few_calls D dc es w4 w (HD.out.2.2.1.below HB4.out) HD.out.2.2.2
  rw [← HM.out.2] at hfew
  go_upto_region 7 with (go_at_call 31; refine hfew.mono ?_; rintro e w5 ⟨oue, A3, c3, rfl, hr3, hl3, hd3, hA3, hb3⟩; have HE := Aside0.mk (And.intro hr3 (And.intro hl3 (And.intro hd3 hA3))); have HB5 := Aside0.mk (show Below w4.heap.size w4 w5 from hb3); clear hb3 hr3 hl3 hd3 hA3 hfew)
  obtain ⟨ns, hns⟩ : ∃ ns, ns = listD (sp1 S).names := ⟨_, rfl⟩
  have hls := (HPZ.out w5 HB5.out).listS (by show S.ops ≤ 1000000; have := HBd.out; omega)
  rw [← hns] at hls
  have HNS := Aside0.mk hns
  clear hns
  go_upto_region 8 with (go_at_call 20; refine hls.mono ?_; rintro e w6 ⟨LA, lc, rfl, hn, hs, hA, hb, h⟩; have HLA := Aside0.mk (And.intro hs (And.intro hA hn)); have HB56 := Aside0.mk (show Below w5.heap.size w5 w6 from hb); have HB6 := Aside0.mk (show Below w4.heap.size w4 w6 from below_step HB5.out hb); clear h hs hA hb hls hn)
  obtain ⟨u, hu⟩ : ∃ u, u = (sp1 S).used := ⟨_, rfl⟩
  have hus := (HPZ.out w6 HB6.out).usedC (by show S.ops * S.dat ≤ 1000000000000000; have := HBd.out; omega)
  rw [← hu] at hus
  have HU := Aside0.mk hu
  clear hu
  go_upto_region 9 with (go_at_call 28; refine hus.mono ?_; rintro e w7 ⟨rfl, hb, h⟩; have HB67 := Aside0.mk (show Below w6.heap.size w6 w7 from hb); have HB7 := Aside0.mk (show Below w4.heap.size w4 w7 from below_step HB6.out hb); clear h hb hus)
  have H7 := Aside0.mk (HPZ.out w7 HB7.out)
  have HR := Aside0.mk (show DeedsR w w7 A3 oue ∧ ∀ ad, A3 = some ad → ¬ own ad.block from ⟨(HE.out.1.below HB56.out).below HB67.out, fun ad e hk => by have := HO.out.2 _ hk; have := (HE.out.2.2.2 ad e).1; omega⟩)
  have HL := Aside0.mk (show SR w7 LA (ns.map bOf) ∧ ∀ ad, LA = some ad → ¬ own ad.block from ⟨HLA.out.1.below HB67.out, fun ad e hk => by have := HO.out.2 _ hk; have := (HLA.out.2.1 ad e).1; have := HB5.out.size; omega⟩)
  have HW7 := Aside0.mk (show Below w.heap.size w w7 from below_step HB4.out HB7.out)
  obtain ⟨q, hq⟩ : ∃ q, q = oue.length := ⟨_, rfl⟩
  have HQ := Aside0.mk hq
  rw [← hq]
  clear hq
  go_wp2
  go_loopg [10] q (fun kq v10 wr => ∃ (i : Nat), v10 = .int .i64 (i : Int) ∧ i + kq = q ∧ Aside0 (One w7 own wr g (sp1 S)))
  case atStart => exact ⟨0, rfl, by omega, H7⟩
  case round =>
    obtain ⟨i, rfl, hi, HO7⟩ := hrel
    cases gk with
    | zero =>
      have e1 : ((i : Int) < (q : Int)) = False := eq_false (by omega)
      clear hi
      obtain ⟨own2, hp1, hp2, hp3, hls⟩ := HO7.out.listR (by show S.ops ≤ 1000000; have := HBd.out; omega)
      rw [← HNS.out] at hls
      have HO2 := Aside0.mk (show ∀ k, own2 k → w.heap.size ≤ k from fun k hk => (hp1 k hk).elim (fun h => HO.out.1 k h) (fun h => Nat.le_trans HW7.out.size h))
      have HWR := Aside0.mk (turn_low HO7.out.turn HW7.out HO.out.1)
      have HSR := Aside0.mk (HL.out.1.turn HO7.out.turn HL.out.2)
      clear hp1 hp2 hp3
      go_upto_region 15 with (first
        | (go_at_call 20; refine hls.mono ?_; rintro e w8 ⟨LB, lc2, rfl, hn, hs, hA, hb, h⟩; have HB8 := Aside0.mk (show Below wr.heap.size wr w8 from hb); have H8 := Aside0.mk h; have hsm := same_calls (ns.map bOf) ns.length (by rw [List.length_map]) hn LB lc2 LA lc w8 hs (HSR.out.below hb); clear h hs hA hb hn hls)
        | (go_at_call 19; refine hsm.mono ?_; rintro e w9 ⟨rfl, hb⟩; have HB9 := Aside0.mk (show Below w8.heap.size w8 w9 from hb); have H9 := Aside0.mk (H8.out.below hb); clear hb hsm)
        | (go_at_call 28; refine (H9.out.usedC (by show S.ops * S.dat ≤ 1000000000000000; have := HBd.out; omega)).mono ?_; rintro e w10 ⟨rfl, hb, h⟩; rw [← HU.out]; have HB10 := Aside0.mk hb; have H10 := Aside0.mk h; clear h hb))
      have HW8 := Aside0.mk (show Below w.heap.size w w8 from below_step HWR.out HB8.out)
      go_upto_region 16 with (go_at_call 17; refine (H10.out.crash 1000 none 0 [] (fun i hi => absurd hi (Nat.not_lt_zero i)) (.inl rfl) (by show S.ops ≤ 90000; have := HBd.out; omega) (by show S.dat ≤ 1000000000; have := HBd.out; omega) (Nat.zero_le _)).mono ?_; rintro e w11 ⟨rfl, h⟩; have H11 := Aside0.mk h; clear h)
      have hcr := H11.out.create nX (by rw [(crash_bounds _ 1000 []).1]; show S.ops ≤ 90000; have := HBd.out; omega)
      rw [sp_create] at hcr
      go_wp2_with (first
        | (go_at_call 22; refine hcr.mono ?_; rintro e w12 ⟨rfl, h⟩; have H12 := Aside0.mk h; have hsn := h.syncNames; rw [sp_sync] at hsn; clear h hcr)
        | (go_at_call 23; refine hsn.mono ?_; rintro e w13 ⟨rfl, h⟩; have H13 := Aside0.mk h; clear h hsn))
      go_ret
      exact ⟨rfl, turn_low H13.out.turn HW8.out HO2.out⟩
    | succ d =>
      have e1 : ((i : Int) < (q : Int)) = True := eq_true (by omega)
      have e3 : (i < q) = True := eq_true (by omega)
      have hil : i < oue.length := by have := HQ.out; omega
      obtain ⟨ad, cs, rfl, hdc, hc⟩ := (HR.out.1.turn HO7.out.turn HR.out.2) i hil
      have hdo := HO7.out.deed HW7.out HO.out.1 oue[i] cs hdc (mem_at HE.out.2.2.1 i hil) (by show S.ops ≤ 240; exact HBd.out.2.1) (by show S.dat ≤ 12000; exact HBd.out.2.2.1) (by show S.ops * S.dat ≤ 2880000; exact HBd.out.2.2.2)
      have hst := stop_do (sp_stops S) oue[i]
      generalize oue[i] = dd at hdc hst hdo
      obtain ⟨Ad, dc, Ab, bc, hcs, _⟩ := hdc
      obtain ⟨x0, x1, x2, x3, x4, x5, x6⟩ := dd_cells (q := ad.add (i * 7)) hcs (fun j u hj => by rw [Go.Deep.add_add]; exact hc j u hj)
      subst hcs
      have HI := Aside0.mk hi
      clear hc hil hi
      by_cases h6 : dd.kind < 6
      case neg =>
        have e4 : (dd.kind < 6) = False := eq_false h6
        clear h6 hdo hst
        go_wp2
        go_roundg d
        case measure => have := HI.out; omega
        case rel => exact ⟨i + 1, by rw [wrap64_small (by omega) (by have := HI.out; have := HQ.out; have := HE.out.2.1; omega)]; rfl, by have := HI.out; omega, HO7⟩
      by_cases h0 : 0 ≤ dd.kind
      case neg =>
        have e4 : (dd.kind < 6) = True := eq_true h6
        have e5 : (0 ≤ dd.kind) = False := eq_false h0
        clear h6 h0 hdo hst
        go_wp2
        go_roundg d
        case measure => have := HI.out; omega
        case rel => exact ⟨i + 1, by rw [wrap64_small (by omega) (by have := HI.out; have := HQ.out; have := HE.out.2.1; omega)]; rfl, by have := HI.out; omega, HO7⟩
      rw [hst h0 h6] at hdo
      have e4 : (dd.kind < 6) = True := eq_true h6
      have e5 : (0 ≤ dd.kind) = True := eq_true h0
      clear h6 h0 hst
      go_wp2_with (go_at_call 33; refine hdo.mono ?_; rintro e w8 ⟨rfl, h⟩; have H8 := Aside0.mk h; clear h hdo x0 x1 x2 x3 x4 x5 x6)
      go_roundg d
      case measure => have := HI.out; omega
      case rel => exact ⟨i + 1, by rw [wrap64_small (by omega) (by have := HI.out; have := HQ.out; have := HE.out.2.1; omega)]; rfl, by have := HI.out; omega, H8⟩
end Go.Proofs.YtnnlmackofopeaaDoor.Fs
