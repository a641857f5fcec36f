/- FsQuota: the walk. -/
import Derived.Test.YtnnlmackofopeaaDoorFsQuotaLaw
namespace Go.Proofs.YtnnlmackofopeaaDoor.Fs
open Go.RowKit Go.Lib Go.Maps Go.Shelf Go.Sort Go.Proofs.YtnnlmackofopeaaDoorW.PrintWords Go.Proofs.YtnnlmackofopeaaDoorW.PrintLast Go.Proofs.YtnnlmackofopeaaDoorW.PrintMore
set_option linter.unusedVariables false
set_option linter.unusedSimpArgs false
/-- A chain that is left for a while: what is the file system's, and the chain anew behind whatever only makes. -/
theorem turn_lowQ {own : Nat → Prop} {w0 w w' : World} (h : Turn own w w') (hb : Below w0.heap.size w0 w) (ho : ∀ k, own k → w0.heap.size ≤ k) : Below w0.heap.size w0 w' := h.low hb ho
theorem One.pauseQ {wB w : World} {B : Nat → Prop} {g : Nat} {S : FsS} (h : One wB B w g S) : ∃ own : Nat → Prop, (∀ k, own k → B k ∨ wB.heap.size ≤ k) ∧ Under own w ∧ ∀ w', Below w.heap.size w w' → One w' own w' g S := by
  obtain ⟨own, h1, h2, h3, h4⟩ := h
  exact ⟨own, h1, h2, fun w' hb => ⟨own, fun k hk => .inl hk, fun k hk => Nat.lt_of_lt_of_le (h2 k hk) hb.size, h3.below hb, Turn.refl _ _⟩⟩
theorem Bd.small2Q {x y : Nat} {S : FsS} (h : Bd x (100 * y) S) (hxy : x + y ≤ 124) : S.ops * S.dat ≤ 3075200 := by
  have h2 := h.ops
  have h3 := h.dat
  exact Nat.le_trans (Nat.mul_le_mul (show S.ops ≤ 248 by omega) (show S.dat ≤ 12400 by omega)) (by decide)
set_option maxHeartbeats 8000000 in
set_option maxRecDepth 100000 in
theorem quotaLaw_calls (qt : Int) (D : Option Addr) (dc : Nat) (es : List Dd) (w : World) (hq : 0 ≤ qt ∧ qt ≤ 255) (hr2 : DeedsR w w D es) (hel : es.length ≤ maxLen) :
    Calls Tryd.prog 9 #[.int .u8 qt, .slice D es.length dc] w fun e w' => e = .returned (.bool true) ∧ Below w.heap.size w w' := by
  have HD := Aside0.mk (And.intro hr2 hel)
  have HQT := Aside0.mk hq
  obtain ⟨p, hp⟩ : ∃ p, p = es.length := ⟨_, rfl⟩
  have HM := Aside0.mk hp
  rw [← hp]
  have ew : wrap64 qt = qt := wrap64_small hq.1 (by omega)
  clear hp hr2 hel hq
  go_enter Tryd.func9, Tryd.ntmps9
  go_upto_region 2 with (go_at_call 21; refine (shown_calls w).mono ?_; rintro e w1 ⟨rfl, hb⟩; have HB1 := Aside0.mk (show Below w.heap.size w w1 from hb); clear hb)
  go_upto_region 3 with (go_at_call 14; refine (one_new qt w1).mono ?_; rintro e w2 ⟨g, rfl, h⟩; have H0 := Aside0.mk h; clear h)
  have HB2 := Aside0.mk (show Below w.heap.size w w2 from below_step HB1.out H0.out.bel)
  obtain ⟨own, ho1, ho2, hpz⟩ := H0.out.pauseQ
  have HO := Aside0.mk (And.intro (show ∀ k, own k → w.heap.size ≤ k from fun k hk => (ho1 k hk).elim (fun h => h.elim) (fun h => Nat.le_trans HB1.out.size h)) ho2)
  have HPZ := Aside0.mk hpz
  clear ho1 ho2 hpz H0
  have hfew := few_calls D dc es w2 w (HD.out.1.below HB2.out) HD.out.2
  rw [← HM.out] at hfew
  go_upto_region 6 with (go_at_call 31; refine hfew.mono ?_; rintro e w5 ⟨oue, A3, c3, rfl, hr3, hl3, hd3, hA3, hb3⟩; have HE := Aside0.mk (And.intro hr3 (And.intro hl3 (And.intro hd3 hA3))); have HB5 := Aside0.mk (show Below w2.heap.size w2 w5 from hb3); clear hb3 hr3 hl3 hd3 hA3 hfew)
  have H5 := Aside0.mk (HPZ.out w5 HB5.out)
  have HR := Aside0.mk (show ∀ ad, A3 = some ad → ¬ own ad.block from fun ad e hk => by have := HO.out.2 _ hk; have := (HE.out.2.2.2 ad e).1; omega)
  have HW5 := Aside0.mk (show Below w.heap.size w w5 from below_step HB2.out HB5.out)
  obtain ⟨q, hq⟩ : ∃ q, q = oue.length := ⟨_, rfl⟩
  have HQ := Aside0.mk hq
  rw [← hq]
  clear hq
  go_wp2
  go_loopg [8] q (fun kq v8 wr => ∃ (i x y : Nat) (S : FsS), v8 = .int .i64 (i : Int) ∧ i + kq = q ∧ Aside0 (x + y ≤ i ∧ Bd x (100 * y) S ∧ S.quota = qt) ∧ Aside0 (One w5 own wr g S))
  case atStart => exact ⟨0, 0, 0, fs0 qt, rfl, by omega, ⟨by omega, fs0_Bd qt, rfl⟩, H5⟩
  case round =>
    obtain ⟨i, x, y, S, rfl, hi, HS, HOW⟩ := hrel
    cases gk with
    | zero =>
      have e1 : ((i : Int) < (q : Int)) = False := eq_false (by omega)
      clear hi
      have HWR := Aside0.mk (turn_lowQ HOW.out.turn HW5.out HO.out.1)
      go_upto_region 16 with (go_at_call 16; refine (limit_nil 1 _).mono ?_; rintro e wa ⟨rfl, rfl⟩)
      go_upto_region 17 with (go_at_call 32; refine (quota_nil 1 _).mono ?_; rintro e wa ⟨rfl, rfl⟩)
      go_upto_region 18 with (go_at_call 17; refine (crash_nil 0 none 0 0 _).mono ?_; rintro e wb ⟨rfl, hb⟩; have HBB := Aside0.mk hb; clear hb)
      go_upto_region 19 with (go_at_call 26; refine (read_nil _ _).mono ?_; rintro e wc ⟨rfl, rfl⟩)
      go_wp2_with (first
        | (go_at_call 22; refine (create_nil _ _).mono ?_; rintro e wd ⟨rfl, hb⟩; have HBD := Aside0.mk hb; clear hb)
        | (go_at_call 28; refine (used_nil _).mono ?_; rintro e wa ⟨rfl, rfl⟩)
        | (go_at_call 20; refine (list_nil _).mono ?_; rintro e wa ⟨rfl, rfl⟩))
      go_ret
      exact ⟨rfl, below_step HWR.out (below_step HBB.out HBD.out)⟩
    | succ d =>
      have e1 : ((i : Int) < (q : Int)) = True := eq_true (by omega)
      have e3 : (i < q) = True := eq_true (by omega)
      have hil : i < oue.length := by have := HQ.out; omega
      obtain ⟨ad, cs, rfl, hdc, hc5⟩ := HE.out.1 i hil
      have HKEEP := Aside0.mk (show ∀ w', Turn own w5 w' → ∀ j u, cs[j]? = some u → w'.cell? ((ad.add (i * 7)).add j) = some u from fun w' ht j u hj => by
        have h1 := hc5 j u hj
        have h2 : ¬ own (ad.add (i * 7 + j)).block := by rw [add_block]; exact HR.out ad rfl
        rw [Go.Deep.add_add]
        exact World.cell?_of_block (ht.block _ (World.block_lt_of_cell? w5 _ h1) h2) ▸ h1)
      have hlen := mem_at HE.out.2.2.1 i hil
      have HI := Aside0.mk hi
      have hsm := HS.out.2.1.small (by have := HS.out.1; have := HQ.out; have := HE.out.2.1; omega)
      generalize oue[i] = dd at hdc hlen
      have hdo : ∀ wx, One w5 own wx g S → Calls Tryd.prog 33 #[.pointer (some ⟨g, 0, none⟩), .agg cs.toArray] wx fun e w' => e = .returned (.int .i64 (S.doS dd).1) ∧ One w5 own w' g (S.doS dd).2 := fun wx h => h.deed HW5.out HO.out.1 dd cs hdc hlen hsm.2.1 hsm.2.2.1 hsm.2.2.2
      have hlaw := deed_law S dd
      have hbd := doS_Bd HS.out.2.1 dd hlen
      have hqt := doS_quota S dd
      obtain ⟨ec, hec⟩ : ∃ ec, ec = (S.doS dd).1 := ⟨_, rfl⟩
      obtain ⟨S', hS'⟩ : ∃ S', S' = (S.doS dd).2 := ⟨_, rfl⟩
      rw [← hec, ← hS'] at hdo hlaw
      rw [← hS'] at hbd hqt
      obtain ⟨Ad, dc, Ab, bc, hcs, _⟩ := hdc
      obtain ⟨kd, na, nb, data, dn, nm, bs⟩ := dd
      simp only at hcs hlaw hqt hlen
      subst hcs
      obtain ⟨z, hz⟩ : ∃ z, z = data.length := ⟨_, rfl⟩
      rw [← hz] at hlaw hlen hdo HKEEP
      have HDO := Aside0.mk hdo
      obtain ⟨u, hu⟩ : ∃ u, u = S.used := ⟨_, rfl⟩
      obtain ⟨u', hu'⟩ : ∃ u', u' = S'.used := ⟨_, rfl⟩
      rw [← hu, ← hu', HS.out.2.2] at hlaw
      have hus := HOW.out.usedC (by omega)
      rw [← hu] at hus
      obtain ⟨x0, x1, x2, x3, x4, x5, x6⟩ := dd_cells (q := ad.add (i * 7)) rfl (HKEEP.out wr HOW.out.turn)
      have HUU := Aside0.mk (And.intro hu' hlen)
      have hu1 : u ≤ 360000 := by rw [hu]; exact hsm.1
      have hnext : ∃ x' y', x' + y' ≤ i + 1 ∧ Bd x' (100 * y') S' := by
        rcases hbd with h | h
        · exact ⟨x + 1, y, by have := HS.out.1; omega, h⟩
        · exact ⟨x, y + 1, by have := HS.out.1; omega, h⟩
      clear hsm hc5 hil hi hdo hec hS' hu hu' hz hbd
      by_cases k7 : kd = 7
      case pos =>
        have k7' := k7
        clear hlaw hus hqt hu1 hnext hlen k7
        subst k7'
        go_wp2
        go_roundg d
        case measure => have := HI.out; omega
        case rel => exact ⟨i + 1, x, y, S, by rw [wrap64_small (by omega) (by have := HI.out; have := HQ.out; have := HE.out.2.1; omega)]; rfl, by have := HI.out; omega, ⟨by have := HS.out.1; omega, HS.out.2⟩, HOW⟩
      have e4 : (kd = 7) = False := eq_false k7
      have e4b : (kd == 7) = false := by simpa using k7
      have HQS := Aside0.mk (hqt k7)
      have HU1 := Aside0.mk hu1
      have HLAW := Aside0.mk hlaw
      obtain ⟨x', y', hx', hBd'⟩ := hnext
      have HBD := Aside0.mk (And.intro hx' hBd')
      clear k7 hqt hu1 hlaw hx' hBd' hlen
      go_upto_region 11 with (go_at_call 28; refine hus.mono ?_; rintro e w6 ⟨rfl, hb, h⟩; have H6 := Aside0.mk h; clear h hb hus x0 x1 x2 x3 x4 x5 x6)
      obtain ⟨x0, x1, x2, x3, x4, x5, x6⟩ := dd_cells (q := ad.add (i * 7)) rfl (HKEEP.out w6 H6.out.turn)
      have hdo := HDO.out w6 H6.out
      go_upto_region 12 with (go_at_call 33; refine hdo.mono ?_; rintro e w7 ⟨rfl, h⟩; have H7 := Aside0.mk h; clear h hdo x0 x1 x2 x3 x4 x5 x6)
      obtain ⟨x0, x1, x2, x3, x4, x5, x6⟩ := dd_cells (q := ad.add (i * 7)) rfl (HKEEP.out w7 H7.out.turn)
      have hus := H7.out.usedC (by have := (HBD.out.2.small2Q (by have := HBD.out.1; have := HI.out; have := HQ.out; have := HE.out.2.1; omega)); omega)
      rw [← HUU.out.1] at hus
      have hnx : ∀ wz, One w5 own wz g S' → ∃ (j x y : Nat) (S : FsS), Value.int .i64 (wrap64 ((i : Int) + 1)) = .int .i64 (j : Int) ∧ j + d = q ∧ Aside0 (x + y ≤ j ∧ Bd x (100 * y) S ∧ S.quota = qt) ∧ Aside0 (One w5 own wz g S) := fun wz h =>
        ⟨i + 1, x', y', S', by rw [wrap64_small (by omega) (by have := HI.out; have := HQ.out; have := HE.out.2.1; omega)]; rfl, by have := HI.out; omega, ⟨HBD.out.1, HBD.out.2, by rw [HQS.out]; exact HS.out.2.2⟩, ⟨h⟩⟩
      have HNX := Aside0.mk hnx
      clear hnx
      by_cases k1 : kd = 1
      case neg =>
        have e5 : (kd = 1) = False := eq_false k1
        have hne : ec ≠ 10 := fun h => k1 (HLAW.out.2 h).1
        have e6 : (ec = 10) = False := eq_false hne
        have e7 : (kd == 1) = false := by simpa using k1
        have e8 : (ec == 10) = false := by simpa using hne
        clear k1 hne hus
        go_wp2
        go_roundg d
        case measure => have := HI.out; omega
        case rel => exact HNX.out w7 H7.out
      obtain rfl := k1
      by_cases c0 : ec = 0
      case pos =>
        have e5 : ((u' : Int) < (u : Int)) = False := eq_false (by have := HLAW.out.1 rfl c0; omega)
        obtain rfl := c0
        go_wp2_with (go_at_call 28; refine hus.mono ?_; rintro e w8 ⟨rfl, hb, h⟩; have H8 := Aside0.mk h; clear h hb hus)
        go_roundg d
        case measure => have := HI.out; omega
        case rel => exact HNX.out w8 H8.out
      by_cases c1 : ec = 10
      case pos =>
        obtain ⟨_, huu, hgt⟩ := HLAW.out.2 c1
        subst huu
        obtain rfl := c1
        have e5 : IntKind.i64.wrap ((u' : Int) + (z : Int)) = (u' : Int) + (z : Int) := IntWalk.i64_in _ (by have := HUU.out.2; have := HU1.out; omega)
        have e6 : ((u' : Int) + (z : Int) ≤ qt) = False := eq_false (by omega)
        clear hgt c0
        go_wp2_with (go_at_call 28; refine hus.mono ?_; rintro e w8 ⟨rfl, hb, h⟩; have H8 := Aside0.mk h; have x3b := (dd_cells (q := ad.add (i * 7)) rfl (HKEEP.out w8 h.turn)).2.2.2.1; clear h hb hus)
        go_roundg d
        case measure => have := HI.out; omega
        case rel => exact HNX.out w8 H8.out
      have e5 : (ec = 0) = False := eq_false c0
      have e6 : (ec = 10) = False := eq_false c1
      have e7 : (ec == 0) = false := by simpa using c0
      have e8 : (ec == 10) = false := by simpa using c1
      clear c0 c1 hus
      go_wp2
      go_roundg d
      case measure => have := HI.out; omega
      case rel => exact HNX.out w7 H7.out
end Go.Proofs.YtnnlmackofopeaaDoor.Fs
