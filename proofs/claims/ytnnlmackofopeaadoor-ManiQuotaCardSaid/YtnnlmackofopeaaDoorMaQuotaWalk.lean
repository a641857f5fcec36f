/- ManiQuota: the states, the walk. -/
import Derived.Test.YtnnlmackofopeaaDoorMaWholeWalk
import Derived.Test.YtnnlmackofopeaaDoorMaLoadB
namespace Go.Proofs.YtnnlmackofopeaaDoor.Fs
open Go.RowKit Go.Lib Go.Maps Go.Shelf Go.Sort Go.Proofs.YtnnlmackofopeaaDoorW.PrintWords Go.Proofs.YtnnlmackofopeaaDoorW.PrintLast Go.Proofs.YtnnlmackofopeaaDoorW.PrintMore
set_option linter.unusedVariables false
set_option linter.unusedSimpArgs false
theorem used_one {S : FsS} {i : Nat} {f : List Int × Nat} (hn : S.names = nmS (some i) none) (hf : S.files[i]? = some f) : S.used = f.1.length := by
  have h1 : has (nmS (some i) none) (kl na) = true := by kernel_rfl
  have e : entries (nmS (some i) none) = [(kl na, num i)] := rfl
  unfold FsS.used
  rw [hn, e]
  unfold sumL
  rw [List.filter_cons_of_pos (p := fun p : Lit × Names => has (nmS (some i) none) p.1) h1, List.filter_nil]
  show fileLen S.files (num i) + 0 = _
  show Option.getD ((S.files[((i : Int)).toNat]?).map (fun f => f.1.length)) 0 + 0 = _
  rw [Int.toNat_natCast, hf]
  rfl
theorem used_two {S : FsS} {i j : Nat} {f k : List Int × Nat} (hn : S.names = nmS (some i) (some j)) (hf : S.files[i]? = some f) (hk : S.files[j]? = some k) : S.used = f.1.length + k.1.length := by
  have h1 : has (nmS (some i) (some j)) (kl na) = true := by kernel_rfl
  have h2 : has (nmS (some i) (some j)) (kl nT) = true := by kernel_rfl
  have e : entries (nmS (some i) (some j)) = [(kl na, num i), (kl nT, num j)] := rfl
  unfold FsS.used
  rw [hn, e]
  unfold sumL
  rw [List.filter_cons_of_pos (p := fun p : Lit × Names => has (nmS (some i) (some j)) p.1) h1, List.filter_cons_of_pos (p := fun p : Lit × Names => has (nmS (some i) (some j)) p.1) h2, List.filter_nil]
  show Option.getD ((S.files[((i : Int)).toNat]?).map (fun f => f.1.length)) 0 + (Option.getD ((S.files[((j : Int)).toNat]?).map (fun f => f.1.length)) 0 + 0) = _
  rw [Int.toNat_natCast, Int.toNat_natCast, hf, hk]
  rfl
theorem wh_names (xs : List Int) : (wh xs).names = nmS (some 0) none := sv5_names (S := fs0 q20) (zs := FrameLib.recL xs) (p := none) (y := none) rfl 0
theorem wh_used (xs : List Int) : (wh xs).used = (FrameLib.recL xs).length := used_one (wh_names xs) (sv5_file (S := fs0 q20) (zs := FrameLib.recL xs) 0)
/-- With the quota q. -/
def qt (xs : List Int) (q : Int) : FsS := { wh xs with quota := q }
theorem qt1_names (xs ys : List Int) (q : Int) : (sv (qt xs q) (FrameLib.recL ys) 1 0).names = nmS (some 0) (some 1) := sv1_names (S := qt xs q) (zs := FrameLib.recL ys) (wh_names xs) 0
theorem qt1_used (xs ys : List Int) (q : Int) : (sv (qt xs q) (FrameLib.recL ys) 1 0).used = (FrameLib.recL xs).length := used_two (f := (FrameLib.recL xs, (FrameLib.recL xs).length)) (k := ([], 0)) (qt1_names xs ys q) rfl rfl
/-- No room: refused, when the bytes are to be laid. -/
theorem qt_turn (xs ys : List Int) (q : Int) (h : q < ((FrameLib.recL xs).length : Int) + ((FrameLib.recL ys).length : Int)) : turnS nT na (FrameLib.recL ys) 5 (qt xs q) = (10, sv (qt xs q) (FrameLib.recL ys) 1 0) := by
  have h0 := op0 (S := qt xs q) (zs := FrameLib.recL ys) (l := 0) rfl
  have h1 := op1_full (S := qt xs q) (zs := FrameLib.recL ys) (l := 0) rfl (x := some 0) (y := none) (wh_names xs) (by rw [qt1_used]; exact h)
  have e0 : sv (qt xs q) (FrameLib.recL ys) 0 0 = qt xs q := rfl
  have e1 : nextL (qt xs q) 0 = 0 := rfl
  rw [e0, e1] at h0
  rw [e1] at h1
  rw [turn_go (d := 4) (by rw [h0]), h0, turn_end (d := 3) (by rw [h1]; exact (show ¬ (10 : Int) = 0 by decide)), h1]
theorem qt1_read (xs ys : List Int) (q : Int) : (sv (qt xs q) (FrameLib.recL ys) 1 0).read na = (0, FrameLib.recL xs) := by
  unfold FsS.read
  rw [if_pos may_a, nm_atA (qt1_names xs ys q)]
  rfl
/-- With room again. -/
def qb (xs ys : List Int) (q : Int) : FsS := { sv (qt xs q) (FrameLib.recL ys) 1 0 with quota := q20 }
theorem qb_turn (xs ys : List Int) (q : Int) (hx : xs.length ≤ 1000) (hy : ys.length ≤ 1000) : turnS nT na (FrameLib.recL ys) 5 (qb xs ys q) = (0, sv (qb xs ys q) (FrameLib.recL ys) 5 0) :=
  save_free (S := qb xs ys q) (p := some 0) (y := some 1) rfl rfl (fun f hf => sv_small (S := qt xs q) (zs := FrameLib.recL ys) (wh_st xs hx).small (rec_small ys hy) 1 0 f hf) (rec_small ys hy) (qt1_names xs ys q)
theorem qb_read (xs ys : List Int) (q : Int) : (sv (qb xs ys q) (FrameLib.recL ys) 5 0).read na = (0, FrameLib.recL ys) := sv5_read (S := qb xs ys q) (p := some 0) (y := some 1) (qt1_names xs ys q) 0
theorem qb_names (xs ys : List Int) (q : Int) : (sv (qb xs ys q) (FrameLib.recL ys) 5 0).names = nmS (some 2) none := sv5_names (S := qb xs ys q) (p := some 0) (y := some 1) (qt1_names xs ys q) 0
theorem rec_more (ys : List Int) (h : ys.length ≤ 1000) : ys.length + 4 < (FrameLib.recL ys).length := by
  have h1 := FrameLib.rec_len ys
  have h2 := NumLib.putn_len (ys.length : Int) (by omega) (by omega)
  omega
set_option maxHeartbeats 8000000 in
set_option maxRecDepth 100000 in
theorem mquota_calls (A : Option Addr) (c : Nat) (xs : List Int) (D : Option Addr) (dc : Nat) (ys : List Int) (n8 : Int) (w : World) (hxr : BR w A xs) (hxc : xs.length ≤ c) (hxb : NumLib.Bytes xs) (hy : BR w D ys) (hcap : ys.length ≤ dc) (hby : NumLib.Bytes ys) (hn8 : 0 ≤ n8 ∧ n8 ≤ 255) :
    Calls Tryd.prog 10 #[.slice A xs.length c, .slice D ys.length dc, .int .u8 n8] w fun e w' => e = .returned (.bool true) ∧ Below w.heap.size w w' := by
  have HH := Aside0.mk (And.intro hy (And.intro hcap (And.intro hby hn8)))
  have HH2 := Aside0.mk (And.intro hxr (And.intro hxc hxb))
  have ew : wrap64 n8 = n8 := wrap64_small hn8.1 (by omega)
  obtain ⟨p, hp⟩ : ∃ p, p = ys.length := ⟨_, rfl⟩
  obtain ⟨m, hm⟩ : ∃ m, m = xs.length := ⟨_, rfl⟩
  have HM := Aside0.mk (And.intro hp hm)
  rw [← hp, ← hm]
  clear hy hp hcap hby hn8 hxr hxc hxb hm
  go_enter Tryd.func10, Tryd.ntmps10
  go_upto_region 2 with (go_at_call 13; refine (shownM_calls w).mono ?_; rintro e w1 ⟨rfl, hb⟩; have HB1 := Aside0.mk (show Below w.heap.size w w1 from hb); clear hb)
  by_cases hml : m ≤ 1000
  case neg =>
    have e1 : ((1000 : Int) < (m : Int)) = True := eq_true (by omega)
    clear hml
    go_wp2
    go_ret
    exact ⟨rfl, HB1.out⟩
  by_cases hpl : p ≤ 1000
  case neg =>
    have e1 : ((1000 : Int) < (m : Int)) = False := eq_false (by omega)
    have e2 : ((1000 : Int) < (p : Int)) = True := eq_true (by omega)
    clear hml hpl
    go_wp2
    go_ret
    exact ⟨rfl, HB1.out⟩
  have e1 : ((1000 : Int) < (m : Int)) = False := eq_false (by omega)
  have e2 : ((1000 : Int) < (p : Int)) = False := eq_false (by omega)
  have HL := Aside0.mk (show xs.length ≤ 1000 ∧ ys.length ≤ 1000 by have := HM.out; omega)
  clear hpl hml
  go_upto_region 5 with (go_at_call 14; refine (one_new q20 w1).mono ?_; rintro e w2 ⟨g, rfl, h⟩; have H0 := Aside0.mk h; clear h)
  have hsv := saveA_calls A m c xs HM.out.2 HH2.out.2.1 w2 H0.out ((HH2.out.1.below HB1.out).below H0.out.bel) HH2.out.2.2 HL.out.1 (show 0 ≤ 1000 by decide) (show 0 ≤ 100000 by decide)
  rw [wh_turn xs HL.out.1] at hsv
  go_upto_region 8 with (go_at_call 15; refine hsv.mono ?_; rintro e w3 ⟨rfl, h⟩; have H1 := Aside0.mk h; clear h H0 hsv)
  have hwl := wh_lim xs HL.out.1
  have hus := H1.out.usedC (mul_lim (by omega) (by omega))
  rw [wh_used] at hus
  have hrx := rec_small xs HL.out.1
  obtain ⟨u, hu⟩ : ∃ u, u = (FrameLib.recL xs).length := ⟨_, rfl⟩
  rw [← hu] at hus
  have e3 : IntKind.i64.wrap ((p : Int) + 4) = (p : Int) + 4 := IntWalk.i64_in _ (by have := HM.out; have := HL.out; omega)
  have e4 : IntKind.i64.wrap ((u : Int) + min n8 ((p : Int) + 4)) = (u : Int) + min n8 ((p : Int) + 4) := IntWalk.i64_in _ (by have := HM.out; have := HL.out; have := HH.out.2.2.2; omega)
  obtain ⟨q, hq⟩ : ∃ q, q = (u : Int) + min n8 ((p : Int) + 4) := ⟨_, rfl⟩
  have HU := Aside0.mk (And.intro hu hq)
  clear hu hq hrx hwl
  go_upto_region 9 with (first
    | (go_at_call 28; refine hus.mono ?_; rintro e w4 ⟨rfl, hb, h⟩; have H2 := Aside0.mk h; clear h hb hus)
    | (go_at_call 32; refine (H2.out.quota ((u : Int) + min n8 ((p : Int) + 4))).mono ?_; rintro e w5 ⟨rfl, h⟩; rw [← HU.out.2] at h; have H3 := Aside0.mk (show One w1 (fun _ => False) w5 g (qt xs q) from h); clear h))
  clear e3 e4 ew
  have hwl := wh_lim xs HL.out.1
  have hrs := rec_small ys HL.out.2
  have hno : q < ((FrameLib.recL xs).length : Int) + ((FrameLib.recL ys).length : Int) := by
    have h1 := rec_more ys HL.out.2
    have h2 := HU.out
    have h3 := HM.out.1
    omega
  have hsv := saveA_calls D p dc ys HM.out.1 HH.out.2.1 w5 H3.out ((HH.out.1.below HB1.out).below H3.out.bel) HH.out.2.2.1 HL.out.2 (show (wh xs).ops ≤ 1000 by omega) (show (wh xs).dat ≤ 100000 by omega)
  rw [qt_turn xs ys q hno] at hsv
  clear hwl hrs hno
  go_upto_region 10 with (go_at_call 15; refine hsv.mono ?_; rintro e w6 ⟨rfl, h⟩; have H4 := Aside0.mk h; clear h H3 hsv)
  obtain ⟨own, ho1, ho2, ho3, hpz⟩ := H4.out.pauseM
  have HO := Aside0.mk (And.intro (show ∀ k, own k → w.heap.size ≤ k from fun k hk => (ho1 k hk).elim (fun h => h.elim) (fun h => Nat.le_trans HB1.out.size h)) ho2)
  have HPZ := Aside0.mk hpz
  have HB6 := Aside0.mk (show Below w.heap.size w w6 from below_step HB1.out H4.out.bel)
  have hwl := wh_lim xs HL.out.1
  have hld := load_own H4.out na xs (qt1_read xs ys q) HH2.out.2.2 HL.out.1 (show (wh xs).dat ≤ 100000 by omega)
  rw [← HM.out.2] at hld
  clear hwl ho1 ho2 ho3 hpz
  go_upto_region 11 with (go_at_call 18; refine hld.mono ?_; rintro e w7 ⟨A2, c2, rfl, hbr, hbk, hb, h⟩; have HBR := Aside0.mk (show BR w7 A2 xs ∧ ∀ ad, A2 = some ad → ¬ own ad.block from ⟨hbr, fun ad e hk => by have := HO.out.2 _ hk; have := (hbk ad e).1; omega⟩); have HB7 := Aside0.mk (below_step HB6.out hb); have H5 := Aside0.mk (HPZ.out w7 hb); clear h hb hld hbr hbk H4)
  go_upto_region 12 with (go_at_call 32; refine (H5.out.quota q20).mono ?_; rintro e w8 ⟨rfl, h⟩; have H6 := Aside0.mk (show One w7 own w8 g (qb xs ys q) from h); clear h)
  have HB8 := Aside0.mk (H6.out.turn.low HB7.out HO.out.1)
  have hwl := wh_lim xs HL.out.1
  have hrs := rec_small ys HL.out.2
  have hsv := saveA_calls D p dc ys HM.out.1 HH.out.2.1 w8 H6.out (HH.out.1.below HB8.out) HH.out.2.2.1 HL.out.2 (show (wh xs).ops + 1 + 1 ≤ 1000 by omega) (show (wh xs).dat ≤ 100000 by omega)
  rw [qb_turn xs ys q HL.out.1 HL.out.2] at hsv
  clear hwl hrs
  go_upto_region 13 with (go_at_call 15; refine hsv.mono ?_; rintro e w9 ⟨rfl, h⟩; have H7 := Aside0.mk h; clear h H6 hsv)
  have HB9 := Aside0.mk (H7.out.turn.low HB7.out HO.out.1)
  have hwl := wh_lim xs HL.out.1
  have hrs := rec_small ys HL.out.2
  have hld := load_ok H7.out na ys (qb_read xs ys q) HH.out.2.2.1 HL.out.2 (show (wh xs).dat + (FrameLib.recL ys).length ≤ 100000 by omega)
  rw [← HM.out.1] at hld
  clear hwl hrs
  go_upto_region 14 with (go_at_call 18; refine hld.mono ?_; rintro e w10 ⟨A3, c3, rfl, hbr, hb, h⟩; have HBR3 := Aside0.mk hbr; have HB10 := Aside0.mk (below_step HB9.out hb); have H8 := Aside0.mk h; clear h hb hld hbr H7)
  have s1 := str_BR (HBR.out.1.turn H8.out.turn (.inr HBR.out.2)) c2
  have s2 := str_BR (HH2.out.1.below HB10.out) c
  have s3 := str_BR HBR3.out c3
  have s4 := str_BR (HH.out.1.below HB10.out) dc
  rw [← HM.out.2] at s1 s2
  rw [← HM.out.1] at s3 s4
  have hls := H8.out.listS (by have := wh_lim xs HL.out.1; show (wh xs).ops + 1 + 1 + 1 + 1 + 1 ≤ 1000000; omega)
  rw [qb_names, nm_list] at hls
  go_wp2_with (first
    | (go_at_call 20; refine hls.mono ?_; rintro e w11 ⟨LA, lc, rfl, hn, hs, hA, hb, h⟩; have HB11 := Aside0.mk (show Below w10.heap.size w10 w11 from hb); have hsm := same_calls [na] 1 rfl (show 1 ≤ maxLen by decide) LA lc (some ⟨w11.heap.size, 0, none⟩) 1 (w11.alloc (.cells #[.string na] 9)) (hs.below (below_alloc (Below.refl _ _) (.cells #[.string na] 9))) (SR.one w11 na); clear h hs hA hb hn hls)
    | (go_at_call 19; refine hsm.mono ?_; rintro e w12 ⟨rfl, hb⟩; have HB12 := Aside0.mk (show Below w11.heap.size w11 w12 from below_step (below_alloc (Below.refl _ _) (.cells #[.string na] 9)) hb); clear hb hsm))
  go_ret
  exact ⟨rfl, below_step HB10.out (below_step HB11.out HB12.out)⟩
end Go.Proofs.YtnnlmackofopeaaDoor.Fs
