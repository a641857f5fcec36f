/- Parts of the proof, merged by a program of this session. -/
import Derived.Test.YtiohnpphhepdfaaPkPassesMergesa
section
namespace Go.Proofs.Ytiohnpphhepdfaa.PPa
open Go.RowKit Go.Proofs.YtiohnpphhepdfaaW.PrintWords Go.Proofs.YtiohnpphhepdfaaW.PrintLast Go.Proofs.YtiohnpphhepdfaaW.PrintMore
attribute [local go_sem] max2_int min2_int max_two min_two max_three min_three max_four min_four
attribute [local go_sem] Go.Proofs.Ytiohnpphhepdfaa.MoreWords.str_leq Go.Proofs.Ytiohnpphhepdfaa.MoreWords.str_gtr Go.Proofs.Ytiohnpphhepdfaa.MoreWords.str_geq
set_option maxHeartbeats 8000000
set_option maxRecDepth 100000
set_option linter.unusedVariables false
set_option linter.unusedSimpArgs false
theorem loser_tree_play.calls (w0 w : World) (g go gl : Nat) (ls : List (List S41)) (lost : List Nat) (i : Nat) (hT : TreeIs w0 w g go gl ls lost) (hi : i < ls.length) (hll : lost.length = ls.length) (hlo : ∀ x ∈ lost, x < ls.length) (hn : ls.length ≤ 1000) :
  Calls Try.prog 46 #[.pointer (some ⟨g, 0, none⟩), .int .i64 i] w fun e w' => e = .returned (.tuple #[]) ∧ TreeIs w0 w' g go gl ls (playG ls ((i + ls.length) / 2) ((i + ls.length) / 2) i lost) ∧ ButPair w w' go gl := by
 have hc0 : w.cell? ⟨g, 0, none⟩ = some (.slice (some ⟨go, 0, none⟩) ls.length ls.length) := blk_cell hT.tree 0
 have hs1 : wrap64 ((i : Int) + (ls.length : Int)) = ((i + ls.length : Nat) : Int) := by unfold wrap64; omega
 have hs2 := half (i + ls.length) (by omega)
 have HT := Az.mk hT
 have HS1 := Az.mk hs1
 have HS2 := Az.mk hs2
 have HI := Az.mk hi
 have HN := Az.mk hn
 have HLL := Az.mk hll
 have HLO := Az.mk hlo
 clear hT hi hn hll hlo hs1 hs2
 go_enter Try.func46, Try.ntmps46
 go_wp2
 go_loopg [1, 5] ((i + ls.length) / 2) (fun kq v1 v5 w' => ∃ (j k : Nat) (lo : List Nat), v1 = .int .i64 j ∧ v5 = .int .i64 k ∧ Az (k ≤ kq ∧ k < ls.length ∧ j < ls.length ∧ lo.length = ls.length ∧ ∀ x ∈ lo, x < ls.length) ∧ Az (playG ls kq k j lo = playG ls ((i + ls.length) / 2) ((i + ls.length) / 2) i lost) ∧ Az (TreeIs w0 w' g go gl ls lo) ∧ Az (ButPair w w' go gl))
 case atStart => exact ⟨i, (i + ls.length) / 2, lost, rfl, by rw [HS1.out, HS2.out], ⟨Nat.le_refl _, by have := HI.out; omega, HI.out, HLL.out, HLO.out⟩, ⟨rfl⟩, HT, ⟨ButPair.refl _ _ _⟩⟩
 case round =>
  obtain ⟨j, k, lo, rfl, rfl, HA, HP, HTR, HB⟩ := hrel
  clear HT
  have hq0 : wr.cell? ⟨g, 1, none⟩ = some (.slice (some ⟨gl, 0, none⟩) lo.length lo.length) := blk_cell HTR.out.tree 1
  by_cases c1 : k = 0
  ·subst c1
   have i1 : ((0 : Int) < (lo.length : Int)) = True := eq_true (by have := HA.out; omega)
   have i2 : (0 < lo.length) = True := eq_true (by have := HA.out; omega)
   have hf : wr.frozen? ⟨gl, 0, none⟩ = false := blk_frozen HTR.out.lost 0
   have hv : wr.cell? ⟨gl, 0, none⟩ = some (.int .i64 (lst lo 0 : Nat)) := HTR.out.lose 0 (by have := HA.out; omega)
   go_wp2
   go_end0
   refine ⟨rfl, ?_, HB.out.set (.inr rfl) 0 _⟩
   rw [← HP.out]
   have e : playG ls gk 0 j lo = lo.set 0 j := by cases gk <;> rfl
   rw [e]
   exact HTR.out.setLost 0 j
  ·have i1 : (0 < k) = True := eq_true (by omega)
   have i2 : (k < lo.length) = True := eq_true (by have := HA.out; omega)
   have hf : wr.frozen? ⟨gl, k, none⟩ = false := blk_frozen HTR.out.lost k
   have hv : wr.cell? ⟨gl, k, none⟩ = some (.int .i64 (lst lo k : Nat)) := HTR.out.lose k (by have := HA.out; omega)
   cases gk with
   | zero => exact absurd HA.out.1 (by omega)
   | succ k1 =>
    have hlt : lst lo k < ls.length := by
     have := HA.out
     unfold lst
     rw [List.getD_eq_getElem?_getD, List.getElem?_eq_getElem (by omega)]
     exact this.2.2.2.2 _ (List.getElem_mem (by omega))
    have HLT := Az.mk hlt
    have hkk : k ≤ 100000 := by have := HA.out; have := HN.out; omega
    have HH := Az.mk (half2 k hkk)
    have hk0 : k ≠ 0 := c1
    have HK0 := Az.mk hk0
    clear hlt c1 hkk hk0
    by_cases c2 : aheadB ls (lst lo k) j = true
    ·go_wp2_with (go_at_call 45; refine (loser_tree_ahead.calls w0 wr g go gl ls lo (lst lo k) j HTR.out HLT.out HA.out.2.2.1).mono ?_; rintro e w' ⟨rfl, ⟨nd, rfl⟩⟩)
     go_region
     go_wp2
     go_roundg k1
     case measure => omega
     case rel =>
      have hA := HA.out
      refine ⟨lst lo k, k / 2, lo.set k j, rfl, by rw [HH.out], ⟨by omega, by omega, HLT.out, by rw [List.length_set]; exact hA.2.2.2.1, fun x hx => ?_⟩, ⟨?_⟩, ⟨(HTR.out.drewN _).setLost k j⟩, ⟨(HB.out.drewN _).set (.inr rfl) k _⟩⟩
      ·rcases List.mem_or_eq_of_mem_set hx with h | h
       ·exact hA.2.2.2.2 x h
       ·rw [h]; exact hA.2.2.1
      ·rw [← HP.out, playG, if_neg HK0.out, if_pos c2]
    ·have c2 : aheadB ls (lst lo k) j = false := by simpa using c2
     go_wp2_with (go_at_call 45; refine (loser_tree_ahead.calls w0 wr g go gl ls lo (lst lo k) j HTR.out HLT.out HA.out.2.2.1).mono ?_; rintro e w' ⟨rfl, ⟨nd, rfl⟩⟩)
     go_roundg k1
     case measure => omega
     case rel =>
      have hA := HA.out
      refine ⟨j, k / 2, lo, rfl, by rw [HH.out], ⟨by omega, by omega, hA.2.2.1, hA.2.2.2.1, hA.2.2.2.2⟩, ⟨?_⟩, ⟨HTR.out.drewN _⟩, ⟨HB.out.drewN _⟩⟩
      rw [← HP.out, playG, if_neg HK0.out, if_neg (by rw [c2]; simp)]
theorem loser_tree_next.end (w0 w : World) (g go gl : Nat) (ls : List (List S41)) (lost : List Nat) (hT : TreeIs w0 w g go gl ls lost) (hl0 : 0 < lost.length) (hlt : lst lost 0 < ls.length) (he : (at2 ls (lst lost 0)).length = 0) :
  Calls Try.prog 26 #[.pointer (some ⟨g, 0, none⟩)] w fun e w' => e = .returned (.tuple #[.agg #[.string ⟨#[]⟩, .int .u64 0], .bool false]) ∧ TreeIs w0 w' g go gl ls lost ∧ ButPair w w' go gl := by
 have HT := Az.mk hT
 clear hT
 have HL0 := Az.mk hl0
 have HLT := Az.mk hlt
 clear hl0 hlt
 go_enter Try.func26, Try.ntmps26
 go_upto_region 1 with (fail)
 have HT1 := Az.mk (HT.out.alloc (.cells #[.string ⟨#[]⟩, .int .u64 0] 41 (0, 0)))
 have hbk : (w.alloc (.cells #[.string ⟨#[]⟩, .int .u64 0] 41 (0, 0))).heap[w.heap.size]? = some (.cells #[.string ⟨#[]⟩, .int .u64 0] 41 (0, 0)) := blk_new _ _
 have HB1 := Az.mk ((ButPair.refl w go gl).alloc (.cells #[.string ⟨#[]⟩, .int .u64 0] 41 (0, 0)))
 obtain ⟨W1, hW1⟩ : ∃ W1, W1 = w.alloc (.cells #[.string ⟨#[]⟩, .int .u64 0] 41 (0, 0)) := ⟨_, rfl⟩
 rw [← hW1] at HT1 hbk HB1 ⊢
 have hlt := HT.out.lt
 obtain ⟨b, hb⟩ : ∃ b, b = w.heap.size := ⟨_, rfl⟩
 rw [← hb] at hbk hlt ⊢
 have BK := Az.mk hbk
 have HBG := Az.mk hlt.2.2.2
 have HBW := Az.mk (Nat.le_of_eq hb.symm)
 clear hW1 hbk hb hlt
 obtain ⟨A, c, h1, h2, _, _⟩ := HT1.out.list (lst lost 0) HLT.out
 have hc0 : W1.cell? ⟨g, 0, none⟩ = some (.slice (some ⟨go, 0, none⟩) ls.length ls.length) := blk_cell HT1.out.tree 0
 have hc1 : W1.cell? ⟨g, 1, none⟩ = some (.slice (some ⟨gl, 0, none⟩) lost.length lost.length) := blk_cell HT1.out.tree 1
 have hv : W1.cell? ⟨gl, 0, none⟩ = some (.int .i64 (lst lost 0 : Nat)) := HT1.out.lose 0 HL0.out
 have i1 : (0 < lost.length) = True := eq_true HL0.out
 have i2 : (lst lost 0 < ls.length) = True := eq_true HLT.out
 have hf0 := blk_frozen BK.out 0
 have hb0 : W1.cell? ⟨b, 0, none⟩ = some (.string ⟨#[]⟩) := blk_cell BK.out 0
 have hb1 : W1.cell? ⟨b, 1, none⟩ = some (.int .u64 0) := blk_cell BK.out 1
 have hf1 := blk_frozen BK.out 1
 have e1 : (((at2 ls (lst lost 0)).length : Int) == 0) = true := beq_iff_eq.mpr (by omega)
 clear h2 he
 go_wp2
 refine bodyPost_ret (results_ct rfl _ _ b 41 #[.string (⟨#[]⟩ : ByteArray), .int .u64 0] (0, 0) _ rfl (by (with_reducible repeat (first | refine blk_drewN ?_ _ | refine blk_drew ?_ | refine blk_alloc ?_ _)); refine blk_put (cs := #[.string (⟨#[]⟩ : ByteArray), .int .u64 0]) ?_ 1 _ rfl; (with_reducible repeat (first | refine blk_drewN ?_ _ | refine blk_drew ?_ | refine blk_alloc ?_ _)); refine blk_put (cs := #[.string (⟨#[]⟩ : ByteArray), .int .u64 0]) ?_ 0 _ rfl; exact BK.out) Try.underlying41 rfl (by kernel_rfl)) rfl ?_
 exact ⟨rfl, (HT1.out.far HBG.out 0 _).far HBG.out 1 _, (HB1.out.setNew HBW.out 0 _).setNew HBW.out 1 _⟩
theorem loser_tree_next.more (w0 w : World) (g go gl : Nat) (ls : List (List S41)) (lost : List Nat) (hT : TreeIs w0 w g go gl ls lost) (hl0 : 0 < lost.length) (hlt : lst lost 0 < ls.length) (he : (at2 ls (lst lost 0)).length ≠ 0) (hll : lost.length = ls.length) (hlo : ∀ x ∈ lost, x < ls.length) (hn : ls.length ≤ 1000) :
  Calls Try.prog 26 #[.pointer (some ⟨g, 0, none⟩)] w fun e w' => e = .returned (.tuple #[.agg #[.string (hdE (at2 ls (lst lost 0))).f0, .int .u64 (hdE (at2 ls (lst lost 0))).f1], .bool true]) ∧ TreeIs w0 w' g go gl (ls.set (lst lost 0) ((at2 ls (lst lost 0)).drop 1)) (playG (ls.set (lst lost 0) ((at2 ls (lst lost 0)).drop 1)) ((lst lost 0 + ls.length) / 2) ((lst lost 0 + ls.length) / 2) (lst lost 0) lost) ∧ ButPair w w' go gl := by
 have HT := Az.mk hT
 clear hT
 have HLL := Az.mk hll
 have HLO := Az.mk hlo
 have HN := Az.mk hn
 clear hll hlo hn
 have HL0 := Az.mk hl0
 have HLT := Az.mk hlt
 clear hl0 hlt
 go_enter Try.func26, Try.ntmps26
 go_upto_region 1 with (fail)
 have HT1 := Az.mk (HT.out.alloc (.cells #[.string ⟨#[]⟩, .int .u64 0] 41 (0, 0)))
 have hbk : (w.alloc (.cells #[.string ⟨#[]⟩, .int .u64 0] 41 (0, 0))).heap[w.heap.size]? = some (.cells #[.string ⟨#[]⟩, .int .u64 0] 41 (0, 0)) := blk_new _ _
 have HB1 := Az.mk ((ButPair.refl w go gl).alloc (.cells #[.string ⟨#[]⟩, .int .u64 0] 41 (0, 0)))
 obtain ⟨W1, hW1⟩ : ∃ W1, W1 = w.alloc (.cells #[.string ⟨#[]⟩, .int .u64 0] 41 (0, 0)) := ⟨_, rfl⟩
 rw [← hW1] at HT1 hbk HB1 ⊢
 have hlt := HT.out.lt
 obtain ⟨b, hb⟩ : ∃ b, b = w.heap.size := ⟨_, rfl⟩
 rw [← hb] at hbk hlt ⊢
 have BK := Az.mk hbk
 have HBG := Az.mk hlt.2.2.2
 have HBW := Az.mk (Nat.le_of_eq hb.symm)
 clear hW1 hbk hb hlt
 obtain ⟨ad, c, h1, h2, h3, h4⟩ := HT1.out.head (lst lost 0) HLT.out he
 obtain ⟨A', c', h1', h2', _, hC0⟩ := HT1.out.list (lst lost 0) HLT.out
 have hA : A' = some ad ∧ c' = c := by
  rw [h1] at h1'
  injection h1' with h1'
  injection h1' with a b c
  exact ⟨a.symm, c.symm⟩
 obtain ⟨rfl, rfl⟩ := hA
 have hc0 : W1.cell? ⟨g, 0, none⟩ = some (.slice (some ⟨go, 0, none⟩) ls.length ls.length) := blk_cell HT1.out.tree 0
 have hc1 : W1.cell? ⟨g, 1, none⟩ = some (.slice (some ⟨gl, 0, none⟩) lost.length lost.length) := blk_cell HT1.out.tree 1
 have hv : W1.cell? ⟨gl, 0, none⟩ = some (.int .i64 (lst lost 0 : Nat)) := HT1.out.lose 0 HL0.out
 have i1 : (0 < lost.length) = True := eq_true HL0.out
 have i2 : (lst lost 0 < ls.length) = True := eq_true HLT.out
 have i3 : (0 < (at2 ls (lst lost 0)).length) = True := eq_true (by omega)
 have e1 : (((at2 ls (lst lost 0)).length : Int) == 0) = false := beq_eq_false_iff_ne.mpr (by omega)
 have HE := Az.mk he
 have HC := Az.mk hC0
 have H2 := Az.mk h2
 clear h2 he hC0 h1' h2'
 go_upto_region 5 with (fail)
 have HT2 := Az.mk (HT1.out.alloc (.cells #[.string (hdE (at2 ls (lst lost 0))).f0, .int .u64 (hdE (at2 ls (lst lost 0))).f1] 41))
 have hbk2 : (W1.alloc (.cells #[.string (hdE (at2 ls (lst lost 0))).f0, .int .u64 (hdE (at2 ls (lst lost 0))).f1] 41)).heap[W1.heap.size]? = some (.cells #[.string (hdE (at2 ls (lst lost 0))).f0, .int .u64 (hdE (at2 ls (lst lost 0))).f1] 41 (0, 0)) := blk_new _ _
 have hbk1 := blk_alloc BK.out (.cells #[.string (hdE (at2 ls (lst lost 0))).f0, .int .u64 (hdE (at2 ls (lst lost 0))).f1] 41)
 have HB2 := Az.mk (HB1.out.alloc (.cells #[.string (hdE (at2 ls (lst lost 0))).f0, .int .u64 (hdE (at2 ls (lst lost 0))).f1] 41))
 obtain ⟨W2, hW2⟩ : ∃ W2, W2 = W1.alloc (.cells #[.string (hdE (at2 ls (lst lost 0))).f0, .int .u64 (hdE (at2 ls (lst lost 0))).f1] 41) := ⟨_, rfl⟩
 rw [← hW2] at HT2 hbk2 hbk1 HB2 ⊢
 have hlt := HT1.out.lt
 have hbw := HBW.out
 have hsz := HB1.out.2.2.2.1
 have hbb := blk_lt BK.out
 obtain ⟨b2, hb2⟩ : ∃ b2, b2 = W1.heap.size := ⟨_, rfl⟩
 rw [← hb2] at hbk2 hlt hbb hsz ⊢
 have HB2G := Az.mk (show g < b2 ∧ w.heap.size ≤ b2 ∧ b ≠ b2 from ⟨hlt.2.2.2, hsz, by omega⟩)
 have BK1 := Az.mk hbk1
 have BK2 := Az.mk hbk2
 clear hW2 hb2 hlt hbb hsz hbw hbk1 hbk2 h1 h3 h4 hc0 hc1 hv BK HB1 HT1
 have hc0 : W2.cell? ⟨g, 0, none⟩ = some (.slice (some ⟨go, 0, none⟩) ls.length ls.length) := blk_cell HT2.out.tree 0
 obtain ⟨ad2, c2, h1, h2, _, _⟩ := HT2.out.head (lst lost 0) HLT.out HE.out
 obtain ⟨A2', c2', h1', h2', _, hC2⟩ := HT2.out.list (lst lost 0) HLT.out
 have hA2 : A2' = some ad2 ∧ c2' = c2 := by
  rw [h1] at h1'
  injection h1' with h1'
  injection h1' with a b c
  exact ⟨a.symm, c.symm⟩
 obtain ⟨rfl, rfl⟩ := hA2
 have hf : W2.frozen? ⟨go, lst lost 0, none⟩ = false := by
  obtain ⟨hs, hb, _⟩ := HT2.out.own
  exact blk_frozen hb _
 obtain ⟨i0, hi0, _, hs0, _⟩ := info_parts info41
 have hcut := cut_from (P := Try.prog) 36 41 .i64 Try.underlying36 hi0 2 hs0 (some ad2) (at2 ls (lst lost 0)).length c2' 1 (by omega) (by have := HE.out; omega)
 have hCd := Kd.C_drop (m := 1) (c := c2') hC2 (by have := HE.out; omega) h2'
 rw [show (k41.sz) = 2 from rfl] at hCd
 rw [show ((1 : Int)).toNat = 1 from rfl] at hcut
 generalize (if c2' = 1 then some ad2 else (some ad2).map (·.add (1 * 2))) = A3 at hcut hCd
 have hld : (at2 ls (lst lost 0)).length - 1 = ((at2 ls (lst lost 0)).drop 1).length := List.length_drop.symm
 rw [hld] at hcut
 have H2 := Az.mk h2'
 have HLD := Az.mk hld
 have HCD := Az.mk hCd
 clear hi0 hs0 h2' h2 h1' hC2 hCd hld
 go_region
 have ht3 := HT2.out.setOwn (lst lost 0) HLT.out A3 ((at2 ls (lst lost 0)).drop 1) (c2' - 1) (by have := H2.out; have := HLD.out; omega) HCD.out
 rw [← HLD.out] at ht3
 have hgo := HT2.out.lt
 have hg2 := HB2G.out
 have hg1 := HBG.out
 have hb31 := blk_drew (blk_far BK1.out (p := ⟨go, lst lost 0, none⟩) (by show b ≠ go; omega) (Value.slice A3 ((at2 ls (lst lost 0)).length - 1) (c2' - 1)))
 have hb32 := blk_drew (blk_far BK2.out (p := ⟨go, lst lost 0, none⟩) (by show b2 ≠ go; omega) (Value.slice A3 ((at2 ls (lst lost 0)).length - 1) (c2' - 1)))
 have ht3d : TreeIs w0 (W2.setCell ⟨go, lst lost 0, none⟩ (.slice A3 ((at2 ls (lst lost 0)).length - 1) (c2' - 1))).drew g go gl (ls.set (lst lost 0) ((at2 ls (lst lost 0)).drop 1)) lost := ht3.move rfl rfl rfl (below_drew1 ht3.low)
 have hb3 : ButPair w (W2.setCell ⟨go, lst lost 0, none⟩ (.slice A3 ((at2 ls (lst lost 0)).length - 1) (c2' - 1))).drew go gl := HB2.out.set (.inl rfl) (lst lost 0) _
 generalize (W2.setCell ⟨go, lst lost 0, none⟩ (.slice A3 ((at2 ls (lst lost 0)).length - 1) (c2' - 1))).drew = W3 at ht3d hb31 hb32 hb3 ⊢
 have HT3 := Az.mk ht3d
 have HB3 := Az.mk hb3
 have BK31 := Az.mk hb31
 have BK32 := Az.mk hb32
 have hls : (ls.set (lst lost 0) ((at2 ls (lst lost 0)).drop 1)).length = ls.length := List.length_set
 have HLS := Az.mk hls
 clear ht3 hgo hg2 hg1 hb31 hb32 ht3d hb3 h1 hf hcut hc0 BK1 BK2 HT2 HB2 HLD HCD H2 HC hls
 go_wp2_with (go_at_call 46; refine (loser_tree_play.calls w0 W3 g go gl (ls.set (lst lost 0) ((at2 ls (lst lost 0)).drop 1)) lost (lst lost 0) HT3.out (by rw [HLS.out]; exact HLT.out) (by rw [HLS.out]; exact HLL.out) (by rw [HLS.out]; exact HLO.out) (by rw [HLS.out]; exact HN.out)).mono ?_; rintro e W4 ⟨rfl, ht4, hb4⟩; have HT4 := Az.mk ht4; have hx := HBG.out; have hx2 := HT3.out.lt; have hx3 := HB2G.out; have hx4 := blk_lt BK31.out; have hx5 := blk_lt BK32.out; have hk1 := (hb4.2.2.2.2 b (by omega) (by omega) hx4).trans BK31.out; have hk2 := (hb4.2.2.2.2 b2 (by omega) (by omega) hx5).trans BK32.out; have HB4 := Az.mk (HB3.out.trans hb4); have BK41 := Az.mk hk1; have BK42 := Az.mk hk2; have hf0 := blk_frozen hk1 0; have hf1 := blk_frozen hk1 1; have hq0 : W4.cell? ⟨b, 0, none⟩ = some (.string ⟨#[]⟩) := blk_cell hk1 0; have hq1 : W4.cell? ⟨b, 1, none⟩ = some (.int .u64 0) := blk_cell hk1 1; have hr0 : W4.cell? ⟨b2, 0, none⟩ = some (.string (hdE (at2 ls (lst lost 0))).f0) := blk_cell hk2 0; have hr1 : W4.cell? ⟨b2, 1, none⟩ = some (.int .u64 (hdE (at2 ls (lst lost 0))).f1) := blk_cell hk2 1; clear ht4 hb4 hx hx2 hx3 hx4 hx5 hk1 hk2)
 refine bodyPost_ret (results_ct rfl _ _ b 41 #[.string (hdE (at2 ls (lst lost 0))).f0, .int .u64 (hdE (at2 ls (lst lost 0))).f1] (0, 0) _ rfl (by refine blk_put (cs := #[.string (hdE (at2 ls (lst lost 0))).f0, .int .u64 0]) ?_ 1 _ rfl; refine blk_put (cs := #[.string (⟨#[]⟩ : ByteArray), .int .u64 0]) ?_ 0 _ rfl; exact BK41.out) Try.underlying41 rfl (by kernel_rfl)) rfl ?_
 have hT4 := HT4.out
 rw [HLS.out] at hT4
 exact ⟨rfl, (hT4.far HBG.out 0 _).far HBG.out 1 _, (HB4.out.setNew HBW.out 0 _).setNew HBW.out 1 _⟩
def num_Add.f (a0 : Int) (a1 : Int) : Option (Int × Bool) := if a0 > 4611686018427387904 then (some (0, false)) else (if a1 > (IntKind.u64.wrap (4611686018427387904 - a0)) then (some (0, false)) else (some (IntKind.u64.wrap (a0 + a1), true)))
theorem num_Add.calls (a0 : Int) (a1 : Int) (r1 : Int) (r2 : Bool) (w : World) (h : num_Add.f a0 a1 = some (r1, r2)) :
  Calls Try.prog 27 #[.int .u64 a0, .int .u64 a1] w fun e w' => e = .returned (.tuple #[.int .u64 r1, .bool r2]) ∧ Drawn0 w w' := by
 have H : (if a0 > 4611686018427387904 then (some (0, false)) else (if a1 > (IntKind.u64.wrap (4611686018427387904 - a0)) then (some (0, false)) else (some (IntKind.u64.wrap (a0 + a1), true)))) = some (r1, r2) := h
 clear h
 by_cases c3 : a0 > 4611686018427387904
 ·rw [if_pos c3] at H
  have c3b0 := decide_eq_true c3
  clear c3
  simp only [Option.some.injEq, Prod.mk.injEq] at H
  obtain ⟨rfl, rfl⟩ := H
  go_enter Try.func27, Try.ntmps27
  go_wp2
  go_ret2
  exact ⟨es_, dw_⟩
 ·rw [if_neg c3] at H
  have c3b0 := decide_eq_false c3
  clear c3
  by_cases c4 : a1 > (IntKind.u64.wrap (4611686018427387904 - a0))
  ·rw [if_pos c4] at H
   have c4b0 := decide_eq_true c4
   clear c4
   simp only [Option.some.injEq, Prod.mk.injEq] at H
   obtain ⟨rfl, rfl⟩ := H
   go_enter Try.func27, Try.ntmps27
   go_wp2
   go_ret2
   exact ⟨es_, dw_⟩
  ·rw [if_neg c4] at H
   have c4b0 := decide_eq_false c4
   clear c4
   simp only [Option.some.injEq, Prod.mk.injEq] at H
   obtain ⟨rfl, rfl⟩ := H
   go_enter Try.func27, Try.ntmps27
   go_wp2
   go_ret2
   exact ⟨es_, dw_⟩
theorem lst_lt {n : Nat} {l : List Nat} (h : ∀ x ∈ l, x < n) (i : Nat) (hi : i < l.length) : lst l i < n := by
 unfold lst
 rw [List.getD_eq_getElem?_getD, List.getElem?_eq_getElem hi]
 exact h _ (List.getElem_mem hi)
theorem playG_lt (ls : List (List S41)) (n : Nat) : ∀ (d k i : Nat) (lost : List Nat), (∀ x ∈ lost, x < n) → i < n → k < lost.length → ∀ x ∈ playG ls d k i lost, x < n
 | 0, k, i, lost, h, hi, _ => set_lt h hi
 | d + 1, k, i, lost, h, hi, hk => by
  rw [playG]
  split
  ·exact set_lt h hi
  ·have hk2 := lst_lt h k hk
   split
   ·exact playG_lt ls n d (k / 2) _ _ (set_lt h hi) hk2 (by rw [List.length_set]; omega)
   ·exact playG_lt ls n d (k / 2) _ _ h hi (by omega)
def Fit (ls : List (List S41)) (lost : List Nat) : Prop := 0 < ls.length ∧ ls.length ≤ 1000 ∧ lost.length = ls.length ∧ ∀ x ∈ lost, x < ls.length
def nextG (ls : List (List S41)) (lost : List Nat) : List (List S41) × List Nat × S41 × Bool :=
 if (at2 ls (lst lost 0)).length = 0 then (ls, lost, z41, false)
 else (ls.set (lst lost 0) ((at2 ls (lst lost 0)).drop 1), playG (ls.set (lst lost 0) ((at2 ls (lst lost 0)).drop 1)) ((lst lost 0 + ls.length) / 2) ((lst lost 0 + ls.length) / 2) (lst lost 0) lost, hdE (at2 ls (lst lost 0)), true)
theorem Fit.next {ls : List (List S41)} {lost : List Nat} (h : Fit ls lost) : Fit (nextG ls lost).1 (nextG ls lost).2.1 := by
 unfold nextG
 split
 ·exact h
 ·obtain ⟨h1, h2, h3, h4⟩ := h
  have hi := lst_lt h4 0 (by omega)
  refine ⟨by rw [List.length_set]; exact h1, by rw [List.length_set]; exact h2, by rw [List.length_set, playG_len]; exact h3, ?_⟩
  intro x hx
  rw [List.length_set]
  exact playG_lt _ ls.length _ _ _ _ h4 hi (by omega) x hx
theorem growL_lt (ls : List (List S41)) (n : Nat) : ∀ (k : Nat) (win lost : List Nat), (∀ x ∈ win, x < n) → (∀ x ∈ lost, x < n) → 2 * k + 1 < win.length → (∀ x ∈ (growL ls k win lost).1, x < n) ∧ (∀ x ∈ (growL ls k win lost).2, x < n) ∧ (growL ls k win lost).1.length = win.length ∧ (growL ls k win lost).2.length = lost.length
 | 0, win, lost, h1, h2, _ => ⟨h1, h2, rfl, rfl⟩
 | k + 1, win, lost, h1, h2, hk => by
  have a := lst_lt h1 (2 * (k + 1)) (by omega)
  have b := lst_lt h1 (2 * (k + 1) + 1) (by omega)
  rw [growL]
  split
  ·have := growL_lt ls n k (win.set (k + 1) (lst win (2 * (k + 1) + 1))) (lost.set (k + 1) (lst win (2 * (k + 1)))) (set_lt h1 b) (set_lt h2 a) (by rw [List.length_set]; omega)
   rw [List.length_set, List.length_set] at this
   exact this
  ·have := growL_lt ls n k (win.set (k + 1) (lst win (2 * (k + 1)))) (lost.set (k + 1) (lst win (2 * (k + 1) + 1))) (set_lt h1 a) (set_lt h2 b) (by rw [List.length_set]; omega)
   rw [List.length_set, List.length_set] at this
   exact this
theorem growG_fit {ls : List (List S41)} (h1 : 0 < ls.length) (h2 : ls.length ≤ 1000) : Fit ls (growG ls) := by
 have := growL_lt ls ls.length (ls.length - 1) (winI ls.length ls.length) (List.replicate ls.length 0) (winI_lt _ h1) (fun x hx => by rw [(List.mem_replicate.1 hx).2]; exact h1) (by rw [winI_len _ _ (Nat.le_refl _)]; omega)
 rw [winI_len _ _ (Nat.le_refl _), List.length_replicate] at this
 obtain ⟨a, b, c, d⟩ := this
 refine ⟨h1, h2, ?_, ?_⟩
 ·unfold growG
  rw [List.length_set]; exact d
 ·unfold growG
  exact set_lt b (lst_lt a 1 (by rw [c]; omega))
theorem loser_tree_next.calls (w0 w : World) (g go gl : Nat) (ls : List (List S41)) (lost : List Nat) (hT : TreeIs w0 w g go gl ls lost) (hf : Fit ls lost) :
  Calls Try.prog 26 #[.pointer (some ⟨g, 0, none⟩)] w fun e w' => e = .returned (.tuple #[.agg #[.string (nextG ls lost).2.2.1.f0, .int .u64 (nextG ls lost).2.2.1.f1], .bool (nextG ls lost).2.2.2]) ∧ TreeIs w0 w' g go gl (nextG ls lost).1 (nextG ls lost).2.1 ∧ ButPair w w' go gl := by
 obtain ⟨h1, h2, h3, h4⟩ := hf
 have hi := lst_lt h4 0 (by omega)
 unfold nextG
 by_cases h : (at2 ls (lst lost 0)).length = 0
 ·rw [if_pos h]
  exact loser_tree_next.end w0 w g go gl ls lost hT (by omega) hi h
 ·rw [if_neg h]
  exact loser_tree_next.more w0 w g go gl ls lost hT (by omega) hi h h3 h4 h2
theorem ButPair.low {w w1 w2 : World} {g1 g2 : Nat} (h : ButPair w1 w2 g1 g2) {B : Nat} (hb : Below B w w1) {w0 : World} {g : Nat} (hl : w0.heap.size ≤ g1 ∧ g1 < g2 ∧ g2 < g ∧ g < w1.heap.size) (hB : B ≤ w0.heap.size := by first | assumption | omega) : Below B w w2 :=
 ⟨h.1.trans hb.os, h.2.1.trans hb.tape, h.2.2.1.trans hb.output, Nat.le_trans hb.size h.2.2.2.1, fun k hk => (h.2.2.2.2 k (by omega) (by omega) (by omega)).trans (hb.block k hk)⟩
def lastE (l : List S41) : S41 := l.getD (l.length - 1) z41
def mays (k : Nat) : List (List S41) → Option Int
 | [] => some 0
 | l :: r => (run_May.f k l).bind fun e => if e = 0 then mays k r else some e
def mergeL : Nat → List (List S41) → List Nat → S41 → Bool → List S41 → Option (List S41 × Int)
 | 0, _, _, _, b, out => if b = true then none else some (out, 0)
 | d + 1, ls, lost, x, b, out =>
  if b = true then
   if 0 < out.length ∧ (lastE out).f0.toList = x.f0.toList then
    (num_Add.f (lastE out).f1 x.f1).bind fun s => if s.2 = true then mergeL d (nextG ls lost).1 (nextG ls lost).2.1 (nextG ls lost).2.2.1 (nextG ls lost).2.2.2 (out.set (out.length - 1) ⟨(lastE out).f0, s.1⟩) else some ([], 5)
   else if out.length < 5864062014805 then mergeL d (nextG ls lost).1 (nextG ls lost).2.1 (nextG ls lost).2.2.1 (nextG ls lost).2.2.2 (out ++ [x]) else none
  else some (out, 0)
def loser_Merge.f (k : Nat) (l0 : List (List S41)) : Option (List S41 × Int) :=
 if l0.length > 256 then some ([], 6) else (mays k l0).bind fun e => if e = 0 then (if l0.length = 0 then some ([], 0) else mergeL k (nextG l0 (growG l0)).1 (nextG l0 (growG l0)).2.1 (nextG l0 (growG l0)).2.2.1 (nextG l0 (growG l0)).2.2.2 []) else some ([], e)
theorem mays.mono (k : Nat) : ∀ l, LeO (mays k l) (mays (k + 1) l)
 | [] => LeO.refl _
 | l :: r => by
  rw [mays, mays]
  exact LeO.bind (run_May.mono _ _) (fun _ => LeO.ite (mays.mono k r) (LeO.refl _))
theorem mergeL.mono : ∀ (d : Nat) (ls : List (List S41)) (lost : List Nat) (x : S41) (b : Bool) (out : List S41), LeO (mergeL d ls lost x b out) (mergeL (d + 1) ls lost x b out)
 | 0, ls, lost, x, b, out => by
  rw [mergeL, mergeL]
  cases b with
  | true => rw [if_pos rfl]; exact LeO.none _
  | false => exact LeO.refl _
 | d + 1, ls, lost, x, b, out => by
  rw [mergeL, mergeL]
  exact LeO.ite (LeO.ite (LeO.bind (LeO.refl _) (fun _ => LeO.ite (mergeL.mono d _ _ _ _ _) (LeO.refl _))) (LeO.ite (mergeL.mono d _ _ _ _ _) (LeO.none _))) (LeO.refl _)
theorem loser_Merge.mono : ∀ a0 k, LeO (loser_Merge.f k a0) (loser_Merge.f (k + 1) a0) := by
 intro a0 k
 unfold loser_Merge.f
 exact LeO.ite (LeO.refl _) (LeO.bind (mays.mono k a0) (fun _ => LeO.ite (LeO.ite (LeO.refl _) (mergeL.mono k _ _ _ _ _)) (LeO.refl _)))
theorem merge_after {W0 w1 : World} {g go gl : Nat} {ls : List (List S41)} {lost : List Nat} (x : S41) (hT : TreeIs W0 w1 g go gl ls lost) :
  TreeIs W0 (w1.alloc (.cells #[.string x.f0, .int .u64 x.f1] 41)) g go gl ls lost ∧ (w1.alloc (.cells #[.string x.f0, .int .u64 x.f1] 41)).heap[w1.heap.size]? = some (.cells #[.string x.f0, .int .u64 x.f1] 41 (0, 0)) ∧ g < w1.heap.size ∧ w1.heap.size ≠ go ∧ w1.heap.size ≠ gl := by
 have := hT.lt
 exact ⟨hT.alloc _, blk_new _ _, by omega, by omega, by omega⟩
theorem merge_blk {W0 w1 W6 : World} {g go gl : Nat} {ls : List (List S41)} {lost : List Nat} (x : S41) (hT : TreeIs W0 w1 g go gl ls lost) (hB6 : ButPair (w1.alloc (.cells #[.string x.f0, .int .u64 x.f1] 41)) W6 go gl) :
  W6.heap[w1.heap.size]? = some (.cells #[.string x.f0, .int .u64 x.f1] 41 (0, 0)) := by
 obtain ⟨h1, h2, h3, h4, h5⟩ := merge_after x hT
 exact (hB6.2.2.2.2 _ h4 h5 (blk_lt h2)).trans h2
theorem merge_post {w W0 w1 W6 : World} {g go gl bx : Nat} {ls ls2 : List (List S41)} {lost lost2 : List Nat} (x x2 : S41) {v : Value} {out : List S41} (hT : TreeIs W0 w1 g go gl ls lost) (hR : Kd.R k41 41 w1 W0.heap.size (fun k => k ≠ bx) v out)
  (hT6 : TreeIs W0 W6 g go gl ls2 lost2) (hB6 : ButPair (w1.alloc (.cells #[.string x.f0, .int .u64 x.f1] 41)) W6 go gl) (hB : Below w.heap.size w w1) (hW : w.heap.size ≤ W0.heap.size) (W7 : World)
  (h7 : W7 = (W6.setCell ⟨w1.heap.size, 0, none⟩ (.string x2.f0)).setCell ⟨w1.heap.size, 1, none⟩ (.int .u64 x2.f1)) :
  W7.heap[w1.heap.size]? = some (.cells #[.string x2.f0, .int .u64 x2.f1] 41 (0, 0)) ∧ (g < w1.heap.size ∧ w.heap.size ≤ w1.heap.size) ∧ Kd.R k41 41 W7 W0.heap.size (fun k => k ≠ w1.heap.size) v out ∧ TreeIs W0 W7 g go gl ls2 lost2 ∧ Below w.heap.size w W7 := by
 obtain ⟨h1, h2, h3, h4, h5⟩ := merge_after x hT
 have hb6 := merge_blk x hT hB6
 have hlt := hT.lt
 have hR1 : Kd.R k41 41 w1 W0.heap.size (fun k => k ≠ w1.heap.size) v out := Kd.R_mono (Kd.R_bound hR) (fun k hk => by have := hk.2.2.1; omega)
 have hR2 := Kd.R_below hR1 (below_alloc (Below.refl _ _) (.cells #[.string x.f0, .int .u64 x.f1] 41))
 obtain ⟨hs, hgo, _⟩ := h1.own
 have hR3 := Kd.R_types (Kd.R_types hR2 hgo (by decide)) h1.lost (by decide)
 have hR4 : Kd.R k41 41 W6 W0.heap.size (fun k => k ≠ w1.heap.size) v out := Kd.R_mono (Kd.R_step hR3 (fun k hk hlt => hB6.2.2.2.2 k hk.1.2 hk.2 hlt)) (fun k hk => hk.1.1)
 have hb2 : Below w.heap.size w W6 := hB6.low (below_alloc hB _) (w0 := W0) (g := g) ⟨hlt.1, hlt.2.1, hlt.2.2.1, by rw [World.size_alloc]; omega⟩ hW
 subst h7
 refine ⟨?_, ⟨h3, hB.size⟩, Kd.R_far (p := ⟨w1.heap.size, 1, none⟩) (Kd.R_far (p := ⟨w1.heap.size, 0, none⟩) hR4 (fun k hk => hk) _) (fun k hk => hk) _, (hT6.far h3 0 _).far h3 1 _, (hb2.setCell hB.size _).setCell hB.size _⟩
 refine blk_put (cs := #[.string x2.f0, .int .u64 x.f1]) ?_ 1 _ rfl
 exact blk_put (cs := #[.string x.f0, .int .u64 x.f1]) hb6 0 _ rfl
theorem grown_tree {W0 W w1 : World} {g go gl bx : Nat} {ls : List (List S41)} {lost : List Nat} {v : Value} {out : List S41} (hT : TreeIs W0 W g go gl ls lost) (hR : Kd.R k41 41 W W0.heap.size (fun k => k ≠ bx) v out) (hg : W.grownBy w1 v.ownBlock) (hb : Below W0.heap.size W0 w1) {o : Obj} (hx : W.heap[bx]? = some o) :
  TreeIs W0 w1 g go gl ls lost ∧ w1.heap[bx]? = some o := by
 obtain ⟨hs, hgo, _⟩ := hT.own
 have hty : ∀ k cs t, W.heap[k]? = some (.cells cs t (0, 0)) → t ≠ 41 → some k ≠ v.ownBlock := by
  intro k cs t hk ht he
  obtain ⟨inner, ho⟩ := Kd.R_own hR
  obtain ⟨cells, hc⟩ := own_typed ho k he.symm
  rw [hk] at hc
  injection hc with hc
  injection hc with _ hc
  exact ht hc
 refine ⟨hT.move (hg.block g (blk_lt hT.tree) (hty g _ _ hT.tree (by decide))) (hg.block go (blk_lt hgo) (hty go _ _ hgo (by decide))) (hg.block gl (blk_lt hT.lost) (hty gl _ _ hT.lost (by decide))) hb, ?_⟩
 refine (hg.block bx (blk_lt hx) (fun he => ?_)).trans hx
 exact hR.1 bx he.symm rfl
theorem merge_put {W0 W : World} {g go gl bx g8 c : Nat} {ls : List (List S41)} {lost : List Nat} {out : List S41} (hT : TreeIs W0 W g go gl ls lost) (hR : Kd.R k41 41 W W0.heap.size (fun k => k ≠ bx) (.slice (some ⟨g8, 0, none⟩) out.length c) out) {o : Obj} (hx : W.heap[bx]? = some o) (m : Nat) (hm : out.length = m + 1) (s : Int) :
  Kd.R k41 41 (W.setCell ⟨g8, m * 2 + 1, none⟩ (.int .u64 s)) W0.heap.size (fun k => k ≠ bx) (.slice (some ⟨g8, 0, none⟩) out.length c) (out.set (out.length - 1) ⟨(lastE out).f0, s⟩) ∧ TreeIs W0 (W.setCell ⟨g8, m * 2 + 1, none⟩ (.int .u64 s)) g go gl ls lost ∧ (W.setCell ⟨g8, m * 2 + 1, none⟩ (.int .u64 s)).heap[bx]? = some o ∧ Below W0.heap.size W0 (W.setCell ⟨g8, m * 2 + 1, none⟩ (.int .u64 s)) := by
 obtain ⟨ce, hce, hM8, hcell8, hfz8⟩ := Kd.R_elem hR z41 (m : Int) (by omega) (by omega)
 have hel : out.getD (m : Int).toNat z41 = lastE out := by unfold lastE; rw [hm]; rfl
 rw [hel] at hM8
 obtain rfl := k41_openM hM8
 obtain ⟨h1, h2⟩ := Kd.R_seg hR (m : Int) (by omega) (by omega) (seg := [.int .u64 s]) (j := 1) hce hcell8 (show 2 ≤ 2 by decide) (x' := (⟨(lastE out).f0, s⟩ : S41)) (k41_mkM _ _ _ (⟨(lastE out).f0, s⟩ : S41)) (fun _ hk => hk)
 have hb : Below W0.heap.size W0 (W.setCell ⟨g8, m * 2 + 1, none⟩ (.int .u64 s)) := hT.low.setCell (Kd.R_base hR g8 (by simp [Value.ownBlock])) _
 have h2' : W.grownBy (W.setCell ⟨g8, m * 2 + 1, none⟩ (.int .u64 s)) (Value.slice (some ⟨g8, 0, none⟩) out.length c).ownBlock := by
  rw [show (Value.slice (some ⟨g8, 0, none⟩) out.length c).ownBlock = some g8 by simp [Value.ownBlock]]
  exact h2
 obtain ⟨h3, h4⟩ := grown_tree hT hR h2' hb hx
 rw [show out.length - 1 = m by omega]
 exact ⟨h1, h3, h4, hb⟩
theorem loser_Merge.calls (k : Nat) (A0 : Option Addr) (c0 : Nat) (l0 : List (List (S41))) (r1 : List (S41)) (r2 : Int) (w : World) (hr0 : Kd.C (Kd.slice 41 k41) w A0 l0.length l0) (hc0 : l0.length ≤ c0) (h : loser_Merge.f k l0 = some (r1, r2)) :
  Calls Try.prog 13 #[.slice A0 l0.length c0] w fun e w' => ∃ v0_ : Value, e = .returned (.tuple #[v0_, .int .i64 r2]) ∧ Kd.R k41 41 w' w.heap.size (fun _ => True) v0_ r1 ∧ Below w.heap.size w w' := by
 have HR0 := Az.mk hr0
 have HC0 := Az.mk hc0
 clear hr0 hc0
 unfold loser_Merge.f at h
 by_cases c1 : l0.length > 256
 ·rw [if_pos c1] at h
  simp only [Option.some.injEq, Prod.mk.injEq] at h
  obtain ⟨rfl, rfl⟩ := h
  have c1b : decide ((256 : Int) < (l0.length : Int)) = true := decide_eq_true (by omega)
  clear c1
  go_enter Try.func13, Try.ntmps13
  go_wp2
  go_ret2
  exact ⟨_, rfl, Kd.R_nil _ _ _ _ _, Below.refl _ _⟩
 ·rw [if_neg c1] at h
  replace h := Option.bind_eq_some_iff.mp h
  obtain ⟨e, hm, h⟩ := h
  have c1b : decide ((256 : Int) < (l0.length : Int)) = false := decide_eq_false (by omega)
  have HM := Az.mk hm
  have H := Az.mk h
  have HN := Az.mk (show l0.length ≤ 256 by omega)
  clear c1 hm h
  go_enter Try.func13, Try.ntmps13
  go_wp2
  go_loopg [19] l0.length (fun kq v19 w' => ∃ i : Nat, v19 = .int .i64 i ∧ Az (i + kq = l0.length) ∧ Az (mays k (l0.drop i) = some e) ∧ Az (Below w.heap.size w w'))
  case atStart => exact ⟨0, rfl, ⟨by omega⟩, HM, ⟨Below.refl _ _⟩⟩
  case round =>
   obtain ⟨i, rfl, HI, HM', HB⟩ := hrel
   cases gk with
   | zero =>
    have hi : i = l0.length := by have := HI.out; omega
    subst hi
    have he : e = 0 := by
     have := HM'.out
     rw [List.drop_length, mays] at this
     exact (Option.some.inj this).symm
    subst he
    have h := H.out
    rw [if_pos rfl] at h
    by_cases c3 : l0.length = 0
    ·rw [if_pos c3] at h
     simp only [Option.some.injEq, Prod.mk.injEq] at h
     obtain ⟨rfl, rfl⟩ := h
     have c3b : ((l0.length : Int) == 0) = true := beq_iff_eq.mpr (by omega)
     clear c3
     go_wp2
     go_ret2
     exact ⟨_, rfl, Kd.R_nil _ _ _ _ _, HB.out⟩
    ·rw [if_neg c3] at h
     have c3b : ((l0.length : Int) == 0) = false := beq_eq_false_iff_ne.mpr (by omega)
     obtain ⟨ad, hA0, _⟩ := HR0.out.2.2 (by omega)
     subst hA0
     have HH := Az.mk h
     have HC3 := Az.mk (show 1 ≤ l0.length by omega)
     clear c3 h HM HM'
     go_upto_region 13 with (go_at_call 25; refine (loser_grown.calls ad c0 l0 wr (Kd.C_below HR0.out HB.out) HC3.out (by have := HN.out; omega)).mono ?_; rintro e_ W1 ⟨g, go, gl, rfl, hT⟩; have HT := Az.mk hT; have HB1 := Az.mk (below_step HB.out hT.low); clear hT)
     have HF := Az.mk (growG_fit (ls := l0) HC3.out (by have := HN.out; omega))
     go_wp2_with (go_at_call 26; refine (loser_tree_next.calls wr W1 g go gl l0 (growG l0) HT.out HF.out).mono ?_; rintro e_ W2 ⟨rfl, hT2, hB2⟩; have HT2 := Az.mk hT2; have HBT2 := Az.mk hB2; clear hT2 hB2)
     have hfit := HF.out.next
     have hW0s : w.heap.size ≤ wr.heap.size := HB.out.size
     have hW0b : Below w.heap.size w wr := HB.out
     have hM := HH.out
     have hT2 := HT2.out
     generalize nextG l0 (growG l0) = N at hfit hM hT2 ⊢
     obtain ⟨ls, lost, x, b⟩ := N
     have hb2 := ButPair.low HBT2.out HB1.out HT.out.lt HB.out.size
     have hlt2 := hT2.lt
     have htA := hT2.alloc (.cells #[.string x.f0, .int .u64 x.f1] 41)
     have hnew := blk_new W2 (.cells #[.string x.f0, .int .u64 x.f1] 41)
     have hbA := below_alloc hb2 (.cells #[.string x.f0, .int .u64 x.f1] 41)
     have HS := Az.mk (show g < W2.heap.size ∧ w.heap.size ≤ W2.heap.size from ⟨hlt2.2.2.2, hb2.size⟩)
     have HTA := Az.mk htA
     have HNEW := Az.mk hnew
     have HBA := Az.mk hbA
     have HFIT := Az.mk hfit
     have HML := Az.mk hM
     clear hfit hM hT2 hb2 hlt2 htA hnew hbA HT2 HBT2 HF HT HB1 HB H HH
     obtain ⟨W0, hW0⟩ : ∃ W, W = wr := ⟨_, rfl⟩
     have HW0S := Az.mk hW0s
     have HW0B := Az.mk hW0b
     rw [← hW0] at HTA HW0S HW0B
     clear hW0s hW0b hW0
     go_loopg [8, 9, 10] k (fun kq v8 v9 v10 w' => ∃ (out : List S41) (bx : Nat) (x : S41) (b : Bool) (ls : List (List S41)) (lost : List Nat), v9 = .pointer (some ⟨bx, 0, none⟩) ∧ v10 = .bool b ∧ Az (w'.heap[bx]? = some (.cells #[.string x.f0, .int .u64 x.f1] 41 (0, 0))) ∧ Az (g < bx ∧ w.heap.size ≤ bx) ∧ Az (Kd.R k41 41 w' W0.heap.size (fun k => k ≠ bx) v8 out) ∧ Az (TreeIs W0 w' g go gl ls lost) ∧ Az (Fit ls lost) ∧ Az (mergeL kq ls lost x b out = some (r1, r2)) ∧ Az (Below w.heap.size w w'))
     case atStart => exact ⟨[], W2.heap.size, x, b, ls, lost, rfl, rfl, HNEW, HS, ⟨Kd.R_nil _ _ _ _ _⟩, HTA, HFIT, HML, HBA⟩
     case round =>
      obtain ⟨out, bx, x, b, ls, lost, rfl, rfl, HX, HG, HR, HT, HF, HM, HB⟩ := hrel
      cases b with
      | false =>
       have hm : mergeL gk ls lost x false out = some (out, 0) := by cases gk <;> rfl
       rw [HM.out] at hm
       simp only [Option.some.injEq, Prod.mk.injEq] at hm
       obtain ⟨rfl, rfl⟩ := hm
       go_wp2
       go_ret2
       exact ⟨_, rfl, Kd.R_mono (Kd.R_lower HR.out HW0S.out) (fun _ _ => trivial), HB.out⟩
      | true =>
       cases gk with
       | zero => exact absurd HM.out (by simp [mergeL])
       | succ d =>
        obtain ⟨A, c, rfl⟩ := Kd.R_slice HR.out
        obtain ⟨j, hj⟩ : ∃ j : Int, j = (out.length : Int) - 1 := ⟨_, rfl⟩
        have hlim : out.length ≤ 9223372036854775807 := (Kd.R_reads' HR.out).2.2.2.1
        have hwj : wrap64 ((out.length : Int) - 1) = j := by unfold wrap64; omega
        have HJ := Az.mk hj
        clear hlim
        by_cases c4 : out.length = 0
        ·have hnil : out = [] := List.eq_nil_of_length_eq_zero c4
         subst hnil
         clear c4 hj hwj
         have HLIM : Az (([] : List S41).length < 5864062014805) := ⟨by simp⟩
         go_wp2
         go_region
         have hrd : Kd.R k41 41 wr.drew W0.heap.size (fun k => k ≠ bx) (.slice A ([] : List S41).length c) [] := Kd.R_step HR.out (fun _ _ _ => rfl)
         have htd : TreeIs W0 wr.drew g go gl ls lost := HT.out.move rfl rfl rfl (below_drew1 HT.out.low)
         have hxd : wr.drew.heap[bx]? = some (.cells #[.string x.f0, .int .u64 x.f1] 41 (0, 0)) := HX.out
         have hbd : Below w.heap.size w wr.drew := below_drew1 HB.out
         generalize wr.drew = W5 at hrd htd hxd hbd ⊢
         have HRD := Az.mk hrd
         have HTD := Az.mk htd
         have HXD := Az.mk hxd
         have HBD := Az.mk hbd
         have hx0 : W5.cell? ⟨bx, 0, none⟩ = some (.string x.f0) := blk_cell hxd 0
         have hx1 : W5.cell? ⟨bx, 1, none⟩ = some (.int .u64 x.f1) := blk_cell hxd 1
         clear hrd htd hxd hbd HR HT HX HB
         go_wp2_with ((with_reducible refine gate_builtin (b := .append) (xs := #[.tmp 78, .tmp 80]) rfl ?_); at_builtin; refine Kd.R_append k41 (w0 := W0) W0.heap.size rfl (.tmp 78) (.tmp 80) 36 41 (.agg #[.string ⟨#[]⟩, .int .u64 0]) 24 rfl Try.underlying36 info41 rfl (by decide) (by omega) (.slice A ([] : List S41).length c) ([] : List S41) x [.string x.f0, .int .u64 x.f1] (fun k => k ≠ bx) (fun _ => False) rfl rfl ?aP (fun _ hk => hk.elim) ?aF ?aO ?aB ?aS ?aL ?_)
         case aP => exact k41_mkM _ _ _ x
         case aF => intro k hk e; have := blk_lt HXD.out; omega
         case aO => exact HRD.out
         case aB => exact HTD.out.low
         case aS => exact HTD.out.low.size
         case aL => have := HLIM.out; omega
         intro v1 w1 ho hb hg hat
         obtain ⟨ht1, hxw⟩ := grown_tree HTD.out HRD.out hg hb HXD.out
         clear hg hat HRD HTD HXD hx0 hx1
         have hbw := below_then HW0B.out HW0S.out hb
         obtain ⟨A1, c1, rfl⟩ := Kd.R_slice ho
         have HT1 := Az.mk ht1
         have HR1 := Az.mk ho
         have HBW := Az.mk hbw
         have hx0 : w1.cell? ⟨bx, 0, none⟩ = some (.string x.f0) := blk_cell hxw 0
         have hx1 : w1.cell? ⟨bx, 1, none⟩ = some (.int .u64 x.f1) := blk_cell hxw 1
         clear hb hbw ht1 ho hxw
         have HTa := Az.mk (merge_after x HT1.out).1
         go_wp2_with (go_at_call 26; refine (loser_tree_next.calls W0 _ g go gl ls lost HTa.out HF.out).mono ?_; rintro e_ W6 ⟨rfl, hT6, hB6⟩; have HT6 := Az.mk hT6; have HB6 := Az.mk hB6; have hk6 := merge_blk x HT1.out hB6; have hz0 : W6.cell? ⟨w1.heap.size, 0, none⟩ = some (.string x.f0) := blk_cell hk6 0; have hz1 : W6.cell? ⟨w1.heap.size, 1, none⟩ = some (.int .u64 x.f1) := blk_cell hk6 1; have hq0 := blk_frozen hk6 0; have hq1 := blk_frozen hk6 1; clear hT6 hB6 hk6)
         go_roundg d
         case measure => omega
         case rel =>
          obtain ⟨p1, p2, p3, p4, p5⟩ := merge_post x (nextG ls lost).2.2.1 HT1.out HR1.out HT6.out HB6.out HBW.out HW0S.out _ rfl
          refine ⟨(([] : List S41) ++ [x]), _, (nextG ls lost).2.2.1, (nextG ls lost).2.2.2, (nextG ls lost).1, (nextG ls lost).2.1, rfl, rfl, ⟨p1⟩, ⟨p2⟩, ⟨p3⟩, ⟨p4⟩, ⟨HF.out.next⟩, ⟨?_⟩, ⟨p5⟩⟩
          have hm := HM.out
          rw [mergeL, if_pos rfl, if_neg (by simp), if_pos (by simp)] at hm
          exact hm
        ·obtain ⟨m, hm⟩ : ∃ m, out.length = m + 1 := ⟨out.length - 1, by omega⟩
         obtain ⟨g8, cap, hv8, hb8, hlt8, cells8, hc8⟩ := Kd.R_form HR.out (by omega)
         injection hv8 with hA8 _ hcap
         subst hA8 hcap
         obtain ⟨ce, hce, hM8, hcell8, hfz8⟩ := Kd.R_elem HR.out z41 (m : Int) (by omega) (by omega)
         have hel : out.getD (m : Int).toNat z41 = lastE out := by unfold lastE; rw [hm]; rfl
         rw [hel] at hM8
         obtain rfl := k41_openM hM8
         have hs0 : wr.cell? ⟨g8, m * 2, none⟩ = some (.string (lastE out).f0) := hcell8 0 _ rfl
         have hs1 : wr.cell? ⟨g8, m * 2 + 1, none⟩ = some (.int .u64 (lastE out).f1) := hcell8 1 _ rfl
         have hf1 : wr.frozen? ⟨g8, m * 2 + 1, none⟩ = false := hfz8 1
         have hwm : wrap64 ((out.length : Int) - 1) = (m : Int) := by rw [hwj, hj, hm]; omega
         have i1 : (m < out.length) = True := eq_true (by omega)
         have hx0 : wr.cell? ⟨bx, 0, none⟩ = some (.string x.f0) := blk_cell HX.out 0
         have hx1 : wr.cell? ⟨bx, 1, none⟩ = some (.int .u64 x.f1) := blk_cell HX.out 1
         have HMM := Az.mk hm
         have HG8 := Az.mk hb8
         clear hcell8 hfz8 hM8 hel hce hc8 hlt8 hb8 hj hwj hm c4
         by_cases c5 : (lastE out).f0.toList = x.f0.toList
         ·have c5b : ((lastE out).f0.toList == x.f0.toList) = true := beq_iff_eq.mpr c5
          have hm := HM.out
          rw [mergeL, if_pos rfl, if_pos ⟨by have := HMM.out; omega, c5⟩] at hm
          replace hm := Option.bind_eq_some_iff.mp hm
          obtain ⟨⟨s1, s2⟩, hadd, hm⟩ := hm
          dsimp only at hm
          have HADD := Az.mk hadd
          have HM2 := Az.mk hm
          clear c5 hadd hm HM
          cases s2 with
          | false =>
           have hm := HM2.out
           rw [if_neg (by simp)] at hm
           simp only [Option.some.injEq, Prod.mk.injEq] at hm
           obtain ⟨rfl, rfl⟩ := hm
           go_wp2
           go_region
           go_wp2
           go_region_with (first | (go_at_call 27; refine (num_Add.calls _ _ s1 false _ HADD.out).mono ?_; rintro e_ w_ ⟨rfl, ⟨m_, rfl⟩⟩))
           all_goals (go_wp2; go_ret2; exact ⟨_, rfl, Kd.R_nil _ _ _ _ _, pw_below_drewN HB.out _⟩)
          | true =>
           have hm := HM2.out
           rw [if_pos rfl] at hm
           have HM := Az.mk hm
           clear hm HM2
           go_wp2
           go_region
           go_wp2
           go_region_with (first | (go_at_call 27; refine (num_Add.calls _ _ s1 true _ HADD.out).mono ?_; rintro e_ w_ ⟨rfl, ⟨m_, rfl⟩⟩))
           ·generalize 1 + (1 + m_) = nn
            have hs1' : (wr.drewN nn).cell? ⟨g8, m * 2 + 1, none⟩ = some (.int .u64 (lastE out).f1) := hs1
            have hf1' : (wr.drewN nn).frozen? ⟨g8, m * 2 + 1, none⟩ = false := hf1
            have hrd : Kd.R k41 41 (wr.drewN nn) W0.heap.size (fun k => k ≠ bx) (.slice (some ⟨g8, 0, none⟩) out.length c) out := Kd.R_step HR.out (fun _ _ _ => rfl)
            have htd := HT.out.drewN nn
            have hxd : (wr.drewN nn).heap[bx]? = some (.cells #[.string x.f0, .int .u64 x.f1] 41 (0, 0)) := HX.out
            clear hs0 hs1 hf1 hx0 hx1 HX HR HT HB
            generalize wr.drewN nn = W5 at hs1' hf1' hrd htd hxd ⊢
            have HRD := Az.mk hrd
            have HTD := Az.mk htd
            have HXD := Az.mk hxd
            clear hrd htd hxd
            go_upto_region 24 with (fail)
            obtain ⟨ho, ht1, hxw, hb⟩ := merge_put HTD.out HRD.out HXD.out m HMM.out s1
            generalize W5.setCell ⟨g8, m * 2 + 1, none⟩ (.int .u64 s1) = w1 at ho ht1 hxw hb ⊢
            clear hs1' hf1' HRD HTD HXD
            have hbw := below_then HW0B.out HW0S.out hb
            have HT1 := Az.mk ht1
            have HR1 := Az.mk ho
            have HBW := Az.mk hbw
            have hx0 : w1.cell? ⟨bx, 0, none⟩ = some (.string x.f0) := blk_cell hxw 0
            have hx1 : w1.cell? ⟨bx, 1, none⟩ = some (.int .u64 x.f1) := blk_cell hxw 1
            clear hb hbw ht1 ho hxw
            have HTa := Az.mk (merge_after x HT1.out).1
            go_wp2_with (go_at_call 26; refine (loser_tree_next.calls W0 _ g go gl ls lost HTa.out HF.out).mono ?_; rintro e_ W6 ⟨rfl, hT6, hB6⟩; have HT6 := Az.mk hT6; have HB6 := Az.mk hB6; have hk6 := merge_blk x HT1.out hB6; have hz0 : W6.cell? ⟨w1.heap.size, 0, none⟩ = some (.string x.f0) := blk_cell hk6 0; have hz1 : W6.cell? ⟨w1.heap.size, 1, none⟩ = some (.int .u64 x.f1) := blk_cell hk6 1; have hq0 := blk_frozen hk6 0; have hq1 := blk_frozen hk6 1; clear hT6 hB6 hk6)
            go_roundg d
            case measure => omega
            case rel =>
             obtain ⟨p1, p2, p3, p4, p5⟩ := merge_post x (nextG ls lost).2.2.1 HT1.out HR1.out HT6.out HB6.out HBW.out HW0S.out _ rfl
             refine ⟨(out.set (out.length - 1) ⟨(lastE out).f0, s1⟩), _, (nextG ls lost).2.2.1, (nextG ls lost).2.2.2, (nextG ls lost).1, (nextG ls lost).2.1, rfl, rfl, ⟨p1⟩, ⟨p2⟩, ⟨by first | exact p3 | (rw [List.length_append, List.length_singleton] at p3; exact p3)⟩, ⟨p4⟩, ⟨HF.out.next⟩, ⟨?_⟩, ⟨p5⟩⟩
             have hm := HM.out
             exact hm
           ·generalize 1 + (1 + m_) = nn
            have hs1' : (wr.drewN nn).cell? ⟨g8, m * 2 + 1, none⟩ = some (.int .u64 (lastE out).f1) := hs1
            have hf1' : (wr.drewN nn).frozen? ⟨g8, m * 2 + 1, none⟩ = false := hf1
            have hrd : Kd.R k41 41 (wr.drewN nn) W0.heap.size (fun k => k ≠ bx) (.slice (some ⟨g8, 0, none⟩) out.length c) out := Kd.R_step HR.out (fun _ _ _ => rfl)
            have htd := HT.out.drewN nn
            have hxd : (wr.drewN nn).heap[bx]? = some (.cells #[.string x.f0, .int .u64 x.f1] 41 (0, 0)) := HX.out
            clear hs0 hs1 hf1 hx0 hx1 HX HR HT HB
            generalize wr.drewN nn = W5 at hs1' hf1' hrd htd hxd ⊢
            have HRD := Az.mk hrd
            have HTD := Az.mk htd
            have HXD := Az.mk hxd
            clear hrd htd hxd
            go_upto_region 24 with (fail)
            obtain ⟨ho, ht1, hxw, hb⟩ := merge_put HTD.out HRD.out HXD.out m HMM.out s1
            generalize W5.setCell ⟨g8, m * 2 + 1, none⟩ (.int .u64 s1) = w1 at ho ht1 hxw hb ⊢
            clear hs1' hf1' HRD HTD HXD
            have hbw := below_then HW0B.out HW0S.out hb
            have HT1 := Az.mk ht1
            have HR1 := Az.mk ho
            have HBW := Az.mk hbw
            have hx0 : w1.cell? ⟨bx, 0, none⟩ = some (.string x.f0) := blk_cell hxw 0
            have hx1 : w1.cell? ⟨bx, 1, none⟩ = some (.int .u64 x.f1) := blk_cell hxw 1
            clear hb hbw ht1 ho hxw
            have HTa := Az.mk (merge_after x HT1.out).1
            go_wp2_with (go_at_call 26; refine (loser_tree_next.calls W0 _ g go gl ls lost HTa.out HF.out).mono ?_; rintro e_ W6 ⟨rfl, hT6, hB6⟩; have HT6 := Az.mk hT6; have HB6 := Az.mk hB6; have hk6 := merge_blk x HT1.out hB6; have hz0 : W6.cell? ⟨w1.heap.size, 0, none⟩ = some (.string x.f0) := blk_cell hk6 0; have hz1 : W6.cell? ⟨w1.heap.size, 1, none⟩ = some (.int .u64 x.f1) := blk_cell hk6 1; have hq0 := blk_frozen hk6 0; have hq1 := blk_frozen hk6 1; clear hT6 hB6 hk6)
            go_roundg d
            case measure => omega
            case rel =>
             obtain ⟨p1, p2, p3, p4, p5⟩ := merge_post x (nextG ls lost).2.2.1 HT1.out HR1.out HT6.out HB6.out HBW.out HW0S.out _ rfl
             refine ⟨(out.set (out.length - 1) ⟨(lastE out).f0, s1⟩), _, (nextG ls lost).2.2.1, (nextG ls lost).2.2.2, (nextG ls lost).1, (nextG ls lost).2.1, rfl, rfl, ⟨p1⟩, ⟨p2⟩, ⟨by first | exact p3 | (rw [List.length_append, List.length_singleton] at p3; exact p3)⟩, ⟨p4⟩, ⟨HF.out.next⟩, ⟨?_⟩, ⟨p5⟩⟩
             have hm := HM.out
             exact hm
         ·have c5b : ((lastE out).f0.toList == x.f0.toList) = false := beq_eq_false_iff_ne.mpr c5
          have C5 := Az.mk c5
          have hlim : out.length < 5864062014805 := by
           have hm := HM.out
           rw [mergeL, if_pos rfl, if_neg (fun h => c5 h.2)] at hm
           by_cases hl : out.length < 5864062014805
           ·exact hl
           ·rw [if_neg hl] at hm; simp at hm
          have HLIM := Az.mk hlim
          clear c5 hlim
          go_wp2
          go_region
          clear hs0 hs1 hf1 hx0 hx1
          have hrd : Kd.R k41 41 wr.drew W0.heap.size (fun k => k ≠ bx) (.slice (some ⟨g8, 0, none⟩) out.length c) out := Kd.R_step HR.out (fun _ _ _ => rfl)
          have htd : TreeIs W0 wr.drew g go gl ls lost := HT.out.move rfl rfl rfl (HT.out.low.drew)
          have hxd : wr.drew.heap[bx]? = some (.cells #[.string x.f0, .int .u64 x.f1] 41 (0, 0)) := HX.out
          generalize wr.drew = W5 at hrd htd hxd ⊢
          have HRD := Az.mk hrd
          have HTD := Az.mk htd
          have HXD := Az.mk hxd
          have hx0 : W5.cell? ⟨bx, 0, none⟩ = some (.string x.f0) := blk_cell hxd 0
          have hx1 : W5.cell? ⟨bx, 1, none⟩ = some (.int .u64 x.f1) := blk_cell hxd 1
          clear hrd htd hxd
          clear HR HT HX HB
          go_wp2_with ((with_reducible refine gate_builtin (b := .append) (xs := #[.tmp 78, .tmp 80]) rfl ?_); at_builtin; refine Kd.R_append k41 (w0 := W0) W0.heap.size rfl (.tmp 78) (.tmp 80) 36 41 (.agg #[.string ⟨#[]⟩, .int .u64 0]) 24 rfl Try.underlying36 info41 rfl (by decide) (by omega) (.slice (some ⟨g8, 0, none⟩) out.length c) out x [.string x.f0, .int .u64 x.f1] (fun k => k ≠ bx) (fun _ => False) rfl rfl ?aP (fun _ hk => hk.elim) ?aF ?aO ?aB ?aS ?aL ?_)
          case aP => exact k41_mkM _ _ _ x
          case aF => intro k hk e; have := blk_lt HXD.out; omega
          case aO => exact HRD.out
          case aB => exact HTD.out.low
          case aS => exact HTD.out.low.size
          case aL => have := HLIM.out; omega
          intro v1 w1 ho hb hg hat
          obtain ⟨ht1, hxw⟩ := grown_tree HTD.out HRD.out hg hb HXD.out
          clear hg hat HRD HTD HXD hx0 hx1
          have hbw := below_then HW0B.out HW0S.out hb
          obtain ⟨A1, c1, rfl⟩ := Kd.R_slice ho
          have HT1 := Az.mk ht1
          have HR1 := Az.mk ho
          have HBW := Az.mk hbw
          have hx0 : w1.cell? ⟨bx, 0, none⟩ = some (.string x.f0) := blk_cell hxw 0
          have hx1 : w1.cell? ⟨bx, 1, none⟩ = some (.int .u64 x.f1) := blk_cell hxw 1
          clear hb hbw ht1 ho hxw
          have HTa := Az.mk (merge_after x HT1.out).1
          go_wp2_with (go_at_call 26; refine (loser_tree_next.calls W0 _ g go gl ls lost HTa.out HF.out).mono ?_; rintro e_ W6 ⟨rfl, hT6, hB6⟩; have HT6 := Az.mk hT6; have HB6 := Az.mk hB6; have hk6 := merge_blk x HT1.out hB6; have hz0 : W6.cell? ⟨w1.heap.size, 0, none⟩ = some (.string x.f0) := blk_cell hk6 0; have hz1 : W6.cell? ⟨w1.heap.size, 1, none⟩ = some (.int .u64 x.f1) := blk_cell hk6 1; have hq0 := blk_frozen hk6 0; have hq1 := blk_frozen hk6 1; clear hT6 hB6 hk6)
          go_roundg d
          case measure => omega
          case rel =>
           obtain ⟨p1, p2, p3, p4, p5⟩ := merge_post x (nextG ls lost).2.2.1 HT1.out HR1.out HT6.out HB6.out HBW.out HW0S.out _ rfl
           refine ⟨(out ++ [x]), _, (nextG ls lost).2.2.1, (nextG ls lost).2.2.2, (nextG ls lost).1, (nextG ls lost).2.1, rfl, rfl, ⟨p1⟩, ⟨p2⟩, ⟨by first | exact p3 | (rw [List.length_append, List.length_singleton] at p3; exact p3)⟩, ⟨p4⟩, ⟨HF.out.next⟩, ⟨?_⟩, ⟨p5⟩⟩
           have hm := HM.out
           rw [mergeL, if_pos rfl, if_neg (fun h => C5.out h.2), if_pos HLIM.out] at hm
           exact hm
   | succ k1 =>
    have hil : i < l0.length := by have := HI.out; omega
    have i1 : (i < l0.length) = True := eq_true hil
    obtain ⟨ad, A, c, e0, hx, hl, hC⟩ := atLL HR0.out i (by omega) (by omega)
    rw [Int.toNat_natCast] at hx
    have hx := pw_cell_below HB.out hx
    have hm := HM'.out
    have ex : rdLL l0 i = l0[i] := by
     unfold rdLL
     rw [Int.toNat_natCast, List.getD_eq_getElem?_getD, List.getElem?_eq_getElem hil]
     rfl
    rw [List.drop_eq_getElem_cons hil, mays, ← ex] at hm
    replace hm := Option.bind_eq_some_iff.mp hm
    obtain ⟨e1, hm1, hm2⟩ := hm
    have HC := Az.mk hC
    have HL := Az.mk hl
    have HM1 := Az.mk hm1
    have HM2 := Az.mk hm2
    have hw2 : wrap64 ((i : Int) + 1) = ((i + 1 : Nat) : Int) := by have := HN.out; unfold wrap64; omega
    have HW := Az.mk hw2
    clear hC hl hm1 hm2 ex HM HM' hil hw2
    subst e0
    by_cases c2 : e1 = 0
    ·have c2b : (e1 != 0) = false := bne_eq_false_iff_eq.mpr c2
     have HE := Az.mk c2
     clear c2
     go_wp2_with (go_at_call 24; refine (run_May.calls k A c (rdLL l0 i) e1 _ (Kd.C_below HC.out HB.out) HL.out HM1.out).mono ?_; rintro e_ w1 ⟨rfl, hb⟩; have HB1 := Az.mk (below_step HB.out hb); clear hb)
     go_roundg k1
     case measure => omega
     case rel => exact ⟨i + 1, by rw [HW.out], ⟨by have := HI.out; omega⟩, ⟨by have := HM2.out; rwa [if_pos HE.out] at this⟩, HB1⟩
    ·have c2b : (e1 != 0) = true := bne_iff_ne.mpr c2
     have HE := Az.mk c2
     clear c2
     go_wp2_with (go_at_call 24; refine (run_May.calls k A c (rdLL l0 i) e1 _ (Kd.C_below HC.out HB.out) HL.out HM1.out).mono ?_; rintro e_ w1 ⟨rfl, hb⟩; have HB1 := Az.mk (below_step HB.out hb); clear hb)
     go_ret2
     have he : e1 = e := by have := HM2.out; rw [if_neg HE.out] at this; exact Option.some.inj this
     subst he
     have h := H.out
     rw [if_neg HE.out] at h
     simp only [Option.some.injEq, Prod.mk.injEq] at h
     obtain ⟨rfl, rfl⟩ := h
     exact ⟨_, rfl, Kd.R_nil _ _ _ _ _, HB1.out⟩
end Go.Proofs.Ytiohnpphhepdfaa.PPa
end
section
namespace Go.Proofs.Ytiohnpphhepdfaa.PPa
open Go.RowKit Go.Proofs.YtiohnpphhepdfaaW.PrintWords Go.Proofs.YtiohnpphhepdfaaW.PrintLast Go.Proofs.YtiohnpphhepdfaaW.PrintMore
attribute [local go_sem] max2_int min2_int max_two min_two max_three min_three max_four min_four
attribute [local go_sem] Go.Proofs.Ytiohnpphhepdfaa.MoreWords.str_leq Go.Proofs.Ytiohnpphhepdfaa.MoreWords.str_gtr Go.Proofs.Ytiohnpphhepdfaa.MoreWords.str_geq
set_option linter.unusedVariables false
set_option linter.unusedSimpArgs false
theorem eqA41 (d : Nat) (w : World) (x0 y0 : ByteArray) (x1 y1 : Int) :
  (Op.equalIn (d + 2) 41 (.agg #[.string x0, .int .u64 x1]) (.agg #[.string y0, .int .u64 y1])).run Try.prog w = .ok (x0.toList == y0.toList && (x1 == y1)) w := by
 refine eqA_of Try.underlying41 (by kernel_rfl) ?_
 refine eqf_cons (by rfl) (by go_simp; rfl) (by go_simp; rfl) (by go_simp) ?_
 exact eqf_last (by rfl) (by go_simp; rfl) (by go_simp; rfl) (by go_simp)
end Go.Proofs.Ytiohnpphhepdfaa.PPa
end
section
namespace Go.Proofs.Ytiohnpphhepdfaa.PPa
open Go.RowKit Go.Proofs.YtiohnpphhepdfaaW.PrintWords Go.Proofs.YtiohnpphhepdfaaW.PrintLast Go.Proofs.YtiohnpphhepdfaaW.PrintMore
attribute [local go_sem] max2_int min2_int max_two min_two max_three min_three max_four min_four
attribute [local go_sem] Go.Proofs.Ytiohnpphhepdfaa.MoreWords.str_leq Go.Proofs.Ytiohnpphhepdfaa.MoreWords.str_gtr Go.Proofs.Ytiohnpphhepdfaa.MoreWords.str_geq
set_option maxHeartbeats 8000000
set_option maxRecDepth 100000
set_option linter.unusedVariables false
set_option linter.unusedSimpArgs false
attribute [local go_sem high] eqA41
def r08_Same.l0 : Nat → List (S41) → List (S41) → Int → Option (Bool)
 | 0, _, _, _ => none
 | k + 1, x0, x1, x5 => if x5 < (x0.length : Int) then (if 0 ≤ x5 then (if x5 < (x1.length : Int) then (if (!((((rd_T41 x0 x5).f0).toList) == (((rd_T41 x1 x5).f0).toList)) || (!(((rd_T41 x0 x5).f1) == ((rd_T41 x1 x5).f1)))) = true then (some false) else (r08_Same.l0 k x0 x1 (wrap64 (x5 + 1)))) else (none)) else (none)) else (some true)
def r08_Same.f (k : Nat) (l0 : List (S41)) (l1 : List (S41)) : Option (Bool) := if (l0.length : Int) = (l1.length : Int) then (r08_Same.l0 k l0 l1 0) else (some false)
def l11_shown.f (k : Nat)  : Option (Bool) := (loser_Merge.f k (([(([(⟨(⟨#[97]⟩ : ByteArray), 1⟩ : S41), (⟨(⟨#[98]⟩ : ByteArray), 2⟩ : S41)] : List (S41))), (([(⟨(⟨#[98]⟩ : ByteArray), 3⟩ : S41)] : List (S41)))] : List (List (S41))))).bind fun bt121 => (if bt121.2 = 0 then ((r08_Same.f k bt121.1 (([(⟨(⟨#[97]⟩ : ByteArray), 1⟩ : S41), (⟨(⟨#[98]⟩ : ByteArray), 5⟩ : S41)] : List (S41)))).bind fun t128 => (some t128)) else (none))
def num_Put.l0 : Nat → Int → List Int → Option (List Int)
 | 0, _, _ => none
 | k + 1, x1, x5 => if x1 ≥ 128 then (if x5.length < 140737488355328 then (num_Put.l0 k (x1 / 128) (x5 ++ [Go.bits .or .u8 ((x1) % 256) 128])) else (none)) else (if x5.length < 140737488355328 then (some (x5 ++ [(x1) % 256])) else (none))
def num_Put.f (k : Nat) (l0 : List Int) (a1 : Int) : Option (List Int) := (some (([] : List Int) : List Int)).bind fun y129 => (if y129.length + l0.length < 140737488355328 then (num_Put.l0 k a1 (y129 ++ l0)) else (none))
theorem num_Put.mono_l : ∀ k, (∀ y0 y1, LeO (num_Put.l0 k y0 y1) (num_Put.l0 (k + 1) y0 y1))
 | 0 => fun _ _ r h => by simp [num_Put.l0] at h
 | k + 1 => by
  have ih0 := num_Put.mono_l k
  ·intro y0 y1
   unfold num_Put.l0
   repeat' first
   | (with_reducible exact ih0 _ _)
   | (with_reducible exact LeO.refl _)
   | (with_reducible exact LeO.none _)
   | (with_reducible refine LeO.ite ?_ ?_)
   | (with_reducible refine LeO.bind ?_ (fun _ => ?_))
   | exact ih0 _ _
   | exact LeO.none _
   | refine LeO.ite ?_ ?_
   | refine LeO.bind ?_ (fun _ => ?_)
theorem num_Put.mono : ∀ a0 a1 k, LeO (num_Put.f k a0 a1) (num_Put.f (k + 1) a0 a1) := by
 intro a0 a1 k
 have ih0 := num_Put.mono_l k
 unfold num_Put.f
 repeat' first
   | (with_reducible exact ih0 _ _)
   | (with_reducible exact LeO.refl _)
   | (with_reducible exact LeO.none _)
   | (with_reducible refine LeO.ite ?_ ?_)
   | (with_reducible refine LeO.bind ?_ (fun _ => ?_))
   | exact ih0 _ _
   | exact LeO.none _
   | refine LeO.ite ?_ ?_
   | refine LeO.bind ?_ (fun _ => ?_)
theorem num_Put.calls (k : Nat) (A0 : Option Addr) (c0 : Nat) (l0 : List Int) (a1 : Int) (r : List Int) (w : World) (hr0 : Kd.C (Kd.int .u8) w A0 l0.length l0) (hc0 : l0.length ≤ c0) (h : num_Put.f k l0 a1 = some r) :
  Calls Try.prog 30 #[.slice A0 l0.length c0, .int .u64 a1] w fun e w' => ∃ v0_ : Value, e = .returned (v0_) ∧ Kd.R (Kd.int .u8) 5 w' w.heap.size (fun _ => True) v0_ r ∧ Below w.heap.size w w' := by
 have HR0 := Az.mk hr0
 have HC0 := Az.mk hc0
 clear hr0 hc0
 have HB := Az.mk (Below.refl w.heap.size w)
 have H : ((some (([] : List Int) : List Int)).bind fun y129 => (if y129.length + l0.length < 140737488355328 then (num_Put.l0 k a1 (y129 ++ l0)) else (none))) = some r := h
 clear h
 obtain ⟨y129, hy129⟩ : ∃ y_ : List Int, y_ = (([] : List Int)) := ⟨_, rfl⟩
 replace H : (if y129.length + l0.length < 140737488355328 then (num_Put.l0 k a1 (y129 ++ l0)) else (none)) = some r := hr_ hy129 H
 have Ny129 := Az.mk hy129
 clear hy129
 by_cases c3 : y129.length + l0.length < 140737488355328
 ·rw [if_pos c3] at H
  have LMc3 := Az.mk c3
  clear c3
  obtain ⟨y132, hy132⟩ : ∃ y_ : List Int, y_ = (y129 ++ l0) := ⟨_, rfl⟩
  replace H : (num_Put.l0 k a1 y132) = some r := hr_ hy132 H
  have Ny132 := Az.mk hy132
  clear hy132
  have H' := Az.mk H
  clear H
  go_enter Try.func30, Try.ntmps30
  go_wp2_with (first | ((with_reducible refine gate_dst (N := 6) rfl ?_); refine Kd.R_lit (Kd.int .u8) _ 5 ?hg (N := 6) ?hd (xs := ([] : List Int)) (inner := []) (ok := fun _ => True) (okp := fun _ => True) ?hr ?hp (fun _ hk => hk) trivial (Below.refl _ _) (Nat.le_refl _) (by simp) ?_; (case hd => rfl); (case hg => rfl); (case hr => first | (go_simp; done) | (go_simp; rfl)); (case hp => exact (Reps.none _ _)); intro v130 w4 ho5 hb hg_ hnew_; clear hg_ hnew_; (first | rw [← Ny129.out] at ho5 | (simp only [Int.reduceToNat] at ho5; rw [← Ny129.out] at ho5)); have n0_ := Az.mk (Kd.R_lower ho5 (below_size (bl_ HB))); have n1_ := Az.mk (below_step (bl_ HB) hb); clear HB; have HO131 := n0_; have HB := n1_; clear n0_ n1_; clear hb ho5) | ((with_reducible refine gate_builtin (b := .append) (xs := #[.tmp 6, .tmp 7]) rfl ?_); at_builtin; refine Kd.R_append_rows (Kd.int .u8) (w0 := w) w.heap.size rfl (.tmp 6) (.tmp 7) 24 5 (.int .u8 0) 1 rfl Try.underlying24 info5 rfl (by decide) (by omega) v130 y129 l0 _ _ _ (fun _ => True) (fun _ => False) rfl rfl ?aO ?aR (fun _ _ h => h) (fun _ h => h.elim) ?aF ?aB ?aS ?aL ?_; (case aR => exact cl_ (Kd.C_below HR0.out HB.out)); (case aB => exact (bl_ HB)); (case aF => exact (fun _ _ => trivial)); (case aO => exact (rl_ HO131.out)); (case aS => exact (below_size (bl_ HB))); (case aL => have := LMc3.out; omega); intro v133 w6 ho hb hg hat; rw [← Ny132.out] at ho; have n0_ := Az.mk (hb); have n1_ := Az.mk (ho); clear HB; clear HO131; have HB := n0_; have HO134 := n1_; clear n0_ n1_; clear ho hb hg hat))
  go_loopg [1, 5] k (fun kq v1 v5 w' => ∃ (x1_1 : Int) (x5_1 : List Int), v1 = .int .u64 x1_1 ∧ Az (num_Put.l0 kq x1_1 x5_1 = some r) ∧ Az (kq ≤ k) ∧ Az (Kd.R (Kd.int .u8) 5 w' w.heap.size (fun _ => True) v5 x5_1) ∧ Az (Below w.heap.size w w'))
  case atStart => exact ⟨(a1), (y132), (es_), H', ⟨Nat.le_refl _⟩, ⟨rl_ HO134.out⟩, ⟨bl_ HB⟩⟩
  case round =>
   clear H'
   try clear p2
   try clear c3
   obtain ⟨x1_1, x5_1, rfl, HA, HK1, HO_5, HB⟩ := hrel
   cases gk with
   | zero => exact absurd HA.out (by simp [num_Put.l0])
   | succ k1 =>
    have H := HA.out
    clear HA
    simp only [num_Put.l0] at H
    by_cases c7 : x1_1 ≥ 128
    ·rw [if_pos c7] at H
     have c7b0 := decide_eq_true c7
     clear c7
     by_cases c8 : x5_1.length < 140737488355328
     ·rw [if_pos c8] at H
      have LMc8 := Az.mk c8
      clear c8
      obtain ⟨y135, hy135⟩ : ∃ y_ : List Int, y_ = (x5_1 ++ [Go.bits .or .u8 ((x1_1) % 256) 128]) := ⟨_, rfl⟩
      replace H : (num_Put.l0 k1 (x1_1 / 128) y135) = some r := hr_ hy135 H
      have Ny135 := Az.mk hy135
      clear hy135
      have H' := Az.mk H
      clear H
      go_wp2_with (first | ((with_reducible refine gate_builtin (b := .append) (xs := #[.tmp 11, .tmp 15]) rfl ?_); at_builtin; refine Kd.R_append (Kd.int .u8) (w0 := w) w.heap.size rfl (.tmp 11) (.tmp 15) 24 5 (.int .u8 0) 1 rfl Try.underlying24 info5 rfl (by decide) (by omega) u5 x5_1 (Go.bits .or .u8 ((x1_1) % 256) 128) [.int .u8 (Go.bits .or .u8 ((x1_1) % 256) 128)] (fun _ => True) (fun _ => False) rfl rfl ?aP (fun _ hk => hk.elim) ?aF ?aO ?aB ?aS ?aL ?_; (case aP => exact rfl); (case aB => exact (bl_ HB)); (case aF => exact (fun _ _ => trivial)); (case aO => exact (rl_ HO_5.out)); (case aS => exact (below_size (bl_ HB))); (case aL => have := LMc8.out; omega); intro v136 w9 ho hb hg hat; rw [← Ny135.out] at ho; have n0_ := Az.mk (hb); have n1_ := Az.mk (ho); clear HB; clear HO_5; have HB := n0_; have HO137 := n1_; clear n0_ n1_; clear ho hb hg hat))
      go_roundg k1
      case measure => have := HK1.out; omega
      case rel => exact ⟨(x1_1 / 128), (y135), (es_), H', ⟨by have := HK1.out; omega⟩, ⟨rl_ HO137.out⟩, ⟨bl_ HB⟩⟩
     ·rw [if_neg c8] at H
      exact absurd H (by simp)
    ·rw [if_neg c7] at H
     have c7b0 := decide_eq_false c7
     clear c7
     by_cases c10 : x5_1.length < 140737488355328
     ·rw [if_pos c10] at H
      have LMc10 := Az.mk c10
      clear c10
      obtain ⟨y138, hy138⟩ : ∃ y_ : List Int, y_ = (x5_1 ++ [(x1_1) % 256]) := ⟨_, rfl⟩
      replace H : (some y138) = some r := hr_ hy138 H
      have Ny138 := Az.mk hy138
      clear hy138
      obtain rfl := Option.some.inj H
      go_wp2_with (first | ((with_reducible refine gate_builtin (b := .append) (xs := #[.tmp 19, .tmp 22]) rfl ?_); at_builtin; refine Kd.R_append (Kd.int .u8) (w0 := w) w.heap.size rfl (.tmp 19) (.tmp 22) 24 5 (.int .u8 0) 1 rfl Try.underlying24 info5 rfl (by decide) (by omega) u5 x5_1 ((x1_1) % 256) [.int .u8 ((x1_1) % 256)] (fun _ => True) (fun _ => False) rfl rfl ?aP (fun _ hk => hk.elim) ?aF ?aO ?aB ?aS ?aL ?_; (case aP => exact rfl); (case aB => exact (bl_ HB)); (case aF => exact (fun _ _ => trivial)); (case aO => exact (rl_ HO_5.out)); (case aS => exact (below_size (bl_ HB))); (case aL => have := LMc10.out; omega); intro v139 w11 ho hb hg hat; rw [← Ny138.out] at ho; have n0_ := Az.mk (hb); have n1_ := Az.mk (ho); clear HB; clear HO_5; have HB := n0_; have HO140 := n1_; clear n0_ n1_; clear ho hb hg hat))
      go_ret
      exact ⟨_, er_, by (with_reducible repeat (first | apply Kd.R_alloc | apply Kd.R_drewN | apply Kd.R_drew)); exact HO140.out, bl_ HB⟩
     ·rw [if_neg c10] at H
      exact absurd H (by simp)
 ·rw [if_neg c3] at H
  exact absurd H (by simp)
def run_shared.l0 : Nat → ByteArray → ByteArray → Int → Option (Int)
 | 0, _, _, _ => none
 | k + 1, x0, x1, x5 => if x5 < (mn (x0.size : Int) (x1.size : Int)) then (if 0 ≤ x5 then (if x5 < (x0.size : Int) then (if x5 < (x1.size : Int) then (if (bt x0 x5) = (bt x1 x5) then (run_shared.l0 k x0 x1 (wrap64 (x5 + 1))) else (some x5)) else (none)) else (none)) else (none)) else (some x5)
def run_shared.f (k : Nat) (a0 : ByteArray) (a1 : ByteArray) : Option (Int) := run_shared.l0 k a0 a1 0
theorem run_shared.mono_l : ∀ k, (∀ y0 y1 y2, LeO (run_shared.l0 k y0 y1 y2) (run_shared.l0 (k + 1) y0 y1 y2))
 | 0 => fun _ _ _ r h => by simp [run_shared.l0] at h
 | k + 1 => by
  have ih0 := run_shared.mono_l k
  ·intro y0 y1 y2
   unfold run_shared.l0
   repeat' first
   | (with_reducible exact ih0 _ _ _)
   | (with_reducible exact LeO.refl _)
   | (with_reducible exact LeO.none _)
   | (with_reducible refine LeO.ite ?_ ?_)
   | (with_reducible refine LeO.bind ?_ (fun _ => ?_))
   | exact ih0 _ _ _
   | exact LeO.none _
   | refine LeO.ite ?_ ?_
   | refine LeO.bind ?_ (fun _ => ?_)
theorem run_shared.mono : ∀ a0 a1 k, LeO (run_shared.f k a0 a1) (run_shared.f (k + 1) a0 a1) := by
 intro a0 a1 k
 have ih0 := run_shared.mono_l k
 unfold run_shared.f
 repeat' first
   | (with_reducible exact ih0 _ _ _)
   | (with_reducible exact LeO.refl _)
   | (with_reducible exact LeO.none _)
   | (with_reducible refine LeO.ite ?_ ?_)
   | (with_reducible refine LeO.bind ?_ (fun _ => ?_))
   | exact ih0 _ _ _
   | exact LeO.none _
   | refine LeO.ite ?_ ?_
   | refine LeO.bind ?_ (fun _ => ?_)
theorem run_shared.calls (k : Nat) (a0 : ByteArray) (a1 : ByteArray) (r : Int) (w : World) (h : run_shared.f k a0 a1 = some r) :
  Calls Try.prog 50 #[.string a0, .string a1] w fun e w' => e = .returned (.int .i64 r) ∧ Below w.heap.size w w' := by
 have HB := Az.mk (Below.refl w.heap.size w)
 have H : (run_shared.l0 k a0 a1 0) = some r := h
 clear h
 have H' := Az.mk H
 clear H
 go_enter Try.func50, Try.ntmps50
 go_wp2
 repeat (go_quiet (fail); try go_wp2)
 go_loopg [5] k (fun kq v5 w' => ∃ (x5_1 : Int), v5 = .int .i64 x5_1 ∧ Az (run_shared.l0 kq a0 a1 x5_1 = some r) ∧ Az (kq ≤ k) ∧ Az (Below w.heap.size w w'))
 case atStart => exact ⟨(0), (es_), H', ⟨Nat.le_refl _⟩, ⟨bl_ HB⟩⟩
 case round =>
  clear H'
  try clear p2
  obtain ⟨x5_1, rfl, HA, HK1, HB⟩ := hrel
  cases gk with
  | zero => exact absurd HA.out (by simp [run_shared.l0])
  | succ k1 =>
   have H := HA.out
   clear HA
   simp only [run_shared.l0] at H
   obtain ⟨ji3, hji3⟩ : ∃ j_ : Int, (mn (a0.size : Int) (a1.size : Int)) = j_ := ⟨_, rfl⟩
   replace H : (if x5_1 < (ji3) then (if 0 ≤ x5_1 then (if x5_1 < (a0.size : Int) then (if x5_1 < (a1.size : Int) then (if (bt a0 x5_1) = (bt a1 x5_1) then (run_shared.l0 k1 a0 a1 (wrap64 (x5_1 + 1))) else (some x5_1)) else (none)) else (none)) else (none)) else (some x5_1)) = some r := by first | (rw [hji3] at H; exact H) | (simp only [hji3] at H ⊢; exact H)
   have hji3_ : (if (a1.size : Int) < (a0.size : Int) then (a1.size : Int) else (a0.size : Int)) = ji3 := hji3
   have hji3_n : (if a1.size < a0.size then (a1.size : Int) else (a0.size : Int)) = ji3 := by rw [← hji3_]; simp only [Int.ofNat_lt]
   by_cases c4 : x5_1 < (ji3)
   ·rw [if_pos c4] at H
    have c4b0 := decide_eq_true c4
    clear c4
    by_cases c5 : 0 ≤ x5_1
    ·rw [if_pos c5] at H
     have c5b0 := decide_eq_true c5
     clear c5
     by_cases c6 : x5_1 < (a0.size : Int)
     ·rw [if_pos c6] at H
      have c6b0 := decide_eq_true c6
      clear c6
      by_cases c8 : x5_1 < (a1.size : Int)
      ·rw [if_pos c8] at H
       have c8b0 := decide_eq_true c8
       clear c8
       by_cases c10 : (bt a0 x5_1) = (bt a1 x5_1)
       ·rw [if_pos c10] at H
        have c10b0 : ((bt a0 x5_1) == (bt a1 x5_1)) = true := beq_iff_eq.mpr c10
        have c10b1 : ((bt a0 x5_1) != (bt a1 x5_1)) = false := bne_eq_false_iff_eq.mpr c10
        clear c10
        have H' := Az.mk H
        clear H
        have p7 : 0 ≤ (x5_1 : Int) := of_decide_eq_true as_
        have q7 : x5_1 < (a0.size : Int) := of_decide_eq_true as_
        have hx7 := bt_at a0 x5_1
        replace p7 := eq_true p7
        replace q7 := eq_true q7
        have p9 : 0 ≤ (x5_1 : Int) := of_decide_eq_true as_
        have q9 : x5_1 < (a1.size : Int) := of_decide_eq_true as_
        have hx9 := bt_at a1 x5_1
        replace p9 := eq_true p9
        replace q9 := eq_true q9
        go_wp2
        repeat (go_quiet (fail); try go_wp2)
        go_roundg k1
        case measure => have := HK1.out; omega
        case rel => exact ⟨(wrap64 (x5_1 + 1)), (es_), H', ⟨by have := HK1.out; omega⟩, ⟨bl_ HB⟩⟩
       ·rw [if_neg c10] at H
        have c10b0 : ((bt a0 x5_1) == (bt a1 x5_1)) = false := beq_eq_false_iff_ne.mpr c10
        have c10b1 : ((bt a0 x5_1) != (bt a1 x5_1)) = true := bne_iff_ne.mpr c10
        obtain rfl := Option.some.inj H
        have p7 : 0 ≤ (x5_1 : Int) := of_decide_eq_true as_
        have q7 : x5_1 < (a0.size : Int) := of_decide_eq_true as_
        have hx7 := bt_at a0 x5_1
        replace p7 := eq_true p7
        replace q7 := eq_true q7
        have p9 : 0 ≤ (x5_1 : Int) := of_decide_eq_true as_
        have q9 : x5_1 < (a1.size : Int) := of_decide_eq_true as_
        have hx9 := bt_at a1 x5_1
        replace p9 := eq_true p9
        replace q9 := eq_true q9
        go_wp2
        repeat (go_quiet (fail); try go_wp2)
        go_ret
        exact ⟨by first | rfl | (simp [errW_none, errW_some] <;> rfl) | (simp only [← hji3]; first | rfl | (simp [errW_none, errW_some] <;> rfl)) | (simp [*, errW_none, errW_some] <;> rfl), bl_ HB⟩
      ·rw [if_neg c8] at H
       exact absurd H (by simp)
     ·rw [if_neg c6] at H
      exact absurd H (by simp)
    ·rw [if_neg c5] at H
     exact absurd H (by simp)
   ·rw [if_neg c4] at H
    have c4b0 := decide_eq_false c4
    clear c4
    obtain rfl := Option.some.inj H
    go_wp2
    repeat (go_quiet (fail); try go_wp2)
    go_ret
    exact ⟨by first | rfl | (simp [errW_none, errW_some] <;> rfl) | (simp only [← hji3]; first | rfl | (simp [errW_none, errW_some] <;> rfl)) | (simp [*, errW_none, errW_some] <;> rfl), bl_ HB⟩
def run_block.l0 : Nat → List Int → ByteArray → List (S41) → Int → Int → Option (List Int)
 | 0, _, _, _, _, _ => none
 | k + 1, x3, x4, x12, x13, x14 => if x14 < x13 then (if 0 ≤ x14 then (if x14 < (x12.length : Int) then ((run_shared.f k x4 ((rd_T41 x12 x14).f0)).bind fun t146 => ((num_Put.f k x3 (IntKind.u64.wrap (t146))).bind fun t147 => ((num_Put.f k t147 (IntKind.u64.wrap (wrap64 ((((rd_T41 x12 x14).f0).size : Int) - t146)))).bind fun t150 => (if 0 ≤ t146 then (if t146 ≤ (((rd_T41 x12 x14).f0).size : Int) then (if t150.length + (((rd_T41 x12 x14).f0).extract (t146 : Int).toNat ((rd_T41 x12 x14).f0).size).size < 140737488355328 then ((num_Put.f k (t150 ++ bytesOf (((rd_T41 x12 x14).f0).extract (t146 : Int).toNat ((rd_T41 x12 x14).f0).size)) ((rd_T41 x12 x14).f1)).bind fun t156 => (run_block.l0 k t156 ((rd_T41 x12 x14).f0) x12 x13 (wrap64 (x14 + 1)))) else (none)) else (none)) else (none))))) else (none)) else (none)) else (some x3)
def run_block.f (k : Nat) (l0 : List (S41)) : Option (List Int) := (num_Put.f k ([] : List Int) (IntKind.u64.wrap ((l0.length : Int)))).bind fun t141 => (run_block.l0 k t141 (⟨#[]⟩ : ByteArray) l0 (l0.length : Int) 0)
theorem run_block.mono_l : ∀ k, (∀ y0 y1 y2 y3 y4, LeO (run_block.l0 k y0 y1 y2 y3 y4) (run_block.l0 (k + 1) y0 y1 y2 y3 y4))
 | 0 => fun _ _ _ _ _ r h => by simp [run_block.l0] at h
 | k + 1 => by
  have ih0 := run_block.mono_l k
  ·intro y0 y1 y2 y3 y4
   unfold run_block.l0
   repeat' first
   | (with_reducible exact ih0 _ _ _ _ _)
   | (with_reducible exact num_Put.mono _ _ _)
   | (with_reducible exact run_shared.mono _ _ _)
   | (with_reducible exact LeO.refl _)
   | (with_reducible exact LeO.none _)
   | (with_reducible refine LeO.ite ?_ ?_)
   | (with_reducible refine LeO.bind ?_ (fun _ => ?_))
   | exact ih0 _ _ _ _ _
   | exact num_Put.mono _ _ _
   | exact run_shared.mono _ _ _
   | exact LeO.none _
   | refine LeO.ite ?_ ?_
   | refine LeO.bind ?_ (fun _ => ?_)
theorem run_block.mono : ∀ a0 k, LeO (run_block.f k a0) (run_block.f (k + 1) a0) := by
 intro a0 k
 have ih0 := run_block.mono_l k
 unfold run_block.f
 repeat' first
   | (with_reducible exact ih0 _ _ _ _ _)
   | (with_reducible exact num_Put.mono _ _ _)
   | (with_reducible exact run_shared.mono _ _ _)
   | (with_reducible exact LeO.refl _)
   | (with_reducible exact LeO.none _)
   | (with_reducible refine LeO.ite ?_ ?_)
   | (with_reducible refine LeO.bind ?_ (fun _ => ?_))
   | exact ih0 _ _ _ _ _
   | exact num_Put.mono _ _ _
   | exact run_shared.mono _ _ _
   | exact LeO.none _
   | refine LeO.ite ?_ ?_
   | refine LeO.bind ?_ (fun _ => ?_)
theorem run_block.calls (k : Nat) (A0 : Option Addr) (c0 : Nat) (l0 : List (S41)) (r : List Int) (w : World) (hr0 : Kd.C k41 w A0 l0.length l0) (hc0 : l0.length ≤ c0) (h : run_block.f k l0 = some r) :
  Calls Try.prog 32 #[.slice A0 l0.length c0] w fun e w' => ∃ v0_ : Value, e = .returned (v0_) ∧ Kd.R (Kd.int .u8) 5 w' w.heap.size (fun _ => True) v0_ r ∧ Below w.heap.size w w' := by
 have hu41 := Try.underlying41
 have HR0 := Az.mk hr0
 have HC0 := Az.mk hc0
 clear hr0 hc0
 have HB := Az.mk (Below.refl w.heap.size w)
 have H : ((num_Put.f k ([] : List Int) (IntKind.u64.wrap ((l0.length : Int)))).bind fun t141 => (run_block.l0 k t141 (⟨#[]⟩ : ByteArray) l0 (l0.length : Int) 0)) = some r := h
 clear h
 replace H := Option.bind_eq_some_iff.mp H
 obtain ⟨t141, A20, H⟩ := H
 replace H : (run_block.l0 k t141 (⟨#[]⟩ : ByteArray) l0 (l0.length : Int) 0) = some r := H
 have A2 := Az.mk A20
 clear A20
 have H' := Az.mk H
 clear H
 go_enter Try.func32, Try.ntmps32
 go_wp2_with (first | ((with_reducible refine gate_callee (f := 30) rfl ?_); refine goesL_ (some 11) rfl rfl Try.func30 (by kernel_rfl) rfl #[.slice none 0 0, .int .u64 (IntKind.u64.wrap ((l0.length : Int)))] rfl ar_ ?_; (refine (num_Put.calls k _ _ ([] : List Int) (IntKind.u64.wrap ((l0.length : Int))) t141 _ ?side1 ?side2 A2.out).mono ?_); (case side1 => exact Kd.C_nil _ _); (case side2 => exact Nat.le_refl _); rintro e w3 ⟨v142, rfl, ho0, hb⟩; refine ⟨_, rfl, ?_⟩; have n0_ := Az.mk (Kd.R_lower ho0 (below_size (bl_ HB))); have n1_ := Az.mk (below_step (bl_ HB) hb); clear HB; have HO143 := n0_; have HB := n1_; clear n0_ n1_; (try clear hb); (try clear hb2); (try clear hk); (try clear hi); (try clear ho0)))
 go_loopg [3, 4, 14] k (fun kq v3 v4 v14 w' => ∃ (x3_1 : List Int) (x4_1 : ByteArray) (x14_1 : Int), v4 = .string x4_1 ∧ v14 = .int .i64 x14_1 ∧ Az (run_block.l0 kq x3_1 x4_1 l0 (l0.length : Int) x14_1 = some r) ∧ Az (kq ≤ k) ∧ Az (Kd.R (Kd.int .u8) 5 w' w.heap.size (fun _ => True) v3 x3_1) ∧ Az (Below w.heap.size w w'))
 case atStart => exact ⟨(t141), ((⟨#[]⟩ : ByteArray)), (0), (es_), (es_), H', ⟨Nat.le_refl _⟩, ⟨rl_ HO143.out⟩, ⟨bl_ HB⟩⟩
 case round =>
  clear H'
  try clear p2
  try clear c3
  obtain ⟨x3_1, x4_1, x14_1, rfl, rfl, HA, HK1, HO_3, HB⟩ := hrel
  cases gk with
  | zero => exact absurd HA.out (by simp [run_block.l0])
  | succ k1 =>
   have H := HA.out
   clear HA
   simp only [run_block.l0] at H
   by_cases c4 : x14_1 < (l0.length : Int)
   ·rw [if_pos c4] at H
    have c4b0 := decide_eq_true c4
    clear c4
    by_cases c5 : 0 ≤ x14_1
    ·rw [if_pos c5] at H
     have c5b0 := decide_eq_true c5
     clear c5
     by_cases c6 : x14_1 < (l0.length : Int)
     ·rw [if_pos c6] at H
      have c6b0 := decide_eq_true c6
      clear c6
      replace H := Option.bind_eq_some_iff.mp H
      obtain ⟨t146, A70, H⟩ := H
      replace H : ((num_Put.f k1 x3_1 (IntKind.u64.wrap (t146))).bind fun t147 => ((num_Put.f k1 t147 (IntKind.u64.wrap (wrap64 ((((rd_T41 l0 x14_1).f0).size : Int) - t146)))).bind fun t150 => (if 0 ≤ t146 then (if t146 ≤ (((rd_T41 l0 x14_1).f0).size : Int) then (if t150.length + (((rd_T41 l0 x14_1).f0).extract (t146 : Int).toNat ((rd_T41 l0 x14_1).f0).size).size < 140737488355328 then ((num_Put.f k1 (t150 ++ bytesOf (((rd_T41 l0 x14_1).f0).extract (t146 : Int).toNat ((rd_T41 l0 x14_1).f0).size)) ((rd_T41 l0 x14_1).f1)).bind fun t156 => (run_block.l0 k1 t156 ((rd_T41 l0 x14_1).f0) l0 (l0.length : Int) (wrap64 (x14_1 + 1)))) else (none)) else (none)) else (none)))) = some r := H
      have A7 := Az.mk A70
      clear A70
      replace H := Option.bind_eq_some_iff.mp H
      obtain ⟨t147, A80, H⟩ := H
      replace H : ((num_Put.f k1 t147 (IntKind.u64.wrap (wrap64 ((((rd_T41 l0 x14_1).f0).size : Int) - t146)))).bind fun t150 => (if 0 ≤ t146 then (if t146 ≤ (((rd_T41 l0 x14_1).f0).size : Int) then (if t150.length + (((rd_T41 l0 x14_1).f0).extract (t146 : Int).toNat ((rd_T41 l0 x14_1).f0).size).size < 140737488355328 then ((num_Put.f k1 (t150 ++ bytesOf (((rd_T41 l0 x14_1).f0).extract (t146 : Int).toNat ((rd_T41 l0 x14_1).f0).size)) ((rd_T41 l0 x14_1).f1)).bind fun t156 => (run_block.l0 k1 t156 ((rd_T41 l0 x14_1).f0) l0 (l0.length : Int) (wrap64 (x14_1 + 1)))) else (none)) else (none)) else (none))) = some r := H
      have A8 := Az.mk A80
      clear A80
      replace H := Option.bind_eq_some_iff.mp H
      obtain ⟨t150, A90, H⟩ := H
      replace H : (if 0 ≤ t146 then (if t146 ≤ (((rd_T41 l0 x14_1).f0).size : Int) then (if t150.length + (((rd_T41 l0 x14_1).f0).extract (t146 : Int).toNat ((rd_T41 l0 x14_1).f0).size).size < 140737488355328 then ((num_Put.f k1 (t150 ++ bytesOf (((rd_T41 l0 x14_1).f0).extract (t146 : Int).toNat ((rd_T41 l0 x14_1).f0).size)) ((rd_T41 l0 x14_1).f1)).bind fun t156 => (run_block.l0 k1 t156 ((rd_T41 l0 x14_1).f0) l0 (l0.length : Int) (wrap64 (x14_1 + 1)))) else (none)) else (none)) else (none)) = some r := H
      have A9 := Az.mk A90
      clear A90
      by_cases c10 : 0 ≤ t146
      ·rw [if_pos c10] at H
       have c10b0 := eq_true c10
       have c10b1 := decide_eq_true c10
       clear c10
       by_cases c11 : t146 ≤ (((rd_T41 l0 x14_1).f0).size : Int)
       ·rw [if_pos c11] at H
        have c11b0 := eq_true c11
        have c11b1 := decide_eq_true c11
        clear c11
        by_cases c12 : t150.length + (((rd_T41 l0 x14_1).f0).extract (t146 : Int).toNat ((rd_T41 l0 x14_1).f0).size).size < 140737488355328
        ·rw [if_pos c12] at H
         have LMc12 := Az.mk c12
         clear c12
         obtain ⟨y153, hy153⟩ : ∃ y_ : List Int, y_ = (t150 ++ bytesOf (((rd_T41 l0 x14_1).f0).extract (t146 : Int).toNat ((rd_T41 l0 x14_1).f0).size)) := ⟨_, rfl⟩
         replace H : ((num_Put.f k1 y153 ((rd_T41 l0 x14_1).f1)).bind fun t156 => (run_block.l0 k1 t156 ((rd_T41 l0 x14_1).f0) l0 (l0.length : Int) (wrap64 (x14_1 + 1)))) = some r := hr_ hy153 H
         have Ny153 := Az.mk hy153
         clear hy153
         replace H := Option.bind_eq_some_iff.mp H
         obtain ⟨t156, A130, H⟩ := H
         replace H : (run_block.l0 k1 t156 ((rd_T41 l0 x14_1).f0) l0 (l0.length : Int) (wrap64 (x14_1 + 1))) = some r := H
         have A13 := Az.mk A130
         clear A130
         have H' := Az.mk H
         clear H
         have p144 : 0 ≤ (x14_1 : Int) := of_decide_eq_true as_
         have q144 : x14_1 < (l0.length : Int) := of_decide_eq_true as_
         obtain ⟨ad144, e144, hx144_0, hx144_1⟩ := at_T41 HR0.out x14_1 p144 q144
         cases e144
         replace hx144_0 := (HB.out.cell (World.block_lt_of_cell? w _ hx144_0)).trans hx144_0
         replace hx144_1 := (HB.out.cell (World.block_lt_of_cell? w _ hx144_1)).trans hx144_1
         replace p144 := eq_true p144
         replace q144 := eq_true q144
         go_wp2_with (first | ((with_reducible refine gate_dst (N := 6) rfl ?_); refine box_event ?hg (N := 6) ?hd (cs := #[.string (⟨#[]⟩ : ByteArray), .int .u64 0]) (t := 41) ?hr ?_; (case hd => rfl); (case hg => rfl); (case hr => first | (go_simp; done) | (go_simp; rfl)); intro gb145 hg w14 hbox hb; have n0_ := Az.mk (Kd.R_below (rl_ HO_3.out) hb); have n1_ := Az.mk (below_step (bl_ HB) hb); have n2_ := Az.mk (hbox); have n3_ := Az.mk ((by rw [hg]; exact (below_size (bl_ HB)) : w.heap.size ≤ gb145)); have n4_ := Az.mk ((by rw [hg]; exact (below_size (bl_ HB)) : w.heap.size ≤ gb145)); clear HO_3; clear HB; have HO_3 := n0_; have HB := n1_; have BK145 := n2_; have GW145 := n3_; have GE145 := n4_; clear n0_ n1_ n2_ n3_ n4_; clear hb hbox hg; have hcz15_0 : w14.cell? ⟨gb145, 0, none⟩ = some (.string (⟨#[]⟩ : ByteArray)) := (blk_cell BK145.out 0).trans rfl; have hcz15_1 : w14.cell? ⟨gb145, 1, none⟩ = some (.int .u64 0) := (blk_cell BK145.out 1).trans rfl; have hfz15_0 := blk_frozen BK145.out 0; have hfz15_1 := blk_frozen BK145.out 1) | ((with_reducible refine gate_callee (f := 50) rfl ?_); refine goesL_ (some 21) rfl rfl Try.func50 (by kernel_rfl) rfl #[.string x4_1, .string ((rd_T41 l0 x14_1).f0)] rfl ar_ ?_; (with_reducible refine (run_shared.calls k1 x4_1 ((rd_T41 l0 x14_1).f0) t146 _ A7.out).mono ?_); rintro e w16 ⟨rfl, hb⟩; refine ⟨_, rfl, ?_⟩; have n0_ := Az.mk (Kd.R_below (by (with_reducible repeat (first | apply Kd.R_alloc | apply Kd.R_drewN | apply Kd.R_drew)); exact (Kd.R_mono (Kd.R_far (p := ⟨gb145, 1, none⟩) (Kd.R_far (p := ⟨gb145, 0, none⟩) (Kd.R_types HO_3.out BK145.out (by decide)) (fun _ hk => hk.2) (.string ((rd_T41 l0 x14_1).f0))) (fun _ hk => hk.2) (.int .u64 ((rd_T41 l0 x14_1).f1))) (fun _ h_ => h_.1))) hb); have n1_ := Az.mk (blk_below (g := gb145) (o := .cells #[.string ((rd_T41 l0 x14_1).f0), .int .u64 ((rd_T41 l0 x14_1).f1)] 41 (0, 0)) (by (with_reducible repeat (first | refine blk_drewN ?_ _ | refine blk_drew ?_ | refine blk_alloc ?_ _)); refine blk_put (cs := #[.string ((rd_T41 l0 x14_1).f0), .int .u64 0]) ?_ 1 _ rfl; (with_reducible repeat (first | refine blk_drewN ?_ _ | refine blk_drew ?_ | refine blk_alloc ?_ _)); refine blk_put (cs := #[.string (⟨#[]⟩ : ByteArray), .int .u64 0]) ?_ 0 _ rfl; (with_reducible repeat (first | refine blk_drewN ?_ _ | refine blk_drew ?_ | refine blk_alloc ?_ _)); exact BK145.out) hb); have n2_ := Az.mk (below_step (by repeat (first | (with_reducible first | exact HB.out | apply below_alloc | apply pw_below_drewN | apply below_drew1 | refine below_set ?_ GE145.out) | exact HB.out)) hb); clear HO_3; clear BK145; clear HB; have HO_3 := n0_; have BK145 := n1_; have HB := n2_; clear n0_ n1_ n2_; (try clear hb); (try clear hb2); (try clear hk); (try clear hi); obtain ⟨Ao17, co17, eo17⟩ := Kd.R_slice HO_3.out; subst eo17) | ((with_reducible refine gate_callee (f := 30) rfl ?_); refine goesL_ (some 25) rfl rfl Try.func30 (by kernel_rfl) rfl #[.slice Ao17 x3_1.length co17, .int .u64 (IntKind.u64.wrap (t146))] rfl ar_ ?_; (with_reducible refine (num_Put.calls k1 _ _ x3_1 (IntKind.u64.wrap (t146)) t147 _ ?side1 ?side2 A8.out).mono ?_); (case side1 => exact cl_ (Kd.R_reads' HO_3.out).2.2); (case side2 => exact (Kd.R_reads' HO_3.out).2.1); rintro e w18 ⟨v148, rfl, ho0, hb⟩; refine ⟨_, rfl, ?_⟩; have n0_ := Az.mk (Kd.R_elder' (rl_ HO_3.out) (Kd.R_base ho0) hb); have n1_ := Az.mk (Kd.R_lower (Kd.R_new' ho0 (Kd.R_lt (rl_ HO_3.out))) (below_size (by repeat (first | (with_reducible first | exact HB.out | apply below_alloc | apply pw_below_drewN | apply below_drew1 | refine below_set ?_ GE145.out) | exact HB.out)))); have n2_ := Az.mk (blk_below (g := gb145) (o := .cells #[.string ((rd_T41 l0 x14_1).f0), .int .u64 ((rd_T41 l0 x14_1).f1)] 41 (0, 0)) (bk_ BK145.out) hb); have n3_ := Az.mk (below_step (by repeat (first | (with_reducible first | exact HB.out | apply below_alloc | apply pw_below_drewN | apply below_drew1 | refine below_set ?_ GE145.out) | exact HB.out)) hb); clear HO_3; clear BK145; clear HB; have HO_3 := n0_; have HO149 := n1_; have BK145 := n2_; have HB := n3_; clear n0_ n1_ n2_ n3_; (try clear hb); (try clear hb2); (try clear hk); (try clear hi); (try clear ho0); have hcz19_0 : w18.cell? ⟨gb145, 0, none⟩ = some (.string ((rd_T41 l0 x14_1).f0)) := (blk_cell BK145.out 0).trans rfl; have hcz19_1 : w18.cell? ⟨gb145, 1, none⟩ = some (.int .u64 ((rd_T41 l0 x14_1).f1)) := (blk_cell BK145.out 1).trans rfl; have hfz19_0 := blk_frozen BK145.out 0; have hfz19_1 := blk_frozen BK145.out 1; obtain ⟨Ao20, co20, eo20⟩ := Kd.R_slice HO149.out; subst eo20) | ((with_reducible refine gate_callee (f := 30) rfl ?_); refine goesL_ (some 33) rfl rfl Try.func30 (by kernel_rfl) rfl #[.slice Ao20 t147.length co20, .int .u64 (IntKind.u64.wrap (wrap64 ((((rd_T41 l0 x14_1).f0).size : Int) - t146)))] rfl ar_ ?_; (with_reducible refine (num_Put.calls k1 _ _ t147 (IntKind.u64.wrap (wrap64 ((((rd_T41 l0 x14_1).f0).size : Int) - t146))) t150 _ ?side1 ?side2 A9.out).mono ?_); (case side1 => exact cl_ (Kd.R_reads' HO149.out).2.2); (case side2 => exact (Kd.R_reads' HO149.out).2.1); rintro e w21 ⟨v151, rfl, ho0, hb⟩; refine ⟨_, rfl, ?_⟩; have n0_ := Az.mk (Kd.R_elder' (rl_ HO_3.out) (Kd.R_base ho0) hb); have n1_ := Az.mk (Kd.R_elder' (rl_ HO149.out) (Kd.R_base ho0) hb); have n2_ := Az.mk (Kd.R_lower (Kd.R_new' (Kd.R_new' ho0 (Kd.R_lt (rl_ HO_3.out))) (Kd.R_lt (rl_ HO149.out))) (below_size (by repeat (first | (with_reducible first | exact HB.out | apply below_alloc | apply pw_below_drewN | apply below_drew1 | refine below_set ?_ GE145.out) | exact HB.out)))); have n3_ := Az.mk (blk_below (g := gb145) (o := .cells #[.string ((rd_T41 l0 x14_1).f0), .int .u64 ((rd_T41 l0 x14_1).f1)] 41 (0, 0)) (bk_ BK145.out) hb); have n4_ := Az.mk (below_step (by repeat (first | (with_reducible first | exact HB.out | apply below_alloc | apply pw_below_drewN | apply below_drew1 | refine below_set ?_ GE145.out) | exact HB.out)) hb); clear HO_3; clear HO149; clear BK145; clear HB; have HO_3 := n0_; have HO149 := n1_; have HO152 := n2_; have BK145 := n3_; have HB := n4_; clear n0_ n1_ n2_ n3_ n4_; (try clear hb); (try clear hb2); (try clear hk); (try clear hi); (try clear ho0); have hcz22_0 : w21.cell? ⟨gb145, 0, none⟩ = some (.string ((rd_T41 l0 x14_1).f0)) := (blk_cell BK145.out 0).trans rfl; have hcz22_1 : w21.cell? ⟨gb145, 1, none⟩ = some (.int .u64 ((rd_T41 l0 x14_1).f1)) := (blk_cell BK145.out 1).trans rfl; have hfz22_0 := blk_frozen BK145.out 0; have hfz22_1 := blk_frozen BK145.out 1) | (at_builtin; refine Go.Proofs.Ytiohnpphhepdfaa.MoreWords.R_append_str (w0 := w) w.heap.size rfl (.tmp 34) _ 24 9 5 rfl Try.underlying24 Try.underlying9 info5 v151 t150 (((rd_T41 l0 x14_1).f0).extract (t146 : Int).toNat ((rd_T41 l0 x14_1).f0).size) (fun k_ => some k_ ≠ (.slice Ao17 x3_1.length co17 : Value).ownBlock ∧ some k_ ≠ (.slice Ao20 t147.length co20 : Value).ownBlock) rfl rfl ?aO ?aF ?aB ?aS ?aL ?_; (case aB => exact (by repeat (first | (with_reducible first | exact HB.out | apply below_alloc | apply pw_below_drewN | apply below_drew1 | refine below_set ?_ GE145.out) | exact HB.out))); (case aF => exact (fun k_ hk => ⟨Kd.fresh' (Kd.R_lt (rl_ HO_3.out)) k_ hk, Kd.fresh' (Kd.R_lt (rl_ HO149.out)) k_ hk⟩)); (case aO => exact (by (with_reducible repeat (first | apply Kd.R_alloc | apply Kd.R_drewN | apply Kd.R_drew)); exact Kd.R_mono HO152.out (fun _ hk => by first | exact ⟨hk.1.2, hk.2⟩ | exact ⟨hk.1, hk.2⟩))); (case aS => exact (below_size (by repeat (first | (with_reducible first | exact HB.out | apply below_alloc | apply pw_below_drewN | apply below_drew1 | refine below_set ?_ GE145.out) | exact HB.out)))); (case aL => have := LMc12.out; omega); intro v154 w23 ho hb hg hat; rw [← Ny153.out] at ho; have n0_ := Az.mk (Kd.R_after (ok := (fun k_ => some k_ ≠ (.slice Ao20 t147.length co20 : Value).ownBlock)) (by (with_reducible repeat (first | apply Kd.R_alloc | apply Kd.R_drewN | apply Kd.R_drew)); exact Kd.R_mono HO_3.out (fun _ hk => by first | exact ⟨hk.1.2, hk.2⟩ | exact ⟨hk.1, hk.2⟩)) hg hat); have n1_ := Az.mk (blk_grown (g := gb145) (o := .cells #[.string ((rd_T41 l0 x14_1).f0), .int .u64 ((rd_T41 l0 x14_1).f1)] 41 (0, 0)) (bk_ BK145.out) hg (Kd.R_ne HO152.out BK145.out (by decide))); have n2_ := Az.mk (Kd.R_after (ok := (fun k_ => some k_ ≠ (.slice Ao17 x3_1.length co17 : Value).ownBlock)) (by (with_reducible repeat (first | apply Kd.R_alloc | apply Kd.R_drewN | apply Kd.R_drew)); exact Kd.R_mono HO149.out (fun _ hk => by first | exact ⟨hk.1.2, hk.2⟩ | exact ⟨hk.1, hk.2⟩)) hg hat); have n3_ := Az.mk (hb); have n4_ := Az.mk (ho); clear HO_3; clear BK145; clear HO149; clear HB; clear HO152; have HO_3 := n0_; have BK145 := n1_; have HO149 := n2_; have HB := n3_; have HO155 := n4_; clear n0_ n1_ n2_ n3_ n4_; clear ho hb hg hat; have hcz24_0 : w23.cell? ⟨gb145, 0, none⟩ = some (.string ((rd_T41 l0 x14_1).f0)) := (blk_cell BK145.out 0).trans rfl; have hcz24_1 : w23.cell? ⟨gb145, 1, none⟩ = some (.int .u64 ((rd_T41 l0 x14_1).f1)) := (blk_cell BK145.out 1).trans rfl; have hfz24_0 := blk_frozen BK145.out 0; have hfz24_1 := blk_frozen BK145.out 1; obtain ⟨Ao25, co25, eo25⟩ := Kd.R_slice HO155.out; subst eo25) | ((with_reducible refine gate_callee (f := 30) rfl ?_); refine goesL_ (some 43) rfl rfl Try.func30 (by kernel_rfl) rfl #[.slice Ao25 y153.length co25, .int .u64 ((rd_T41 l0 x14_1).f1)] rfl ar_ ?_; (with_reducible refine (num_Put.calls k1 _ _ y153 ((rd_T41 l0 x14_1).f1) t156 _ ?side1 ?side2 A13.out).mono ?_); (case side1 => exact cl_ (Kd.R_reads' HO155.out).2.2); (case side2 => exact (Kd.R_reads' HO155.out).2.1); rintro e w26 ⟨v157, rfl, ho0, hb⟩; refine ⟨_, rfl, ?_⟩; have n0_ := Az.mk (Kd.R_elder' (rl_ HO_3.out) (Kd.R_base ho0) hb); have n1_ := Az.mk (Kd.R_elder' (rl_ HO149.out) (Kd.R_base ho0) hb); have n2_ := Az.mk (Kd.R_elder' (rl_ HO155.out) (Kd.R_base ho0) hb); have n3_ := Az.mk (Kd.R_lower (Kd.R_new' (Kd.R_new' (Kd.R_new' ho0 (Kd.R_lt (rl_ HO_3.out))) (Kd.R_lt (rl_ HO149.out))) (Kd.R_lt (rl_ HO155.out))) (below_size (by repeat (first | (with_reducible first | exact HB.out | apply below_alloc | apply pw_below_drewN | apply below_drew1 | refine below_set ?_ GE145.out) | exact HB.out)))); have n4_ := Az.mk (blk_below (g := gb145) (o := .cells #[.string ((rd_T41 l0 x14_1).f0), .int .u64 ((rd_T41 l0 x14_1).f1)] 41 (0, 0)) (bk_ BK145.out) hb); have n5_ := Az.mk (below_step (by repeat (first | (with_reducible first | exact HB.out | apply below_alloc | apply pw_below_drewN | apply below_drew1 | refine below_set ?_ GE145.out) | exact HB.out)) hb); clear HO_3; clear HO149; clear HO155; clear BK145; clear HB; have HO_3 := n0_; have HO149 := n1_; have HO155 := n2_; have HO158 := n3_; have BK145 := n4_; have HB := n5_; clear n0_ n1_ n2_ n3_ n4_ n5_; (try clear hb); (try clear hb2); (try clear hk); (try clear hi); (try clear ho0); have hcz27_0 : w26.cell? ⟨gb145, 0, none⟩ = some (.string ((rd_T41 l0 x14_1).f0)) := (blk_cell BK145.out 0).trans rfl; have hcz27_1 : w26.cell? ⟨gb145, 1, none⟩ = some (.int .u64 ((rd_T41 l0 x14_1).f1)) := (blk_cell BK145.out 1).trans rfl; have hfz27_0 := blk_frozen BK145.out 0; have hfz27_1 := blk_frozen BK145.out 1))
         go_roundg k1
         case measure => have := HK1.out; omega
         case rel => exact ⟨(t156), ((rd_T41 l0 x14_1).f0), (wrap64 (x14_1 + 1)), (es_), (es_), H', ⟨by have := HK1.out; omega⟩, ⟨by (with_reducible repeat (first | apply Kd.R_alloc | apply Kd.R_drewN | apply Kd.R_drew)); exact Kd.R_mono HO158.out (fun _ hk => trivial)⟩, ⟨by repeat (first | (with_reducible first | exact HB.out | apply below_alloc | apply pw_below_drewN | apply below_drew1 | refine below_set ?_ GE145.out) | exact HB.out)⟩⟩
        ·rw [if_neg c12] at H
         exact absurd H (by simp)
       ·rw [if_neg c11] at H
        exact absurd H (by simp)
      ·rw [if_neg c10] at H
       exact absurd H (by simp)
     ·rw [if_neg c6] at H
      exact absurd H (by simp)
    ·rw [if_neg c5] at H
     exact absurd H (by simp)
   ·rw [if_neg c4] at H
    have c4b0 := decide_eq_false c4
    clear c4
    obtain rfl := Option.some.inj H
    go_wp2
    go_ret
    exact ⟨_, er_, by (with_reducible repeat (first | apply Kd.R_alloc | apply Kd.R_drewN | apply Kd.R_drew)); exact HO_3.out, bl_ HB⟩
def crc_More.s1 (c : Int) : Int := if Go.bits .and .u32 c 1 = 1 then Go.bits .xor .u32 (c / 2) 3988292384 else c / 2
def crc_More.it : Nat → Int → Int
 | 0, c => c
 | k + 1, c => crc_More.s1 (crc_More.it k c)
def crc_More.cells (l : List Int) : Array Value := (l.map (Value.int .u32)).toArray
def crc_More.zeros : Array Value := crc_More.cells (List.replicate 256 0)
def crc_More.tab (i : Nat) : List Int := (List.range i).map (fun (j : Nat) => crc_More.it 8 (j : Int)) ++ List.replicate (256 - i) 0
theorem crc_More.zero (w : World) : (zeroValue 111).run Try.prog w = .ok (.agg crc_More.zeros) w := by kernel_rfl
theorem crc_More.size : (Try.prog.info? 111).map (·.size) = some 256 := by kernel_rfl
theorem crc_More.cells_size (l : List Int) : (crc_More.cells l).size = l.length := by simp [crc_More.cells]
theorem crc_More.tab_len (i : Nat) (h : i ≤ 256) : (crc_More.tab i).length = 256 := by simp [crc_More.tab]; omega
theorem crc_More.tab_zero : crc_More.cells (crc_More.tab 0) = crc_More.zeros := rfl
theorem crc_More.one_all (l : List Int) : (crc_More.cells l).all (·.oneCell') = true := by
 rw [Array.all_eq_true_iff_forall_mem]
 intro v hv
 simp only [crc_More.cells, List.mem_toArray, List.mem_map] at hv
 obtain ⟨x, _, rfl⟩ := hv
 rfl
theorem crc_More.tab_set (i : Nat) (h : i < 256) : (crc_More.tab i).set i (crc_More.it 8 i) = crc_More.tab (i + 1) := by
 unfold crc_More.tab
 rw [List.set_append_right _ _ (by simp), List.range_succ, List.map_append]
 obtain ⟨m, hm⟩ : ∃ m, 256 - i = m + 1 := ⟨255 - i, by omega⟩
 rw [hm, show 256 - (i + 1) = m by omega]
 simp [List.replicate_succ]
theorem crc_More.cell_at (w : World) (g i : Nat) (l : List Int) (hl : i < l.length) (hg : w.heap[g]? = some (.cells (crc_More.cells l) 111 (0, 0))) : w.cell? ⟨g, i, none⟩ = some (.int .u32 (l.getD i 0)) := by
 rw [cell_of_row w g i _ 111 _ hg, List.getD_eq_getElem?_getD]
 unfold crc_More.cells
 rw [List.getElem?_toArray, List.getElem?_map, List.getElem?_eq_getElem hl]
 rfl
theorem crc_More.put (w : World) (g i : Nat) (l : List Int) (v : Int) (hg : w.heap[g]? = some (.cells (crc_More.cells l) 111 (0, 0))) :
  (w.setCell ⟨g, i, none⟩ (.int .u32 v)).heap[g]? = some (.cells (crc_More.cells (l.set i v)) 111 (0, 0)) := by
 rw [heap_setCell_same w g i _ 111 _ hg]
 congr 2
 unfold crc_More.cells
 rw [List.map_set]
 simp
theorem crc_table.calls (w : World) :
  Calls Try.prog 70 #[] w fun e w' => e = .returned (.agg (crc_More.cells (crc_More.tab 256))) ∧ Below w.heap.size w w' := by
 have hz := crc_More.zero
 go_enter Try.func70, Try.ntmps70
 go_wp2
 clear hz
 obtain ⟨g, hg⟩ : ∃ g, g = w.heap.size := ⟨_, rfl⟩
 have HG := Az.mk hg
 rw [← hg]
 clear hg
 go_loopw [5] (fun v wr => ∃ i : Nat, v = .int .i64 i ∧ i ≤ 256 ∧ Az (Below w.heap.size w wr ∧ wr.heap[g]? = some (.cells crc_More.zeros 111 (0, 0)) ∧ wr.heap[g + 1]? = some (.cells (crc_More.cells (crc_More.tab i)) 111 (0, 0)))) (fun v _ => 256 - (intOf v).toNat)
 case atStart =>
  exact ⟨0, rfl, by omega, ⟨below_alloc (below_alloc (Below.refl _ _) _) _, by rw [HG.out]; exact heap_alloc2_old w _ _, by rw [HG.out, crc_More.tab_zero]; exact heap_alloc2_new w _ _⟩⟩
 case round =>
  obtain ⟨i, rfl, hi, H⟩ := hrel
  by_cases hlt : i < 256
  ·go_wp2
   go_loop [3, 4, 10] (fun v3 _ v10 => ∃ k : Nat, v10 = .int .i64 k ∧ k ≤ 8 ∧ v3 = .int .u32 (crc_More.it k i)) (fun _ _ v => 8 - (intOf v).toNat)
   case atStart => exact ⟨0, rfl, by omega, by simp only [crc_More.it]⟩
   case round =>
    obtain ⟨k, rfl, hk, rfl⟩ := hrel
    by_cases hk8 : k < 8
    ·have e : crc_More.it (k + 1) i = crc_More.s1 (crc_More.it k i) := rfl
     have E := Az.mk e
     clear e
     by_cases hb : Go.bits .and .u32 (crc_More.it k i) 1 = 1
     ·have hb' : (Go.bits .and .u32 (crc_More.it k i) 1 == 1) = true := by simpa using hb
      have HB := Az.mk hb
      clear hb
      go_wp2
      go_round
      case rel => exact ⟨k + 1, by go_num, by omega, by rw [E.out, crc_More.s1, if_pos HB.out]⟩
      case measure => simp [intOf]; omega
     ·have hb' : (Go.bits .and .u32 (crc_More.it k i) 1 == 1) = false := by simpa using hb
      have HB := Az.mk hb
      clear hb
      go_wp2
      go_round
      case rel => exact ⟨k + 1, by go_num, by omega, by rw [E.out, crc_More.s1, if_neg HB.out]⟩
      case measure => simp [intOf]; omega
    ·have hk9 : k = 8 := by omega
     subst hk9
     have hfz := frozen_of_row wr (g + 1) i _ 111 H.out.2.2
     have hcl := crc_More.cell_at wr (g + 1) i _ (by rw [crc_More.tab_len i hi]; exact hlt) H.out.2.2
     go_wp2
     go_roundw
     case rel => exact ⟨i + 1, by go_num, by omega, ⟨H.out.1.setCell (by rw [HG.out]; exact Nat.le_succ _) _, (heap_setCell_other wr ⟨g + 1, i, none⟩ g _ (by simp)).trans H.out.2.1, by rw [← crc_More.tab_set i hlt]; exact crc_More.put wr (g + 1) i _ _ H.out.2.2⟩⟩
     case measure => simp [intOf]; omega
  ·have h256 : i = 256 := by omega
   subst h256
   have hu := Try.underlying111
   have hs : (Try.prog.info? 111).map (·.size) = some (crc_More.cells (crc_More.tab 256)).size := by rw [crc_More.cells_size, crc_More.tab_len 256 (Nat.le_refl _)]; exact crc_More.size
   have hs' : crc_More.zeros.size = (crc_More.cells (crc_More.tab 256)).size := by rw [crc_More.cells_size, crc_More.tab_len 256 (Nat.le_refl _), crc_More.zeros, crc_More.cells_size]; simp
   have ho := crc_More.one_all (crc_More.tab 256)
   have HS := Az.mk hs
   have HS' := Az.mk hs'
   have HO := Az.mk ho
   clear hs hs' ho
   go_wp2_with (first | (refine wpList_load_row rfl 111 (.tmp 1) rfl (g + 1) rfl 111 _ _ _ H.out.2.2 hu rfl HS.out ?_) | (refine wpList_store_row rfl 111 (.tmp 0) (.tmp 25) rfl g _ rfl rfl 111 _ H.out.2.1 HS.out HS'.out HO.out ?_))
   have hg2 := setRow_heap wr g _ (crc_More.cells (crc_More.tab 256)) 111 _ H.out.2.1
   exact bodyPost_ret (results_cell_row rfl _ _ g 111 _ _ _ rfl hg2 hu rfl HS.out) rfl ⟨rfl, below_setRow H.out.1 (by rw [HG.out]; exact Nat.le_refl _) _⟩
def crc_More.step (c x : Int) : Int := Go.bits .xor .u32 ((crc_More.tab 256).getD (Go.bits .xor .u8 (c % 256) x).toNat 0) (c / 256)
theorem crc_More.u8_range (a b : Int) : 0 ≤ Go.bits .xor .u8 a b ∧ Go.bits .xor .u8 a b < 256 := by
 unfold Go.bits
 simp only [IntKind.wrap_u8]
 omega
def crc_More.raw (c : Int) (l : List Int) : Int := Go.bits .xor .u32 4294967295 (l.foldl crc_More.step (Go.bits .xor .u32 4294967295 c))
def crc_More.f (c : Int) (l : List Int) : Option Int := some (crc_More.raw c l)
theorem crc_More.calls (a0 : Int) (A1 : Option Addr) (c1 : Nat) (l1 : List Int) (r : Int) (w : World) (hr1 : Kd.C (Kd.int .u8) w A1 l1.length l1) (hc1 : l1.length ≤ c1) (h : crc_More.f a0 l1 = some r) :
  Calls Try.prog 67 #[.int .u32 a0, .slice A1 l1.length c1] w fun e w' => e = .returned (.int .u32 r) ∧ Below w.heap.size w w' := by
 have hz := crc_More.zero
 have HR := Az.mk hr1
 have H : Az (crc_More.raw a0 l1 = r) := ⟨Option.some.inj (show some (crc_More.raw a0 l1) = some r from h)⟩
 have hlen : l1.length ≤ 9223372036854775807 := hr1.2.1
 clear hr1 h
 have hs : (Try.prog.info? 111).map (·.size) = some (crc_More.cells (crc_More.tab 256)).size := by rw [crc_More.cells_size, crc_More.tab_len 256 (Nat.le_refl _)]; exact crc_More.size
 have hs' : crc_More.zeros.size = (crc_More.cells (crc_More.tab 256)).size := by rw [crc_More.cells_size, crc_More.tab_len 256 (Nat.le_refl _), crc_More.zeros, crc_More.cells_size]; simp
 have HS := Az.mk hs
 have HS' := Az.mk hs'
 have HO := Az.mk (crc_More.one_all (crc_More.tab 256))
 clear hs hs'
 go_enter Try.func67, Try.ntmps67
 go_wp2_with (first | (go_at_call 70; refine (crc_table.calls _).mono ?_; rintro e w1 ⟨rfl, hb⟩; have HB := Az.mk hb; clear hb) | (refine wpList_store_row rfl 111 (.tmp 5) (.tmp 8) rfl w1.heap.size _ rfl rfl 111 _ (heap_alloc_new w1 _) HS.out HS'.out HO.out ?_))
 have hg := setRow_heap (w1.alloc (.cells crc_More.zeros 111)) w1.heap.size _ (crc_More.cells (crc_More.tab 256)) 111 _ (heap_alloc_new w1 _)
 have hb : Below w.heap.size w ((w1.alloc (.cells crc_More.zeros 111)).setRow w1.heap.size (crc_More.cells (crc_More.tab 256))) := below_setRow (below_alloc HB.out _) HB.out.size _
 have HG := Az.mk hg
 have HB2 := Az.mk hb
 clear hg hb HB hz
 generalize (w1.alloc (.cells crc_More.zeros 111)).setRow w1.heap.size (crc_More.cells (crc_More.tab 256)) = W at *
 generalize w1.heap.size = g at *
 go_loop [0, 13] (fun v0 v13 => ∃ k : Nat, v13 = .int .i64 k ∧ k ≤ l1.length ∧ v0 = .int .u32 ((l1.take k).foldl crc_More.step (Go.bits .xor .u32 4294967295 a0))) (fun _ v => l1.length - (intOf v).toNat)
 case atStart => exact ⟨0, rfl, Nat.zero_le _, by simp [IntKind.max, IntKind.bits, IntKind.signed]⟩
 case round =>
  obtain ⟨k, rfl, hk, rfl⟩ := hrel
  by_cases hlt : k < l1.length
  ·obtain ⟨ad, e, hx⟩ := Kd.at_int (Kd.C_below HR.out HB2.out) k (by omega) (by omega)
   cases e
   have hx' : W.cell? (ad.add k) = some (.int .u8 (rd l1 k)) := hx
   clear hx
   have hs : (l1.take (k + 1)).foldl crc_More.step (Go.bits .xor .u32 4294967295 a0) = crc_More.step ((l1.take k).foldl crc_More.step (Go.bits .xor .u32 4294967295 a0)) (rd l1 k) := by
    have e : rd l1 k = l1[k] := by
     unfold rd
     rw [Int.toNat_natCast, List.getD_eq_getElem?_getD, List.getElem?_eq_getElem hlt, Option.getD_some]
    rw [e, ← List.take_append_getElem hlt, List.foldl_append]
    rfl
   have HS2 := Az.mk hs
   clear hs
   generalize (l1.take k).foldl crc_More.step (Go.bits .xor .u32 4294967295 a0) = c at *
   have hj := crc_More.u8_range (c % 256) (rd l1 k)
   obtain ⟨j, hj'⟩ : ∃ j, j = Go.bits .xor .u8 (c % 256) (rd l1 k) := ⟨_, rfl⟩
   rw [← hj'] at hj
   have HJ := Az.mk hj'
   have hcl := crc_More.cell_at W g j.toNat _ (by rw [crc_More.tab_len 256 (Nat.le_refl _)]; omega) HG.out
   rw [hj'] at hcl hj
   clear hj'
   go_wp2
   go_round
   case rel => exact ⟨k + 1, by go_num, by omega, by rw [HS2.out]; rfl⟩
   case measure => simp [intOf]; omega
  ·have hk2 : l1.take k = l1 := List.take_of_length_le (by omega)
   have HK := Az.mk hk2
   clear hk2
   go_wp2
   go_ret
   exact ⟨by rw [HK.out, ← H.out]; rfl, HB2.out⟩
def crc_Of.f (l0 : List Int) : Option (Int) := (crc_More.f 0 l0).bind fun t159 => (some t159)
theorem crc_Of.calls (A0 : Option Addr) (c0 : Nat) (l0 : List Int) (r : Int) (w : World) (hr0 : Kd.C (Kd.int .u8) w A0 l0.length l0) (hc0 : l0.length ≤ c0) (h : crc_Of.f l0 = some r) :
  Calls Try.prog 63 #[.slice A0 l0.length c0] w fun e w' => e = .returned (.int .u32 r) ∧ Below w.heap.size w w' := by
 have HR0 := Az.mk hr0
 have HC0 := Az.mk hc0
 clear hr0 hc0
 have HB := Az.mk (Below.refl w.heap.size w)
 have H : ((crc_More.f 0 l0).bind fun t159 => (some t159)) = some r := h
 clear h
 replace H := Option.bind_eq_some_iff.mp H
 obtain ⟨t159, A20, H⟩ := H
 replace H : (some t159) = some r := H
 have A2 := Az.mk A20
 clear A20
 obtain rfl := Option.some.inj H
 go_enter Try.func63, Try.ntmps63
 go_wp2_with (first | ((with_reducible refine gate_callee (f := 67) rfl ?_); refine goesL_ (some 4) rfl rfl Try.func67 (by kernel_rfl) rfl #[.int .u32 0, .slice A0 l0.length c0] rfl ar_ ?_; (with_reducible refine (crc_More.calls 0 _ _ l0 t159 _ ?side1 ?side2 A2.out).mono ?_); (case side1 => exact cl_ HR0.out); (case side2 => exact HC0.out); rintro e w3 ⟨rfl, hb⟩; refine ⟨_, rfl, ?_⟩; have n0_ := Az.mk (below_step (bl_ HB) hb); clear HB; have HB := n0_; clear n0_; (try clear hb); (try clear hb2); (try clear hk); (try clear hi)))
 go_ret
 exact ⟨er_, bl_ HB⟩
end Go.Proofs.Ytiohnpphhepdfaa.PPa
end
section
namespace Go.Proofs.Ytiohnpphhepdfaa.PPa
open Go.RowKit Go.Proofs.YtiohnpphhepdfaaW.PrintWords Go.Proofs.YtiohnpphhepdfaaW.PrintLast Go.Proofs.YtiohnpphhepdfaaW.PrintMore
attribute [local go_sem] max2_int min2_int max_two min_two max_three min_three max_four min_four
attribute [local go_sem] Go.Proofs.Ytiohnpphhepdfaa.MoreWords.str_leq Go.Proofs.Ytiohnpphhepdfaa.MoreWords.str_gtr Go.Proofs.Ytiohnpphhepdfaa.MoreWords.str_geq
set_option maxHeartbeats 8000000
set_option maxRecDepth 100000
set_option linter.unusedVariables false
set_option linter.unusedSimpArgs false
def frame_sum.l0 : Nat → Int → List Int → Int → Option (List Int)
 | 0, _, _, _ => none
 | k + 1, x3, x4, x8 => if x8 < 4 then (if 0 ≤ (wrap64 (8 * x8)) then (if x4.length < 140737488355328 then (frame_sum.l0 k x3 (x4 ++ [(shr .u32 x3 (wrap64 (8 * x8))) % 256]) (wrap64 (x8 + 1))) else (none)) else (none)) else (some x4)
def frame_sum.f (k : Nat) (l0 : List Int) : Option (List Int) := (crc_Of.f l0).bind fun t160 => (frame_sum.l0 k t160 ([] : List Int) 0)
theorem frame_sum.mono_l : ∀ k, (∀ y0 y1 y2, LeO (frame_sum.l0 k y0 y1 y2) (frame_sum.l0 (k + 1) y0 y1 y2))
 | 0 => fun _ _ _ r h => by simp [frame_sum.l0] at h
 | k + 1 => by
  have ih0 := frame_sum.mono_l k
  ·intro y0 y1 y2
   unfold frame_sum.l0
   repeat' first
   | (with_reducible exact ih0 _ _ _)
   | (with_reducible exact LeO.refl _)
   | (with_reducible exact LeO.none _)
   | (with_reducible refine LeO.ite ?_ ?_)
   | (with_reducible refine LeO.bind ?_ (fun _ => ?_))
   | exact ih0 _ _ _
   | exact LeO.none _
   | refine LeO.ite ?_ ?_
   | refine LeO.bind ?_ (fun _ => ?_)
theorem frame_sum.mono : ∀ a0 k, LeO (frame_sum.f k a0) (frame_sum.f (k + 1) a0) := by
 intro a0 k
 have ih0 := frame_sum.mono_l k
 unfold frame_sum.f
 repeat' first
   | (with_reducible exact ih0 _ _ _)
   | (with_reducible exact LeO.refl _)
   | (with_reducible exact LeO.none _)
   | (with_reducible refine LeO.ite ?_ ?_)
   | (with_reducible refine LeO.bind ?_ (fun _ => ?_))
   | exact ih0 _ _ _
   | exact LeO.none _
   | refine LeO.ite ?_ ?_
   | refine LeO.bind ?_ (fun _ => ?_)
theorem frame_sum.calls (k : Nat) (A0 : Option Addr) (c0 : Nat) (l0 : List Int) (r : List Int) (w : World) (hr0 : Kd.C (Kd.int .u8) w A0 l0.length l0) (hc0 : l0.length ≤ c0) (h : frame_sum.f k l0 = some r) :
  Calls Try.prog 51 #[.slice A0 l0.length c0] w fun e w' => ∃ v0_ : Value, e = .returned (v0_) ∧ Kd.R (Kd.int .u8) 5 w' w.heap.size (fun _ => True) v0_ r ∧ Below w.heap.size w w' := by
 have HR0 := Az.mk hr0
 have HC0 := Az.mk hc0
 clear hr0 hc0
 have HB := Az.mk (Below.refl w.heap.size w)
 have H : ((crc_Of.f l0).bind fun t160 => (frame_sum.l0 k t160 ([] : List Int) 0)) = some r := h
 clear h
 replace H := Option.bind_eq_some_iff.mp H
 obtain ⟨t160, A20, H⟩ := H
 replace H : (frame_sum.l0 k t160 ([] : List Int) 0) = some r := H
 have A2 := Az.mk A20
 clear A20
 have H' := Az.mk H
 clear H
 go_enter Try.func51, Try.ntmps51
 go_wp2_with (first | ((with_reducible refine gate_callee (f := 63) rfl ?_); refine goesL_ (some 7) rfl rfl Try.func63 (by kernel_rfl) rfl #[.slice A0 l0.length c0] rfl ar_ ?_; (with_reducible refine (crc_Of.calls _ _ l0 t160 _ ?side1 ?side2 A2.out).mono ?_); (case side1 => exact cl_ HR0.out); (case side2 => exact HC0.out); rintro e w3 ⟨rfl, hb⟩; refine ⟨_, rfl, ?_⟩; have n0_ := Az.mk (below_step (bl_ HB) hb); clear HB; have HB := n0_; clear n0_; (try clear hb); (try clear hb2); (try clear hk); (try clear hi)))
 go_loopg [4, 8] k (fun kq v4 v8 w' => ∃ (x4_1 : List Int) (x8_1 : Int), v8 = .int .i64 x8_1 ∧ Az (frame_sum.l0 kq t160 x4_1 x8_1 = some r) ∧ Az (kq ≤ k) ∧ Az (Kd.R (Kd.int .u8) 5 w' w.heap.size (fun _ => True) v4 x4_1) ∧ Az (Below w.heap.size w w'))
 case atStart => exact ⟨(([] : List Int)), (0), (es_), H', ⟨Nat.le_refl _⟩, ⟨nl_⟩, ⟨bl_ HB⟩⟩
 case round =>
  clear H'
  try clear p2
  obtain ⟨x4_1, x8_1, rfl, HA, HK1, HO_4, HB⟩ := hrel
  cases gk with
  | zero => exact absurd HA.out (by simp [frame_sum.l0])
  | succ k1 =>
   have H := HA.out
   clear HA
   simp only [frame_sum.l0] at H
   by_cases c4 : x8_1 < 4
   ·rw [if_pos c4] at H
    have c4b0 := decide_eq_true c4
    clear c4
    obtain ⟨ji5, hji5⟩ : ∃ j_ : Int, (wrap64 (8 * x8_1)) = j_ := ⟨_, rfl⟩
    replace H : (if 0 ≤ (ji5) then (if x4_1.length < 140737488355328 then (frame_sum.l0 k1 t160 (x4_1 ++ [(shr .u32 t160 (ji5)) % 256]) (wrap64 (x8_1 + 1))) else (none)) else (none)) = some r := by first | (rw [hji5] at H; exact H) | (simp only [hji5] at H ⊢; exact H)
    have hji5w : (IntKind.i64.wrap (8 * x8_1)) = ji5 := (i64_w _).trans hji5
    by_cases c6 : 0 ≤ (ji5)
    ·rw [if_pos c6] at H
     have c6b0 := eq_true c6
     have c6b1 := decide_eq_true c6
     clear c6
     obtain ⟨ji7, hji7⟩ : ∃ j_ : Int, (shr .u32 t160 (ji5)) = j_ := ⟨_, rfl⟩
     replace H : (if x4_1.length < 140737488355328 then (frame_sum.l0 k1 t160 (x4_1 ++ [(ji7) % 256]) (wrap64 (x8_1 + 1))) else (none)) = some r := by first | (rw [hji7] at H; exact H) | (simp only [hji7] at H ⊢; exact H)
     have hji7_ : (t160 / 2 ^ min (ji5).toNat 32) = ji7 := hji7
     have hji7z : (ji5) ≤ 32 → (t160 / 2 ^ (ji5).toNat) = ji7 := shr_small hji7
     by_cases c8 : x4_1.length < 140737488355328
     ·rw [if_pos c8] at H
      have LMc8 := Az.mk c8
      clear c8
      obtain ⟨y161, hy161⟩ : ∃ y_ : List Int, y_ = (x4_1 ++ [(ji7) % 256]) := ⟨_, rfl⟩
      replace H : (frame_sum.l0 k1 t160 y161 (wrap64 (x8_1 + 1))) = some r := hr_ hy161 H
      have Ny161 := Az.mk hy161
      clear hy161
      have H' := Az.mk H
      clear H
      go_wp2_with (first | ((with_reducible refine gate_builtin (b := .append) (xs := #[.tmp 11, .tmp 17]) rfl ?_); at_builtin; refine Kd.R_append (Kd.int .u8) (w0 := w) w.heap.size rfl (.tmp 11) (.tmp 17) 24 5 (.int .u8 0) 1 rfl Try.underlying24 info5 rfl (by decide) (by omega) u4 x4_1 ((ji7) % 256) [.int .u8 ((ji7) % 256)] (fun _ => True) (fun _ => False) rfl rfl ?aP (fun _ hk => hk.elim) ?aF ?aO ?aB ?aS ?aL ?_; (case aP => exact rfl); (case aB => exact (bl_ HB)); (case aF => exact (fun _ _ => trivial)); (case aO => exact (rl_ HO_4.out)); (case aS => exact (below_size (bl_ HB))); (case aL => have := LMc8.out; omega); intro v162 w9 ho hb hg hat; rw [← Ny161.out] at ho; have n0_ := Az.mk (hb); have n1_ := Az.mk (ho); clear HB; clear HO_4; have HB := n0_; have HO163 := n1_; clear n0_ n1_; clear ho hb hg hat))
      go_roundg k1
      case measure => have := HK1.out; omega
      case rel => exact ⟨(y161), (wrap64 (x8_1 + 1)), (es_), H', ⟨by have := HK1.out; omega⟩, ⟨rl_ HO163.out⟩, ⟨bl_ HB⟩⟩
     ·rw [if_neg c8] at H
      exact absurd H (by simp)
    ·rw [if_neg c6] at H
     exact absurd H (by simp)
   ·rw [if_neg c4] at H
    have c4b0 := decide_eq_false c4
    clear c4
    obtain rfl := Option.some.inj H
    go_wp2
    go_ret
    exact ⟨_, er_, by (with_reducible repeat (first | apply Kd.R_alloc | apply Kd.R_drewN | apply Kd.R_drew)); exact HO_4.out, bl_ HB⟩
def frame_Put.f (k : Nat) (l0 : List Int) (l1 : List Int) : Option (List Int × Int) := if (l1.length : Int) > 1048576 then (some (([] : List Int), 6)) else ((num_Put.f k l0 (IntKind.u64.wrap ((l1.length : Int)))).bind fun t164 => (if t164.length + l1.length < 140737488355328 then ((some (t164 ++ l1 : List Int)).bind fun y167 => ((frame_sum.f k l1).bind fun t170 => (if y167.length + t170.length < 140737488355328 then (some ((y167 ++ t170), 0)) else (none)))) else (none)))
theorem frame_Put.mono : ∀ a0 a1 k, LeO (frame_Put.f k a0 a1) (frame_Put.f (k + 1) a0 a1) := by
 intro a0 a1 k
 unfold frame_Put.f
 repeat' first
   | (with_reducible exact frame_sum.mono _ _)
   | (with_reducible exact num_Put.mono _ _ _)
   | (with_reducible exact LeO.refl _)
   | (with_reducible exact LeO.none _)
   | (with_reducible refine LeO.ite ?_ ?_)
   | (with_reducible refine LeO.bind ?_ (fun _ => ?_))
   | exact frame_sum.mono _ _
   | exact num_Put.mono _ _ _
   | exact LeO.none _
   | refine LeO.ite ?_ ?_
   | refine LeO.bind ?_ (fun _ => ?_)
theorem frame_Put.calls (k : Nat) (A0 : Option Addr) (c0 : Nat) (l0 : List Int) (A1 : Option Addr) (c1 : Nat) (l1 : List Int) (r1 : List Int) (r2 : Int) (w : World) (hr0 : Kd.C (Kd.int .u8) w A0 l0.length l0) (hc0 : l0.length ≤ c0) (hr1 : Kd.C (Kd.int .u8) w A1 l1.length l1) (hc1 : l1.length ≤ c1) (h : frame_Put.f k l0 l1 = some (r1, r2)) :
  Calls Try.prog 33 #[.slice A0 l0.length c0, .slice A1 l1.length c1] w fun e w' => ∃ v0_ : Value, e = .returned (.tuple #[v0_, .int .i64 r2]) ∧ Kd.R (Kd.int .u8) 5 w' w.heap.size (fun _ => True) v0_ r1 ∧ Below w.heap.size w w' := by
 have HR0 := Az.mk hr0
 have HC0 := Az.mk hc0
 clear hr0 hc0
 have HR1 := Az.mk hr1
 have HC1 := Az.mk hc1
 clear hr1 hc1
 have HB := Az.mk (Below.refl w.heap.size w)
 have H : (if (l1.length : Int) > 1048576 then (some (([] : List Int), 6)) else ((num_Put.f k l0 (IntKind.u64.wrap ((l1.length : Int)))).bind fun t164 => (if t164.length + l1.length < 140737488355328 then ((some (t164 ++ l1 : List Int)).bind fun y167 => ((frame_sum.f k l1).bind fun t170 => (if y167.length + t170.length < 140737488355328 then (some ((y167 ++ t170), 0)) else (none)))) else (none)))) = some (r1, r2) := h
 clear h
 by_cases c3 : (l1.length : Int) > 1048576
 ·rw [if_pos c3] at H
  have c3b0 := decide_eq_true c3
  have c3b1 : decide (1048576 < l1.length) = true := decide_eq_true (by omega)
  clear c3
  simp only [Option.some.injEq, Prod.mk.injEq] at H
  obtain ⟨rfl, rfl⟩ := H
  go_enter Try.func33, Try.ntmps33
  go_wp2
  go_ret2
  exact ⟨_, er_, nl_, bl_ HB⟩
 ·rw [if_neg c3] at H
  have c3b0 := decide_eq_false c3
  have c3b1 : decide (1048576 < l1.length) = false := decide_eq_false (by omega)
  clear c3
  replace H := Option.bind_eq_some_iff.mp H
  obtain ⟨t164, A40, H⟩ := H
  replace H : (if t164.length + l1.length < 140737488355328 then ((some (t164 ++ l1 : List Int)).bind fun y167 => ((frame_sum.f k l1).bind fun t170 => (if y167.length + t170.length < 140737488355328 then (some ((y167 ++ t170), 0)) else (none)))) else (none)) = some (r1, r2) := H
  have A4 := Az.mk A40
  clear A40
  by_cases c5 : t164.length + l1.length < 140737488355328
  ·rw [if_pos c5] at H
   have LMc5 := Az.mk c5
   clear c5
   obtain ⟨y167, hy167⟩ : ∃ y_ : List Int, y_ = (t164 ++ l1) := ⟨_, rfl⟩
   replace H : ((frame_sum.f k l1).bind fun t170 => (if y167.length + t170.length < 140737488355328 then (some ((y167 ++ t170), 0)) else (none))) = some (r1, r2) := hr_ hy167 H
   have Ny167 := Az.mk hy167
   clear hy167
   replace H := Option.bind_eq_some_iff.mp H
   obtain ⟨t170, A60, H⟩ := H
   replace H : (if y167.length + t170.length < 140737488355328 then (some ((y167 ++ t170), 0)) else (none)) = some (r1, r2) := H
   have A6 := Az.mk A60
   clear A60
   by_cases c7 : y167.length + t170.length < 140737488355328
   ·rw [if_pos c7] at H
    have LMc7 := Az.mk c7
    clear c7
    obtain ⟨y173, hy173⟩ : ∃ y_ : List Int, y_ = (y167 ++ t170) := ⟨_, rfl⟩
    replace H : (some (y173, 0)) = some (r1, r2) := hr_ hy173 H
    have Ny173 := Az.mk hy173
    clear hy173
    simp only [Option.some.injEq, Prod.mk.injEq] at H
    obtain ⟨rfl, rfl⟩ := H
    go_enter Try.func33, Try.ntmps33
    go_wp2_with (first | ((with_reducible refine gate_callee (f := 30) rfl ?_); refine goesL_ (some 14) rfl rfl Try.func30 (by kernel_rfl) rfl #[.slice A0 l0.length c0, .int .u64 (IntKind.u64.wrap ((l1.length : Int)))] rfl ar_ ?_; (with_reducible refine (num_Put.calls k _ _ l0 (IntKind.u64.wrap ((l1.length : Int))) t164 _ ?side1 ?side2 A4.out).mono ?_); (case side1 => exact cl_ HR0.out); (case side2 => exact HC0.out); rintro e w8 ⟨v165, rfl, ho0, hb⟩; refine ⟨_, rfl, ?_⟩; have n0_ := Az.mk (Kd.R_lower ho0 (below_size (bl_ HB))); have n1_ := Az.mk (below_step (bl_ HB) hb); clear HB; have HO166 := n0_; have HB := n1_; clear n0_ n1_; (try clear hb); (try clear hb2); (try clear hk); (try clear hi); (try clear ho0)) | ((with_reducible refine gate_builtin (b := .append) (xs := #[.tmp 15, .tmp 16]) rfl ?_); at_builtin; refine Kd.R_append_rows (Kd.int .u8) (w0 := w) w.heap.size rfl (.tmp 15) (.tmp 16) 24 5 (.int .u8 0) 1 rfl Try.underlying24 info5 rfl (by decide) (by omega) v165 t164 l1 _ _ _ (fun _ => True) (fun _ => False) rfl rfl ?aO ?aR (fun _ _ h => h) (fun _ h => h.elim) ?aF ?aB ?aS ?aL ?_; (case aR => exact cl_ (Kd.C_below HR1.out HB.out)); (case aB => exact (bl_ HB)); (case aF => exact (fun _ _ => trivial)); (case aO => exact (rl_ HO166.out)); (case aS => exact (below_size (bl_ HB))); (case aL => have := LMc5.out; omega); intro v168 w9 ho hb hg hat; rw [← Ny167.out] at ho; have n0_ := Az.mk (hb); have n1_ := Az.mk (ho); clear HB; clear HO166; have HB := n0_; have HO169 := n1_; clear n0_ n1_; clear ho hb hg hat) | ((with_reducible refine gate_callee (f := 51) rfl ?_); refine goesL_ (some 20) rfl rfl Try.func51 (by kernel_rfl) rfl #[.slice A1 l1.length c1] rfl ar_ ?_; (with_reducible refine (frame_sum.calls k _ _ l1 t170 _ ?side1 ?side2 A6.out).mono ?_); (case side1 => exact cl_ (Kd.C_below HR1.out HB.out)); (case side2 => exact HC1.out); rintro e w10 ⟨v171, rfl, ho0, hb⟩; refine ⟨_, rfl, ?_⟩; have n0_ := Az.mk (Kd.R_elder' (rl_ HO169.out) (Kd.R_base ho0) hb); have n1_ := Az.mk (Kd.R_lower (Kd.R_new' ho0 (Kd.R_lt (rl_ HO169.out))) (below_size (bl_ HB))); have n2_ := Az.mk (below_step (bl_ HB) hb); clear HO169; clear HB; have HO169 := n0_; have HO172 := n1_; have HB := n2_; clear n0_ n1_ n2_; (try clear hb); (try clear hb2); (try clear hk); (try clear hi); (try clear ho0); obtain ⟨Ao12, co12, eo12⟩ := Kd.R_slice HO172.out; subst eo12) | ((with_reducible refine gate_builtin (b := .append) (xs := #[.tmp 18, .tmp 20]) rfl ?_); at_builtin; refine Kd.R_append_rows (Kd.int .u8) (w0 := w) w.heap.size rfl (.tmp 18) (.tmp 20) 24 5 (.int .u8 0) 1 rfl Try.underlying24 info5 rfl (by decide) (by omega) v168 y167 t170 _ _ _ (fun k_ => some k_ ≠ (.slice Ao12 t170.length co12 : Value).ownBlock) (fun _ => False) rfl rfl ?aO ?aR (fun _ _ h => h) (fun _ h => h.elim) ?aF ?aB ?aS ?aL ?_; (case aR => exact cl_ (Kd.R_reads' HO172.out).2.2); (case aB => exact (bl_ HB)); (case aF => exact (fun k_ hk => Kd.fresh' (Kd.R_lt (rl_ HO172.out)) k_ hk)); (case aO => exact (by (with_reducible repeat (first | apply Kd.R_alloc | apply Kd.R_drewN | apply Kd.R_drew)); exact Kd.R_mono HO169.out (fun _ hk => hk.2))); (case aS => exact (below_size (bl_ HB))); (case aL => have := LMc7.out; omega); intro v174 w11 ho hb hg hat; rw [← Ny173.out] at ho; have n0_ := Az.mk (Kd.R_after (ok := (fun _ => True)) (rl_ HO172.out) hg hat); have n1_ := Az.mk (hb); have n2_ := Az.mk (ho); clear HO172; clear HB; clear HO169; have HO172 := n0_; have HB := n1_; have HO175 := n2_; clear n0_ n1_ n2_; clear ho hb hg hat))
    go_ret2
    exact ⟨_, er_, by (with_reducible repeat (first | apply Kd.R_alloc | apply Kd.R_drewN | apply Kd.R_drew)); exact Kd.R_mono HO175.out (fun _ hk => trivial), bl_ HB⟩
   ·rw [if_neg c7] at H
    exact absurd H (by simp)
  ·rw [if_neg c5] at H
   exact absurd H (by simp)
section
open Go.Proofs.Ytiohnpphhepdfaa.RunWords
attribute [local go_sem] Oper.semAt_some
def run_Encode.piece (l : List S41) (size j : Nat) : List S41 := (l.take (j * size + min size (l.length - j * size))).drop (j * size)
def run_Encode.all (k : Nat) (l : List S41) (size : Nat) : Nat → Option (List (List Int))
 | 0 => some []
 | c + 1 => (run_Encode.all k l size c).bind fun bs => if c * size < l.length then (run_block.f k (run_Encode.piece l size c)).bind fun b => some (bs ++ [b]) else some bs
def run_Encode.out (k : Nat) : List (List Int) → List Int → Option (List Int × Int)
 | [], b => some (b, 0)
 | x :: xs, b => (frame_Put.f k b x).bind fun r => if r.2 = 0 then run_Encode.out k xs r.1 else some ([], r.2)
def run_Encode.f (k : Nat) (l0 : List S41) (a1 : Int) : Option (List Int × Int) :=
 if a1 < 1 then some ([], 1) else if a1 > 255 then some ([], 1) else
 (run_May.f k l0).bind fun e => if e = 0 then
  (if l0.length < 5000000000000 then
   (num_Put.f k [] (IntKind.u64.wrap a1)).bind fun t =>
   (run_Encode.all k l0 a1.toNat l0.length).bind fun bs =>
   (num_Put.f k [] 0).bind fun z => (num_Put.f k z (IntKind.u64.wrap (l0.length : Int))).bind fun en =>
   run_Encode.out k ((t :: bs) ++ [en]) []
  else none)
 else some ([], e)
theorem run_Encode.all_mono (l : List S41) (size k : Nat) : ∀ c, LeO (run_Encode.all k l size c) (run_Encode.all (k + 1) l size c)
 | 0 => LeO.refl _
 | c + 1 => by
  unfold run_Encode.all
  refine LeO.bind (run_Encode.all_mono l size k c) (fun bs => LeO.ite (LeO.bind (run_block.mono _ _) (fun _ => LeO.refl _)) (LeO.refl _))
theorem run_Encode.out_mono (k : Nat) : ∀ xs b, LeO (run_Encode.out k xs b) (run_Encode.out (k + 1) xs b)
 | [], _ => LeO.refl _
 | x :: xs, b => by
  unfold run_Encode.out
  exact LeO.bind (frame_Put.mono _ _ _) (fun r => LeO.ite (run_Encode.out_mono k xs _) (LeO.refl _))
theorem run_Encode.mono : ∀ a0 a1 k, LeO (run_Encode.f k a0 a1) (run_Encode.f (k + 1) a0 a1) := by
 intro a0 a1 k
 unfold run_Encode.f
 refine LeO.ite (LeO.refl _) (LeO.ite (LeO.refl _) (LeO.bind (run_May.mono _ _) (fun e => LeO.ite (LeO.ite (LeO.bind (num_Put.mono _ _ _) (fun t => LeO.bind (run_Encode.all_mono _ _ _ _) (fun bs => LeO.bind (num_Put.mono _ _ _) (fun z => LeO.bind (num_Put.mono _ _ _) (fun en => run_Encode.out_mono _ _ _))))) (LeO.none _)) (LeO.refl _))))
theorem lit_one {α : Type} {d : Kd α} {w : World} {base : Nat} {okj : Nat → Nat → Prop} {x : α} {u : Value} (h : d.M w base (okj 0) x (([u].drop (0 * d.sz)).take d.sz)) : ∀ j y, [x][j]? = some y → d.M w base (okj j) y (([u].drop (j * d.sz)).take d.sz)
 | 0, y, e => by cases e; exact h
 | j + 1, y, e => by simp at e
theorem leaves_two {P : Program} {fn : Func} {t u : Tmp} (h : fn.results = #[.tmp t, .tmp u]) {R : Ending → World → Prop} {tmps : Array Value} {w : World} (hR : R (.returned (.tuple #[tmps.getD t undef, tmps.getD u undef])) w) :
  bodyPostM Fence.wide 3 P fn R .ret { tmps := tmps, defers := [] } w := ⟨_, results_tmp2 h tmps P w, hR⟩
theorem enc_piece_len {l : List S41} {size j : Nat} (h : j * size < l.length) : (run_Encode.piece l size j).length = min size (l.length - j * size) := by
 unfold run_Encode.piece
 rw [List.length_drop, List.length_take]
 omega
theorem enc_piece_C {l : List S41} {size j c0 : Nat} {A0 : Option Addr} {W : World} (h : j * size < l.length) (hC : Kd.C k41 W A0 l.length l) (hc : l.length ≤ c0) : Kd.C k41 W (A0.map (·.add (j * size * 2))) (run_Encode.piece l size j).length (run_Encode.piece l size j) := by
 have := Kd.C_mid (c := c0) (lo := j * size) (hi := j * size + min size (l.length - j * size)) hC (by omega) (by omega) hc
 rwa [if_neg (by omega)] at this
theorem enc_all_some (k : Nat) (l : List S41) (size : Nat) : ∀ {c : Nat} (bs : List (List Int)), run_Encode.all k l size c = some bs → ∀ j, j < c → j * size < l.length → ∃ b, run_block.f k (run_Encode.piece l size j) = some b
 | 0, _, _, j, hj, _ => by omega
 | c + 1, bs, h, j, hj, hl => by
  unfold run_Encode.all at h
  obtain ⟨bs', h1, h2⟩ := Option.bind_eq_some_iff.mp h
  by_cases e : j = c
  ·subst e
   rw [if_pos hl] at h2
   obtain ⟨b, hb, _⟩ := Option.bind_eq_some_iff.mp h2
   exact ⟨b, hb⟩
  ·exact enc_all_some k l size bs' h1 j (by omega) hl
theorem enc_lt {size j n : Nat} (h1 : 1 ≤ size) (h : j * size < n) : j < n := Nat.lt_of_le_of_lt (Nat.le_mul_of_pos_right j h1) h
theorem enc_all_eq (k : Nat) (l : List S41) (size : Nat) : ∀ (c : Nat) (bs : List (List Int)), run_Encode.all k l size c = some bs → bs = (pieces l.length size c).map fun x => (run_block.f k (run_Encode.piece l size x.1)).getD []
 | 0, bs, h => by cases h; rfl
 | c + 1, bs, h => by
  unfold run_Encode.all at h
  obtain ⟨bs', h1, h2⟩ := Option.bind_eq_some_iff.mp h
  have ih := enc_all_eq k l size c bs' h1
  by_cases hl : c * size < l.length
  ·rw [if_pos hl] at h2
   obtain ⟨b, hb, h3⟩ := Option.bind_eq_some_iff.mp h2
   cases h3
   rw [pieces_succ hl, List.map_append, ← ih]
   simp [hb]
  ·rw [if_neg hl] at h2
   cases h2
   rw [pieces, dif_neg hl]
   exact ih
theorem enc_okp {w5 W : World} {base g : Nat} {v v5 : Value} {xs : List (List Int)} {bk : List Int} (hs : Kd.S (Kd.slice 5 (Kd.int .u8)) 24 w5 base (fun k_ => (k_ ≠ g ∧ k_ ≠ g + 1 ∧ k_ ≠ g + 1 + 1) ∧ some k_ ≠ v5.ownBlock) v xs) (ho : Kd.R (Kd.int .u8) 5 w5 W.drew.heap.size (fun _ => True) v5 bk) (hg : g + 1 + 1 < W.heap.size) :
  ∀ k_, some k_ = v5.ownBlock → (k_ ≠ g ∧ k_ ≠ g + 1 ∧ k_ ≠ g + 1 + 1) ∧ some k_ ≠ v.ownBlock := by
 intro k_ hk
 have h1 : W.heap.size ≤ k_ := Kd.R_base ho k_ hk.symm
 refine ⟨by omega, fun e => ?_⟩
 obtain ⟨_, h2⟩ := Kd.R_typed ho k_ hk.symm
 obtain ⟨_, h3⟩ := Kd.S_typed hs k_ e.symm
 rw [h2] at h3
 cases h3
def encI (k : Nat) (l0 : List S41) (A0 : Option Addr) (c0 : Nat) (t : List Int) (size g : Nat) (w : World) (pre : List (Piece l0.length size)) (W : World) : Prop :=
 ∃ v, W.heap[g]? = some (.cells #[v] 22 (0, 0)) ∧ Kd.S (Kd.slice 5 (Kd.int .u8)) 24 W w.heap.size (fun k_ => k_ ≠ g ∧ k_ ≠ g + 1 ∧ k_ ≠ g + 1 + 1) v (t :: pre.map fun x => (run_block.f k (run_Encode.piece l0 size x.1)).getD []) ∧
  W.heap[g + 1]? = some (.cells #[.slice A0 l0.length c0] 36 (0, 0)) ∧ W.heap[g + 1 + 1]? = some (.cells #[.int .i64 size] 3 (0, 0)) ∧ Below w.heap.size w W
theorem encI_own (k : Nat) (l0 : List S41) (A0 : Option Addr) (c0 : Nat) (t : List Int) (size g : Nat) (w W4 : World) (hg : g + 1 + 1 < W4.heap.size) (hw : w.heap.size ≤ W4.heap.size) : OwnFrom W4.heap.size (encI k l0 A0 c0 t size g w) := by
 rintro s A B row ⟨v, h1, h2, h3, h4, h5⟩ hgr hr
 have hne : ∀ j, j < W4.heap.size → some j ≠ row := fun j hj e => by have := (hr j e.symm).1; omega
 refine ⟨v, blk_grown h1 hgr (hne _ (by omega)), Kd.S_mono (Kd.S_step (Kd.S_bound h2) (fun k_ hk hlt => hgr.block k_ hlt (fun e => ?_))) (fun _ hk => hk.1), blk_grown h3 hgr (hne _ (by omega)), blk_grown h4 hgr (hne _ hg), ownFrom_below (β := Unit) (Nat.le_refl _) hw () A B row h5 hgr hr⟩
 obtain ⟨_, o, ho, hc⟩ := hr k_ e.symm
 obtain ⟨_, _, _, q, _, cells, hcc⟩ := hk
 rw [ho] at hcc
 cases hcc
 cases hc
theorem enc_okp2 {w7 : World} {base b2 g : Nat} {v v7 : Value} {xs : List (List Int)} {bk : List Int} (hs : Kd.S (Kd.slice 5 (Kd.int .u8)) 24 w7 base (fun k_ => (k_ ≠ g ∧ k_ ≠ g + 1 ∧ k_ ≠ g + 1 + 1) ∧ some k_ ≠ v7.ownBlock) v xs) (ho : Kd.R (Kd.int .u8) 5 w7 b2 (fun _ => True) v7 bk) (hg : g + 1 + 1 < b2) :
  ∀ k_, some k_ = v7.ownBlock → (k_ ≠ g ∧ k_ ≠ g + 1 ∧ k_ ≠ g + 1 + 1) ∧ some k_ ≠ v.ownBlock := by
 intro k_ hk
 have h1 : b2 ≤ k_ := Kd.R_base ho k_ hk.symm
 refine ⟨by omega, fun e => ?_⟩
 obtain ⟨_, h2⟩ := Kd.R_typed ho k_ hk.symm
 obtain ⟨_, h3⟩ := Kd.S_typed hs k_ e.symm
 rw [h2] at h3
 cases h3
theorem enc_def {w7 : World} {base D : Nat} {ok : Nat → Prop} {v : Value} {xs : List (List Int)} {o : Option (List Deferred)} (hs : Kd.S (Kd.slice 5 (Kd.int .u8)) 24 w7 base ok v xs) (hd : w7.heap[D]? = some (.deferred o)) : some D ≠ v.ownBlock := fun e => by
 obtain ⟨_, h3⟩ := Kd.S_typed hs D e.symm
 rw [hd] at h3
 cases h3
theorem blk_far' {w : World} {g D : Nat} {o : Obj} (h : w.heap[D]? = some o) (hne : D ≠ g) {u : Value} : (w.setCell ⟨g, 0, none⟩ u).heap[D]? = some o := (Below.heap_setCell w ⟨g, 0, none⟩ u D hne).trans h
theorem enc_all_len (k : Nat) (l : List S41) (size : Nat) : ∀ (c : Nat) (bs : List (List Int)), run_Encode.all k l size c = some bs → bs.length ≤ c
 | 0, bs, h => by cases h; simp
 | c + 1, bs, h => by
  unfold run_Encode.all at h
  obtain ⟨bs', h1, h2⟩ := Option.bind_eq_some_iff.mp h
  have ih := enc_all_len k l size c bs' h1
  by_cases hl : c * size < l.length
  ·rw [if_pos hl] at h2
   obtain ⟨b, hb, h3⟩ := Option.bind_eq_some_iff.mp h2
   cases h3
   rw [List.length_append, List.length_singleton]
   omega
  ·rw [if_neg hl] at h2
   cases h2
   omega
theorem leaves_mark {P : Program} {fn : Func} {t u : Tmp} (h : fn.results = #[.tmp t, .tmp u]) {w w' W4 : World} {D : Nat} {r1 : List Int} {r2 : Int} {tmps : Array Value} {v : Value} (hw : w.heap.size ≤ W4.heap.size) (hD : W4.heap.size ≤ D) (hd : w'.heap[D]? = some (.deferred (some []))) (hR : Kd.R (Kd.int .u8) 5 w' w.heap.size (fun _ => True) v r1) (hb : Below w.heap.size w w')
  (hv : tmps.getD t undef = v) (hu : tmps.getD u undef = .int .i64 r2) :
  bodyPostM Fence.wide 3 P fn (fun e w' => ∃ v0_ : Value, e = .returned (.tuple #[v0_, .int .i64 r2]) ∧ Kd.R (Kd.int .u8) 5 w' w.heap.size (fun _ => True) v0_ r1 ∧ Below w.heap.size w w') .ret { tmps := tmps, defers := [{ target := .collected D, args := #[] }] } w' := by
 refine ⟨by simp, .inl ⟨_, _, rfl, run_takeDeferred hd, _, results_tmp2 h tmps P _, v, by rw [hv, hu], Kd.R_mono (Kd.R_step (Kd.R_bound hR) (fun k_ hk hlt => World.putObj_heap_other (fun e => ?_))) (fun _ _ => trivial), ⟨hb.os, hb.tape, hb.output, Nat.le_trans hb.size (by simp [World.putObj]), fun k_ hk => (World.putObj_heap_other (by omega)).trans (hb.block k_ hk)⟩⟩⟩
 obtain ⟨_, _, _, q, _, cells, hcc⟩ := hk
 first | (rw [← e, hd] at hcc; cases hcc) | (rw [e, hd] at hcc; cases hcc)
theorem enc_done {k : Nat} {l0 : List S41} {A0 : Option Addr} {c0 : Nat} {t : List Int} {size g : Nat} {w W w5 w6 : World} {B : Nat} {pre : List (Piece l0.length size)} {x : Piece l0.length size} {v v5 : Value} {A6 : Option Addr} {c6 n6 : Nat} {bk : List Int}
  (b7 : W.heap[g]? = some (.cells #[v] 22 (0, 0))) (bsx : W.heap[g + 1]? = some (.cells #[.slice A0 l0.length c0] 36 (0, 0))) (bnx : W.heap[g + 1 + 1]? = some (.cells #[.int .i64 size] 3 (0, 0))) (hb5 : Below W.drew.heap.size W.drew w5)
  {xs : List (List Int)} (hs5 : Kd.S (Kd.slice 5 (Kd.int .u8)) 24 w5 w.heap.size (fun k_ => (k_ ≠ g ∧ k_ ≠ g + 1 ∧ k_ ≠ g + 1 + 1) ∧ some k_ ≠ v5.ownBlock) v xs) (hg6 : w5.grownBy w6 v.ownBlock)
  (ho6 : Kd.S (Kd.slice 5 (Kd.int .u8)) 24 w6 w.heap.size (fun k_ => k_ ≠ g ∧ k_ ≠ g + 1 ∧ k_ ≠ g + 1 + 1) (.slice A6 n6 c6) ((t :: pre.map fun x => (run_block.f k (run_Encode.piece l0 size x.1)).getD []) ++ [bk])) (hb6 : Below w.heap.size w w6) (hbk : run_block.f k (run_Encode.piece l0 size x.1) = some bk) (hwg : w.heap.size ≤ g) :
  KeepsFrom B W (w6.setCell ⟨g, 0, none⟩ (.slice A6 n6 c6)) ∧ KeepsTwo (g + 1) (g + 1 + 1) W (w6.setCell ⟨g, 0, none⟩ (.slice A6 n6 c6)) ∧ encI k l0 A0 c0 t size g w (pre ++ [x]) (w6.setCell ⟨g, 0, none⟩ (.slice A6 n6 c6)) := by
 have e7 := blk_grown (blk_below (blk_drew b7) hb5) hg6 (Kd.S_away hs5 (fun _ hk => hk.1.1))
 have es := blk_far (blk_grown (blk_below (blk_drew bsx) hb5) hg6 (Kd.S_away hs5 (fun _ hk => hk.1.2.1))) (p := ⟨g, 0, none⟩) (by simp) (.slice A6 n6 c6)
 have en := blk_far (blk_grown (blk_below (blk_drew bnx) hb5) hg6 (Kd.S_away hs5 (fun _ hk => hk.1.2.2))) (p := ⟨g, 0, none⟩) (by show g + 1 + 1 ≠ g; omega) (.slice A6 n6 c6)
 refine ⟨⟨?_, fun k_ o _ hk hc => ?_⟩, ⟨es.trans bsx.symm, en.trans bnx.symm⟩, ⟨_, blk_set e7 0 _, ?_, es, en, below_set hb6 hwg⟩⟩
 ·rw [World.size_setCell]
  exact Nat.le_trans hb5.size hg6.size
 ·have h5 : w5.heap[k_]? = some o := blk_below (blk_drew hk) hb5
  have hne : some k_ ≠ v.ownBlock := fun e => by
   obtain ⟨_, h⟩ := Kd.S_typed hs5 k_ e.symm
   rw [h] at h5
   cases h5
   cases hc
  have h6 := blk_grown h5 hg6 hne
  refine (Below.heap_setCell _ ⟨g, 0, none⟩ _ k_ (fun e => ?_)).trans h6
  rw [show k_ = g from e, b7] at hk
  cases hk
  cases hc
 ·have := Kd.S_far ho6 (p := ⟨g, 0, none⟩) (fun _ hk => hk.1) (.slice A6 n6 c6)
  rw [List.map_append, List.map_cons, List.map_nil, hbk, Option.getD_some]
  exact this
theorem run_Encode.calls (k : Nat) (A0 : Option Addr) (c0 : Nat) (l0 : List (S41)) (a1 : Int) (r1 : List Int) (r2 : Int) (w : World) (hr0 : Kd.C k41 w A0 l0.length l0) (hc0 : l0.length ≤ c0) (h : run_Encode.f k l0 a1 = some (r1, r2)) :
  Calls Try.prog 16 #[.slice A0 l0.length c0, .int .i64 a1] w fun e w' => ∃ v0_ : Value, e = .returned (.tuple #[v0_, .int .i64 r2]) ∧ Kd.R (Kd.int .u8) 5 w' w.heap.size (fun _ => True) v0_ r1 ∧ Below w.heap.size w w' := by
 have HR0 := Az.mk hr0
 have HC0 := Az.mk hc0
 clear hr0 hc0
 unfold run_Encode.f at h
 refine (callsIn_wide (n := 3)).1 (callsIn_of_wp_marks Try.func16 rfl trivial (wpIn_wide.2 ?_) rfl)
 simp only [Try.ntmps16, List.size_toArray, List.length_cons, List.length_nil, Nat.reduceAdd, Nat.reduceSub, Array.replicate_succ, Array.replicate_zero, List.push_toArray, List.append_toArray, List.nil_append, List.cons_append]
 have HB := Az.mk (Below.refl w.heap.size w)
 by_cases c1 : a1 < 1
 ·rw [if_pos c1] at h
  have c1b : decide (a1 < 1) = true := decide_eq_true c1
  clear c1
  simp only [Option.some.injEq, Prod.mk.injEq] at h
  obtain ⟨rfl, rfl⟩ := h
  go_wp2
  exact leaves_two rfl ⟨_, rfl, Kd.R_nil _ _ _ _ _, HB.out⟩
 rw [if_neg c1] at h
 have c1b : decide (a1 < 1) = false := decide_eq_false c1
 by_cases c2 : a1 > 255
 ·rw [if_pos c2] at h
  have c2b : decide (255 < a1) = true := decide_eq_true c2
  clear c2 c1
  simp only [Option.some.injEq, Prod.mk.injEq] at h
  obtain ⟨rfl, rfl⟩ := h
  go_wp2
  exact leaves_two rfl ⟨_, rfl, Kd.R_nil _ _ _ _ _, HB.out⟩
 rw [if_neg c2] at h
 have c2b : decide (255 < a1) = false := decide_eq_false c2
 replace h := Option.bind_eq_some_iff.mp h
 obtain ⟨e, G1, h⟩ := h
 have G1 := Az.mk G1
 obtain ⟨size, rfl⟩ := Int.eq_ofNat_of_zero_le (show 0 ≤ a1 by omega)
 have C12 := Az.mk (show 1 ≤ size ∧ size ≤ 255 by omega)
 clear c1 c2
 by_cases c3 : e = 0
 ·rw [if_pos c3] at h
  have c3b : (e != 0) = false := bne_eq_false_iff_eq.mpr c3
  clear c3
  by_cases c4 : l0.length < 5000000000000
  ·rw [if_pos c4] at h
   have LM := Az.mk c4
   clear c4
   replace h := Option.bind_eq_some_iff.mp h
   obtain ⟨t, G2, h⟩ := h
   replace h := Option.bind_eq_some_iff.mp h
   obtain ⟨bs, G3, h⟩ := h
   replace h := Option.bind_eq_some_iff.mp h
   obtain ⟨z, G4, h⟩ := h
   replace h := Option.bind_eq_some_iff.mp h
   obtain ⟨en, G5, h⟩ := h
   have G2 := Az.mk G2
   have G3 := Az.mk G3
   have G4 := Az.mk G4
   have G5 := Az.mk G5
   have H := Az.mk h
   clear h
   go_upto_region 7 with (first | (go_at_call 24; refine (run_May.calls k A0 c0 l0 e _ (Kd.C_below HR0.out HB.out) HC0.out G1.out).mono ?_; rintro e_ w1 ⟨rfl, hb⟩; have HB1 := Az.mk (below_step HB.out hb); clear hb HB) | (go_at_call 30; refine (num_Put.calls k _ _ ([] : List Int) (IntKind.u64.wrap (size : Int)) t _ (Kd.C_nil _ _) (Nat.le_refl _) G2.out).mono ?_; rintro e_ w2 ⟨v2, rfl, ho2, hb2⟩; have HO2 := Az.mk (Kd.R_lower ho2 HB1.out.size); have HB2 := Az.mk (below_step HB1.out hb2); clear ho2 hb2 HB1; obtain ⟨Av, cv, eo2⟩ := Kd.R_slice HO2.out; subst eo2) | ((with_reducible refine gate_dst (N := 28) rfl ?_); refine Kd.S_lits (Kd.slice 5 (Kd.int .u8)) (w0 := w) w.heap.size 24 ?hg (N := 28) ?hd (xs := [t]) (inner := [.slice Av t.length cv]) (ok := fun _ => True) (fun j k_ => j = 0 ∧ some k_ = (.slice Av t.length cv : Value).ownBlock) ?hr ?hl ?hrep ?hap (fun _ _ _ => trivial) trivial ?hB ?hS (by simp) ?_; (case hd => rfl); (case hg => rfl); (case hr => first | (go_simp; done) | (go_simp; rfl)); (case hl => rfl); (case hB => exact HB2.out); (case hS => exact HB2.out.size); (case hap => exact (fun i j k_ h1 h2 => h1.1.trans h2.1.symm)); (case hrep => exact lit_one (Kd.M_row (Kd.R_mono (Kd.R_tight rfl HO2.out) (fun k_ hk => ⟨rfl, hk⟩)))); intro v3 w3 ho3 hb3 hg3 hnew3; have HS3 := Az.mk ho3; have HB3 := Az.mk hb3; clear ho3 hb3 hg3 hnew3 HO2 HB2; obtain ⟨A3, c3, eo3, _⟩ := Kd.S_reads HS3.out; subst eo3))
   go_wp2_with (go_at_call 31; refine (chunk.calls A0 l0.length c0 (size : Int) (by have := C12.out.1; omega) _).mono ?_; rintro e_ w4 ⟨rfl, rfl⟩)
   have hs3 := Kd.S_elderB (Kd.S_elderB (Kd.S_elderB HS3.out w3.heap.size (Nat.le_refl _)) (w3.heap.size + 1) (by omega)) (w3.heap.size + 1 + 1) (by omega)
   have hs4 := Kd.S_alloc (Kd.S_alloc (Kd.S_alloc hs3 (.cells #[.slice A3 1 c3] 22 (0, 0))) (.cells #[.slice A0 l0.length c0] 36 (0, 0))) (.cells #[.int .i64 size] 3 (0, 0))
   have bk7 := blk_alloc (blk_alloc (blk_new w3 (.cells #[.slice A3 1 c3] 22 (0, 0))) (.cells #[.slice A0 l0.length c0] 36 (0, 0))) (.cells #[.int .i64 size] 3 (0, 0))
   have bks := blk_alloc (blk_new (w3.alloc (.cells #[.slice A3 1 c3] 22 (0, 0))) (.cells #[.slice A0 l0.length c0] 36 (0, 0))) (.cells #[.int .i64 size] 3 (0, 0))
   have bkn := blk_new ((w3.alloc (.cells #[.slice A3 1 c3] 22 (0, 0))).alloc (.cells #[.slice A0 l0.length c0] 36 (0, 0))) (.cells #[.int .i64 size] 3 (0, 0))
   rw [World.size_alloc] at bks bkn
   rw [World.size_alloc] at bkn
   have hb4 := below_alloc (below_alloc (below_alloc HB3.out (.cells #[.slice A3 1 c3] 22 (0, 0))) (.cells #[.slice A0 l0.length c0] 36 (0, 0))) (.cells #[.int .i64 size] 3 (0, 0))
   have hg3 : w.heap.size ≤ w3.heap.size := HB3.out.size
   clear hs3
   generalize hgg : w3.heap.size = g at *
   generalize hW4 : ((w3.alloc (.cells #[.slice A3 1 c3] 22 (0, 0))).alloc (.cells #[.slice A0 l0.length c0] 36 (0, 0))).alloc (.cells #[.int .i64 size] 3 (0, 0)) = W4 at *
   have hgn : g + 1 + 1 < W4.heap.size := blk_lt bkn
   refine wpIn_wide.1 (wpIn_rangeFunc_ownG (n := 3) (w0 := W4) rfl (by decide) (gf := 49) (lb := #[.pointer (some ⟨g + 1, 0, none⟩), .pointer (some ⟨g + 1 + 1, 0, none⟩)]) rfl trivial (Go.Proofs.enters_of Try.func49 (by kernel_rfl) rfl)
    (chunk_stops 2 (by decide) (g + 1) (g + 1 + 1) A0 l0.length c0 size C12.out.1 C12.out.2 HC0.out (by have := LM.out; omega) W4 bks bkn) (fun h1 h2 => ⟨h2.1.trans h1.1, h2.2.trans h1.2⟩) (fun W l o o' hl _ _ _ => ⟨World.putObj_heap_other (by omega), World.putObj_heap_other (by omega)⟩) (Below.refl _ _) (fun _ => rfl)
    (fun pre W => encI k l0 A0 c0 t size g w pre W) (fun _ _ _ => False) (encI_own k l0 A0 c0 t size g w W4 hgn (by omega)) (fun _ _ _ _ _ hs _ _ => hs)
    ⟨_, bk7, Kd.S_mono hs4 (fun k_ hk => ⟨hk.1.1.2, hk.1.2, hk.2⟩), bks, bkn, hb4⟩
    (fun x => { tmps := #[Value.slice A0 l0.length c0, Value.int IntKind.i64 size, undef, undef, Value.slice none 0 0, Value.int IntKind.i64 0, Value.int IntKind.i64 e, Value.pointer (some ⟨g, 0, none⟩), pieceVal A0 l0.length size x, undef, undef, undef, undef, undef, Value.int IntKind.i64 size, Value.bool false, Value.bool false, Value.int IntKind.i64 size, Value.bool false, Value.bool false, Value.slice A0 l0.length c0, Value.int IntKind.i64 e, Value.int IntKind.i64 e, Value.bool false, undef, Value.int IntKind.i64 size, Value.int IntKind.u64 (IntKind.u64.wrap (size : Int)), Value.slice Av t.length cv, Value.slice A3 1 c3, Value.slice A0 l0.length c0, Value.int IntKind.i64 size, Value.func (Fn.func 49) #[] #[Value.pointer (some ⟨g + 1, 0, none⟩), Value.pointer (some ⟨g + 1 + 1, 0, none⟩)], pieceVal A0 l0.length size x, undef, undef, undef, undef, undef, undef, undef, undef, undef, undef, undef, undef, undef, undef, undef, undef, undef, undef, undef, undef, undef, undef, undef, undef, undef, undef, undef, undef, undef, undef, undef], defers := [] }) ?assign ?body ?done ?stop)
   case assign =>
    intro l x W K hK
    gi_wp2
    exact hK
   case body =>
    rintro l pre x W ⟨v, b7, hs, bsx, bnx, hb⟩ hpre
    have hpieceC : Kd.C k41 W (A0.map (·.add (x.1 * size * 2))) (run_Encode.piece l0 size x.1).length (run_Encode.piece l0 size x.1) := enc_piece_C (by have := x.2; exact this) (Kd.C_below HR0.out hb) HC0.out
    have hpv : pieceVal A0 l0.length size x = .slice (A0.map (·.add (x.1 * size * 2))) (run_Encode.piece l0 size x.1).length (min size (l0.length - x.1 * size)) := by
     unfold pieceVal
     rw [enc_piece_len (by have := x.2; exact this)]
    obtain ⟨bk, hbk⟩ : ∃ bk, run_block.f k (run_Encode.piece l0 size x.1) = some bk := enc_all_some k l0 size _ G3.out x.1 (enc_lt C12.out.1 x.2) x.2
    have hcl7 : W.cell? ⟨g, 0, none⟩ = some v := blk_cell b7 0
    refine wpIn_block ?_
    refine region_round (by kernel_rfl) (noDefer_spec (by kernel_rfl)) (fun h => by obtain ⟨_, _, h⟩ := h; exact h) ?_
    change wpAny _ _ _ _ _ _ _ (World.drew W)
    refine wpAny_take (i := 1) (v := ?_) rfl (by kernel_rfl) (by kernel_rfl) (by kernel_rfl) (fun _ _ _ h => h) (Or.inl ⟨by rfl, ?_⟩) ?_
    rotate_left
    ·intro w_
     go_simp
     with_reducible rfl
    have hpl : (run_Encode.piece l0 size x.1).length ≤ min size (l0.length - x.1 * size) := by rw [enc_piece_len (by have := x.2; exact this)]; exact Nat.le_refl _
    have hgW : g + 1 + 1 < W.heap.size := blk_lt bnx
    refine wpAny_ready (rs := [0, 2]) (by kernel_rfl) (by simp) ?_
    refine AllReady.cons rfl (fun K hK => ?_) (AllReady.cons rfl (fun K hK => ?_) AllReady.nil)
    ·go_simp
     refine hK _ _ ?_
     clear hK K
     refine wpAny_ready (rs := [2]) (by kernel_rfl) (by simp) ?_
     refine AllReady.cons rfl (fun K hK => ?_) AllReady.nil
     go_simp
     refine (run_block.calls k _ _ (run_Encode.piece l0 size x.1) bk _ (Kd.C_drew hpieceC) hpl hbk).mono ?_
     rintro e_ w5 ⟨v5, rfl, ho5, hb5⟩
     have hcl5 : w5.cell? ⟨g, 0, none⟩ = some v := blk_cell (blk_below (blk_drew b7) hb5) 0
     obtain ⟨A5, c5, eo5⟩ := Kd.R_slice ho5
     subst eo5
     have hcl5' : (w5.alloc (.cells #[.slice A5 bk.length c5] 24 (0, 0))).cell? ⟨g, 0, none⟩ = some v := blk_cell (blk_alloc (blk_below (blk_drew b7) hb5) _) 0
     refine hK _ _ ?_
     clear hK K
     have hs5 := Kd.S_elder' (Kd.S_below hs (below_drew1 (Below.refl _ W))) (Kd.R_base ho5) hb5
     have hbw5 := below_step (below_drew1 hb) hb5
     have hs5' := Kd.S_mono (ok' := fun k_ => (k_ ≠ g ∧ k_ ≠ g + 1 ∧ k_ ≠ g + 1 + 1) ∧ ¬ some k_ = (.slice A5 bk.length c5 : Value).ownBlock) hs5 (fun _ hk => hk)
     refine wpAny_ready (rs := [3]) (by kernel_rfl) (by simp) ?_
     refine AllReady.cons rfl (fun K hK => ?_) AllReady.nil
     go_simp
     refine hK _ _ ?_
     clear hK K
     refine wpAny_ready (rs := [4]) (by kernel_rfl) (by simp) ?_
     refine AllReady.cons rfl (fun K hK => ?_) AllReady.nil
     refine Kd.S_append_step (Kd.slice 5 (Kd.int .u8)) (w0 := w) w.heap.size rfl (.tmp 33) (.tmp 36) 22 24 (.slice none 0 0) 24 rfl Try.underlying22 info24 rfl (by decide) (by omega) v _ bk [.slice A5 bk.length c5] (fun k_ => k_ ≠ g ∧ k_ ≠ g + 1 ∧ k_ ≠ g + 1 + 1) (fun k_ => some k_ = (.slice A5 bk.length c5 : Value).ownBlock) rfl rfl (Kd.M_row (Kd.R_tight rfl (Kd.R_lower ho5 hb.size))) (enc_okp hs5 ho5 hgW) (fun k_ hk => by have : W.heap.size ≤ w5.heap.size := hb5.size; omega) hs5' hbw5 hbw5.size ?_ ?_
     ·rw [List.length_cons, List.length_map]
      have := LM.out
      omega
     intro v6 w6 ho6 hb6 hg6 hat6
     refine hK _ _ ?_
     clear hK K
     have b76 := blk_grown (blk_below (blk_drew b7) hb5) hg6 (Kd.S_away hs5 (fun _ hk => hk.1.1))
     obtain ⟨A6, c6, eo6, _⟩ := Kd.S_reads ho6
     generalize (t :: pre.map (fun x => (run_block.f k (run_Encode.piece l0 size x.1)).getD []) ++ [bk]).length = n6 at eo6
     subst eo6
     have hcl6 : w6.cell? ⟨g, 0, none⟩ = some v := blk_cell b76 0
     have hfr6 : w6.frozen? ⟨g, 0, none⟩ = false := blk_frozen b76 0
     refine wpAny_ready (rs := [5]) (by kernel_rfl) (by simp) ?_
     refine AllReady.cons rfl (fun K hK => ?_) AllReady.nil
     go_simp
     refine hK _ _ ?_
     refine wpAny_done (by kernel_rfl) ?_ _
     exact enc_done b7 bsx bnx hb5 hs5 hg6 ho6 hb6 hbk (by omega)
    ·go_simp
     refine (run_block.calls k _ _ (run_Encode.piece l0 size x.1) bk _ (Kd.C_drew hpieceC) hpl hbk).mono ?_
     rintro e_ w5 ⟨v5, rfl, ho5, hb5⟩
     have hcl5 : w5.cell? ⟨g, 0, none⟩ = some v := blk_cell (blk_below (blk_drew b7) hb5) 0
     obtain ⟨A5, c5, eo5⟩ := Kd.R_slice ho5
     subst eo5
     have hcl5' : (w5.alloc (.cells #[.slice A5 bk.length c5] 24 (0, 0))).cell? ⟨g, 0, none⟩ = some v := blk_cell (blk_alloc (blk_below (blk_drew b7) hb5) _) 0
     refine hK _ _ ?_
     clear hK K
     have hs5 := Kd.S_elder' (Kd.S_below hs (below_drew1 (Below.refl _ W))) (Kd.R_base ho5) hb5
     have hbw5 := below_step (below_drew1 hb) hb5
     have hs5' := Kd.S_mono (ok' := fun k_ => (k_ ≠ g ∧ k_ ≠ g + 1 ∧ k_ ≠ g + 1 + 1) ∧ ¬ some k_ = (.slice A5 bk.length c5 : Value).ownBlock) hs5 (fun _ hk => hk)
     refine wpAny_ready (rs := [0, 3]) (by kernel_rfl) (by simp) ?_
     refine AllReady.cons rfl (fun K hK => ?_) (AllReady.cons rfl (fun K hK => ?_) AllReady.nil)
     ·go_simp
      refine hK _ _ ?_
      clear hK K
      refine wpAny_ready (rs := [3]) (by kernel_rfl) (by simp) ?_
      refine AllReady.cons rfl (fun K hK => ?_) AllReady.nil
      go_simp
      refine hK _ _ ?_
      clear hK K
      refine wpAny_ready (rs := [4]) (by kernel_rfl) (by simp) ?_
      refine AllReady.cons rfl (fun K hK => ?_) AllReady.nil
      refine Kd.S_append_step (Kd.slice 5 (Kd.int .u8)) (w0 := w) w.heap.size rfl (.tmp 33) (.tmp 36) 22 24 (.slice none 0 0) 24 rfl Try.underlying22 info24 rfl (by decide) (by omega) v _ bk [.slice A5 bk.length c5] (fun k_ => k_ ≠ g ∧ k_ ≠ g + 1 ∧ k_ ≠ g + 1 + 1) (fun k_ => some k_ = (.slice A5 bk.length c5 : Value).ownBlock) rfl rfl (Kd.M_row (Kd.R_tight rfl (Kd.R_lower ho5 hb.size))) (enc_okp hs5 ho5 hgW) (fun k_ hk => by have : W.heap.size ≤ w5.heap.size := hb5.size; omega) hs5' hbw5 hbw5.size ?_ ?_
      ·rw [List.length_cons, List.length_map]
       have := LM.out
       omega
      intro v6 w6 ho6 hb6 hg6 hat6
      refine hK _ _ ?_
      clear hK K
      have b76 := blk_grown (blk_below (blk_drew b7) hb5) hg6 (Kd.S_away hs5 (fun _ hk => hk.1.1))
      obtain ⟨A6, c6, eo6, _⟩ := Kd.S_reads ho6
      generalize (t :: pre.map (fun x => (run_block.f k (run_Encode.piece l0 size x.1)).getD []) ++ [bk]).length = n6 at eo6
      subst eo6
      have hcl6 : w6.cell? ⟨g, 0, none⟩ = some v := blk_cell b76 0
      have hfr6 : w6.frozen? ⟨g, 0, none⟩ = false := blk_frozen b76 0
      refine wpAny_ready (rs := [5]) (by kernel_rfl) (by simp) ?_
      refine AllReady.cons rfl (fun K hK => ?_) AllReady.nil
      go_simp
      refine hK _ _ ?_
      refine wpAny_done (by kernel_rfl) ?_ _
      exact enc_done b7 bsx bnx hb5 hs5 hg6 ho6 hb6 hbk (by omega)
     ·go_simp
      refine hK _ _ ?_
      clear hK K
      refine wpAny_ready (rs := [0]) (by kernel_rfl) (by simp) ?_
      refine AllReady.cons rfl (fun K hK => ?_) AllReady.nil
      go_simp
      refine hK _ _ ?_
      clear hK K
      refine wpAny_ready (rs := [4]) (by kernel_rfl) (by simp) ?_
      refine AllReady.cons rfl (fun K hK => ?_) AllReady.nil
      refine Kd.S_append_step (Kd.slice 5 (Kd.int .u8)) (w0 := w) w.heap.size rfl (.tmp 33) (.tmp 36) 22 24 (.slice none 0 0) 24 rfl Try.underlying22 info24 rfl (by decide) (by omega) v _ bk [.slice A5 bk.length c5] (fun k_ => k_ ≠ g ∧ k_ ≠ g + 1 ∧ k_ ≠ g + 1 + 1) (fun k_ => some k_ = (.slice A5 bk.length c5 : Value).ownBlock) rfl rfl (Kd.M_row (Kd.R_tight rfl (Kd.R_lower ho5 hb.size))) (enc_okp hs5 ho5 hgW) (fun k_ hk => by have : W.heap.size ≤ w5.heap.size := hb5.size; omega) hs5' hbw5 hbw5.size ?_ ?_
      ·rw [List.length_cons, List.length_map]
       have := LM.out
       omega
      intro v6 w6 ho6 hb6 hg6 hat6
      refine hK _ _ ?_
      clear hK K
      have b76 := blk_grown (blk_below (blk_drew b7) hb5) hg6 (Kd.S_away hs5 (fun _ hk => hk.1.1))
      obtain ⟨A6, c6, eo6, _⟩ := Kd.S_reads ho6
      generalize (t :: pre.map (fun x => (run_block.f k (run_Encode.piece l0 size x.1)).getD []) ++ [bk]).length = n6 at eo6
      subst eo6
      have hcl6 : w6.cell? ⟨g, 0, none⟩ = some v := blk_cell b76 0
      have hfr6 : w6.frozen? ⟨g, 0, none⟩ = false := blk_frozen b76 0
      refine wpAny_ready (rs := [5]) (by kernel_rfl) (by simp) ?_
      refine AllReady.cons rfl (fun K hK => ?_) AllReady.nil
      go_simp
      refine hK _ _ ?_
      refine wpAny_done (by kernel_rfl) ?_ _
      exact enc_done b7 bsx bnx hb5 hs5 hg6 ho6 hb6 hbk (by omega)
   case done =>
    rintro D ys W hD rfl ⟨v, b7, hs, bsx, bnx, hb⟩ hK0
    rw [← enc_all_eq k l0 size _ bs (by have := G3.out; simpa using this)] at hs
    have hgW : g + 1 + 1 < W.heap.size := blk_lt bnx
    go_wp2
    refine wp_mono (Q := fun e_ a_ w_ => e_ = .normal ∧ ∃ x38 x39 x43 x44 x45 : Value, a_ = { tmps := #[Value.slice A0 l0.length c0, Value.int IntKind.i64 size, undef, undef, Value.slice none 0 0, Value.int IntKind.i64 0, Value.int IntKind.i64 e, Value.pointer (some ⟨g, 0, none⟩), undef, undef, undef, undef, undef, undef, Value.int IntKind.i64 size, Value.bool false, Value.bool false, Value.int IntKind.i64 size, Value.bool false, Value.bool false, Value.slice A0 l0.length c0, Value.int IntKind.i64 e, Value.int IntKind.i64 e, Value.bool false, undef, Value.int IntKind.i64 size, Value.int IntKind.u64 (IntKind.u64.wrap (size : Int)), Value.slice Av t.length cv, Value.slice A3 1 c3, Value.slice A0 l0.length c0, Value.int IntKind.i64 size, Value.func (Fn.func 49) #[] #[Value.pointer (some ⟨g + 1, 0, none⟩), Value.pointer (some ⟨g + 1 + 1, 0, none⟩)], undef, undef, undef, undef, undef, undef, x38, x39, Value.slice A0 l0.length c0, Value.int IntKind.i64 l0.length, Value.int IntKind.u64 (IntKind.u64.wrap ((l0.length : Nat) : Int)), x43, x44, x45, undef, undef, undef, undef, undef, undef, undef, undef, undef, undef, undef, undef, undef, undef, undef, undef, undef, undef], defers := [{ target := .collected D, args := #[] }] } ∧ ∃ (A6 : Option Addr) (n6 c6 : Nat), n6 = ((t :: bs) ++ [en]).length ∧ w_.heap[g]? = some (.cells #[.slice A6 n6 c6] 22 (0, 0)) ∧ Kd.S (Kd.slice 5 (Kd.int .u8)) 24 w_ w.heap.size (fun _ => True) (.slice A6 n6 c6) ((t :: bs) ++ [en]) ∧ Below w.heap.size w w_ ∧ w_.heap[D]? = some (.deferred (some []))) ?reg ?rest
    case reg =>
     have hcl0 : W.cell? ⟨g, 0, none⟩ = some v := blk_cell b7 0
     refine wp_region_any (by kernel_rfl) ?_
     change wpAny _ _ _ _ _ _ _ (World.drew W)
     refine wpAny_take (i := 2) (v := ?_) rfl (by kernel_rfl) (by kernel_rfl) (by kernel_rfl) (fun _ _ _ h => absurd h.1 (by simp)) (Or.inl ⟨by rfl, ?_⟩) ?_
     rotate_left
     ·intro w_
      go_simp
      with_reducible rfl
     refine wpAny_take (i := 3) (v := ?_) rfl (by kernel_rfl) (by kernel_rfl) (by kernel_rfl) (fun _ _ _ h => absurd h.1 (by simp)) (Or.inl ⟨by rfl, ?_⟩) ?_
     rotate_left
     ·intro w_
      go_simp
      with_reducible rfl
     refine wpAny_take (i := 4) (v := ?_) rfl (by kernel_rfl) (by kernel_rfl) (by kernel_rfl) (fun _ _ _ h => absurd h.1 (by simp)) (Or.inl ⟨by rfl, ?_⟩) ?_
     rotate_left
     ·intro w_
      go_simp
      with_reducible rfl
     refine wpAny_ready (rs := [0, 1]) (by kernel_rfl) (by simp) ?_
     refine AllReady.cons rfl (fun K hK => ?_) (AllReady.cons rfl (fun K hK => ?_) AllReady.nil)
     ·go_simp
      refine hK _ _ ?_
      clear hK K
      refine wpAny_ready (rs := [1]) (by kernel_rfl) (by simp) ?_
      refine AllReady.cons rfl (fun K hK => ?_) AllReady.nil
      go_simp
      refine (num_Put.calls k _ _ ([] : List Int) 0 z _ (Kd.C_nil _ _) (Nat.le_refl _) G4.out).mono ?_
      rintro e_ w5 ⟨v5, rfl, ho5, hb5⟩
      obtain ⟨A5, c5, eo5⟩ := Kd.R_slice ho5
      subst eo5
      have b75 := blk_below (blk_drew b7) hb5
      have hcl5 : w5.cell? ⟨g, 0, none⟩ = some v := blk_cell b75 0
      have hs5 := Kd.S_below (Kd.S_below hs (below_drew1 (Below.refl _ W))) hb5
      have hbw5 := below_step (below_drew1 hb) hb5
      have hd5 := blk_below (blk_drew hK0) hb5
      refine hK _ _ ?_
      clear hK K
      refine wpAny_ready (rs := [5]) (by kernel_rfl) (by simp) ?_
      refine AllReady.cons rfl (fun K hK => ?_) AllReady.nil
      go_simp
      refine (num_Put.calls k _ _ z (IntKind.u64.wrap ((l0.length : Nat) : Int)) en _ (Kd.R_reads' ho5).2.2 (Kd.R_reads' ho5).2.1 G5.out).mono ?_
      rintro e_ w7 ⟨v7, rfl, ho7, hb7⟩
      obtain ⟨A7, c7, eo7⟩ := Kd.R_slice ho7
      subst eo7
      have b77 := blk_below b75 hb7
      have hcl7 : w7.cell? ⟨g, 0, none⟩ = some v := blk_cell b77 0
      have hcl7' : (w7.alloc (.cells #[.slice A7 en.length c7] 24 (0, 0))).cell? ⟨g, 0, none⟩ = some v := blk_cell (blk_alloc b77 _) 0
      have hs7 := Kd.S_elder' hs5 (Kd.R_base ho7) hb7
      have hbw7 := below_step hbw5 hb7
      have hd7 := blk_below hd5 hb7
      have hs7' := Kd.S_mono (ok' := fun k_ => (k_ ≠ g ∧ k_ ≠ g + 1 ∧ k_ ≠ g + 1 + 1) ∧ ¬ some k_ = (.slice A7 en.length c7 : Value).ownBlock) hs7 (fun _ hk => hk)
      refine hK _ _ ?_
      clear hK K
      refine wpAny_ready (rs := [6]) (by kernel_rfl) (by simp) ?_
      refine AllReady.cons rfl (fun K hK => ?_) AllReady.nil
      go_simp
      refine hK _ _ ?_
      clear hK K
      refine wpAny_ready (rs := [7]) (by kernel_rfl) (by simp) ?_
      refine AllReady.cons rfl (fun K hK => ?_) AllReady.nil
      refine Kd.S_append_step (Kd.slice 5 (Kd.int .u8)) (w0 := w) w.heap.size rfl (.tmp 38) (.tmp 44) 22 24 (.slice none 0 0) 24 rfl Try.underlying22 info24 rfl (by decide) (by omega) v _ en [.slice A7 en.length c7] (fun k_ => k_ ≠ g ∧ k_ ≠ g + 1 ∧ k_ ≠ g + 1 + 1) (fun k_ => some k_ = (.slice A7 en.length c7 : Value).ownBlock) rfl rfl (Kd.M_row (Kd.R_tight rfl (Kd.R_lower ho7 hbw5.size))) (enc_okp2 hs7 ho7 (by have : W.heap.size ≤ w5.heap.size := hb5.size; omega)) (fun k_ hk => by have : W.heap.size ≤ w5.heap.size := hb5.size; have : w5.heap.size ≤ w7.heap.size := hb7.size; omega) hs7' hbw7 hbw7.size ?_ ?_
      ·rw [List.length_cons]; have := LM.out; have := enc_all_len _ _ _ _ _ G3.out; omega
      intro v6 w6 ho6 hb6 hg6 hat6
      refine hK _ _ ?_
      clear hK K
      have b76 := blk_grown b77 hg6 (Kd.S_away hs7 (fun _ hk => hk.1.1))
      obtain ⟨A6, c6, eo6, _⟩ := Kd.S_reads ho6
      generalize hn6 : (t :: bs ++ [en]).length = n6 at eo6
      subst eo6
      have hcl6 : w6.cell? ⟨g, 0, none⟩ = some v := blk_cell b76 0
      have hfr6 : w6.frozen? ⟨g, 0, none⟩ = false := blk_frozen b76 0
      have hd6 := blk_grown hd7 hg6 (enc_def hs7 hd7)
      refine wpAny_ready (rs := [8]) (by kernel_rfl) (by simp) ?_
      refine AllReady.cons rfl (fun K hK => ?_) AllReady.nil
      go_simp
      refine hK _ _ ?_
      refine wpAny_done (by kernel_rfl) ?_ _
      exact ⟨rfl, _, _, _, _, _, rfl, A6, n6, c6, rfl, blk_set b76 0 _, Kd.S_mono (Kd.S_far ho6 (p := ⟨g, 0, none⟩) (fun _ hk => hk.1) (.slice A6 n6 c6)) (fun _ _ => trivial), below_set hb6 (by omega), blk_far' hd6 (by intro e_; have := hD; omega)⟩
     ·go_simp
      refine (num_Put.calls k _ _ ([] : List Int) 0 z _ (Kd.C_nil _ _) (Nat.le_refl _) G4.out).mono ?_
      rintro e_ w5 ⟨v5, rfl, ho5, hb5⟩
      obtain ⟨A5, c5, eo5⟩ := Kd.R_slice ho5
      subst eo5
      have b75 := blk_below (blk_drew b7) hb5
      have hcl5 : w5.cell? ⟨g, 0, none⟩ = some v := blk_cell b75 0
      have hs5 := Kd.S_below (Kd.S_below hs (below_drew1 (Below.refl _ W))) hb5
      have hbw5 := below_step (below_drew1 hb) hb5
      have hd5 := blk_below (blk_drew hK0) hb5
      refine hK _ _ ?_
      clear hK K
      refine wpAny_ready (rs := [0, 5]) (by kernel_rfl) (by simp) ?_
      refine AllReady.cons rfl (fun K hK => ?_) (AllReady.cons rfl (fun K hK => ?_) AllReady.nil)
      ·go_simp
       refine hK _ _ ?_
       clear hK K
       refine wpAny_ready (rs := [5]) (by kernel_rfl) (by simp) ?_
       refine AllReady.cons rfl (fun K hK => ?_) AllReady.nil
       go_simp
       refine (num_Put.calls k _ _ z (IntKind.u64.wrap ((l0.length : Nat) : Int)) en _ (Kd.R_reads' ho5).2.2 (Kd.R_reads' ho5).2.1 G5.out).mono ?_
       rintro e_ w7 ⟨v7, rfl, ho7, hb7⟩
       obtain ⟨A7, c7, eo7⟩ := Kd.R_slice ho7
       subst eo7
       have b77 := blk_below b75 hb7
       have hcl7 : w7.cell? ⟨g, 0, none⟩ = some v := blk_cell b77 0
       have hcl7' : (w7.alloc (.cells #[.slice A7 en.length c7] 24 (0, 0))).cell? ⟨g, 0, none⟩ = some v := blk_cell (blk_alloc b77 _) 0
       have hs7 := Kd.S_elder' hs5 (Kd.R_base ho7) hb7
       have hbw7 := below_step hbw5 hb7
       have hd7 := blk_below hd5 hb7
       have hs7' := Kd.S_mono (ok' := fun k_ => (k_ ≠ g ∧ k_ ≠ g + 1 ∧ k_ ≠ g + 1 + 1) ∧ ¬ some k_ = (.slice A7 en.length c7 : Value).ownBlock) hs7 (fun _ hk => hk)
       refine hK _ _ ?_
       clear hK K
       refine wpAny_ready (rs := [6]) (by kernel_rfl) (by simp) ?_
       refine AllReady.cons rfl (fun K hK => ?_) AllReady.nil
       go_simp
       refine hK _ _ ?_
       clear hK K
       refine wpAny_ready (rs := [7]) (by kernel_rfl) (by simp) ?_
       refine AllReady.cons rfl (fun K hK => ?_) AllReady.nil
       refine Kd.S_append_step (Kd.slice 5 (Kd.int .u8)) (w0 := w) w.heap.size rfl (.tmp 38) (.tmp 44) 22 24 (.slice none 0 0) 24 rfl Try.underlying22 info24 rfl (by decide) (by omega) v _ en [.slice A7 en.length c7] (fun k_ => k_ ≠ g ∧ k_ ≠ g + 1 ∧ k_ ≠ g + 1 + 1) (fun k_ => some k_ = (.slice A7 en.length c7 : Value).ownBlock) rfl rfl (Kd.M_row (Kd.R_tight rfl (Kd.R_lower ho7 hbw5.size))) (enc_okp2 hs7 ho7 (by have : W.heap.size ≤ w5.heap.size := hb5.size; omega)) (fun k_ hk => by have : W.heap.size ≤ w5.heap.size := hb5.size; have : w5.heap.size ≤ w7.heap.size := hb7.size; omega) hs7' hbw7 hbw7.size ?_ ?_
       ·rw [List.length_cons]; have := LM.out; have := enc_all_len _ _ _ _ _ G3.out; omega
       intro v6 w6 ho6 hb6 hg6 hat6
       refine hK _ _ ?_
       clear hK K
       have b76 := blk_grown b77 hg6 (Kd.S_away hs7 (fun _ hk => hk.1.1))
       obtain ⟨A6, c6, eo6, _⟩ := Kd.S_reads ho6
       generalize hn6 : (t :: bs ++ [en]).length = n6 at eo6
       subst eo6
       have hcl6 : w6.cell? ⟨g, 0, none⟩ = some v := blk_cell b76 0
       have hfr6 : w6.frozen? ⟨g, 0, none⟩ = false := blk_frozen b76 0
       have hd6 := blk_grown hd7 hg6 (enc_def hs7 hd7)
       refine wpAny_ready (rs := [8]) (by kernel_rfl) (by simp) ?_
       refine AllReady.cons rfl (fun K hK => ?_) AllReady.nil
       go_simp
       refine hK _ _ ?_
       refine wpAny_done (by kernel_rfl) ?_ _
       exact ⟨rfl, _, _, _, _, _, rfl, A6, n6, c6, rfl, blk_set b76 0 _, Kd.S_mono (Kd.S_far ho6 (p := ⟨g, 0, none⟩) (fun _ hk => hk.1) (.slice A6 n6 c6)) (fun _ _ => trivial), below_set hb6 (by omega), blk_far' hd6 (by intro e_; have := hD; omega)⟩
      ·go_simp
       refine (num_Put.calls k _ _ z (IntKind.u64.wrap ((l0.length : Nat) : Int)) en _ (Kd.R_reads' ho5).2.2 (Kd.R_reads' ho5).2.1 G5.out).mono ?_
       rintro e_ w7 ⟨v7, rfl, ho7, hb7⟩
       obtain ⟨A7, c7, eo7⟩ := Kd.R_slice ho7
       subst eo7
       have b77 := blk_below b75 hb7
       have hcl7 : w7.cell? ⟨g, 0, none⟩ = some v := blk_cell b77 0
       have hcl7' : (w7.alloc (.cells #[.slice A7 en.length c7] 24 (0, 0))).cell? ⟨g, 0, none⟩ = some v := blk_cell (blk_alloc b77 _) 0
       have hs7 := Kd.S_elder' hs5 (Kd.R_base ho7) hb7
       have hbw7 := below_step hbw5 hb7
       have hd7 := blk_below hd5 hb7
       have hs7' := Kd.S_mono (ok' := fun k_ => (k_ ≠ g ∧ k_ ≠ g + 1 ∧ k_ ≠ g + 1 + 1) ∧ ¬ some k_ = (.slice A7 en.length c7 : Value).ownBlock) hs7 (fun _ hk => hk)
       refine hK _ _ ?_
       clear hK K
       refine wpAny_ready (rs := [0, 6]) (by kernel_rfl) (by simp) ?_
       refine AllReady.cons rfl (fun K hK => ?_) (AllReady.cons rfl (fun K hK => ?_) AllReady.nil)
       ·go_simp
        refine hK _ _ ?_
        clear hK K
        refine wpAny_ready (rs := [6]) (by kernel_rfl) (by simp) ?_
        refine AllReady.cons rfl (fun K hK => ?_) AllReady.nil
        go_simp
        refine hK _ _ ?_
        clear hK K
        refine wpAny_ready (rs := [7]) (by kernel_rfl) (by simp) ?_
        refine AllReady.cons rfl (fun K hK => ?_) AllReady.nil
        refine Kd.S_append_step (Kd.slice 5 (Kd.int .u8)) (w0 := w) w.heap.size rfl (.tmp 38) (.tmp 44) 22 24 (.slice none 0 0) 24 rfl Try.underlying22 info24 rfl (by decide) (by omega) v _ en [.slice A7 en.length c7] (fun k_ => k_ ≠ g ∧ k_ ≠ g + 1 ∧ k_ ≠ g + 1 + 1) (fun k_ => some k_ = (.slice A7 en.length c7 : Value).ownBlock) rfl rfl (Kd.M_row (Kd.R_tight rfl (Kd.R_lower ho7 hbw5.size))) (enc_okp2 hs7 ho7 (by have : W.heap.size ≤ w5.heap.size := hb5.size; omega)) (fun k_ hk => by have : W.heap.size ≤ w5.heap.size := hb5.size; have : w5.heap.size ≤ w7.heap.size := hb7.size; omega) hs7' hbw7 hbw7.size ?_ ?_
        ·rw [List.length_cons]; have := LM.out; have := enc_all_len _ _ _ _ _ G3.out; omega
        intro v6 w6 ho6 hb6 hg6 hat6
        refine hK _ _ ?_
        clear hK K
        have b76 := blk_grown b77 hg6 (Kd.S_away hs7 (fun _ hk => hk.1.1))
        obtain ⟨A6, c6, eo6, _⟩ := Kd.S_reads ho6
        generalize hn6 : (t :: bs ++ [en]).length = n6 at eo6
        subst eo6
        have hcl6 : w6.cell? ⟨g, 0, none⟩ = some v := blk_cell b76 0
        have hfr6 : w6.frozen? ⟨g, 0, none⟩ = false := blk_frozen b76 0
        have hd6 := blk_grown hd7 hg6 (enc_def hs7 hd7)
        refine wpAny_ready (rs := [8]) (by kernel_rfl) (by simp) ?_
        refine AllReady.cons rfl (fun K hK => ?_) AllReady.nil
        go_simp
        refine hK _ _ ?_
        refine wpAny_done (by kernel_rfl) ?_ _
        exact ⟨rfl, _, _, _, _, _, rfl, A6, n6, c6, rfl, blk_set b76 0 _, Kd.S_mono (Kd.S_far ho6 (p := ⟨g, 0, none⟩) (fun _ hk => hk.1) (.slice A6 n6 c6)) (fun _ _ => trivial), below_set hb6 (by omega), blk_far' hd6 (by intro e_; have := hD; omega)⟩
       ·go_simp
        refine hK _ _ ?_
        clear hK K
        refine wpAny_ready (rs := [0]) (by kernel_rfl) (by simp) ?_
        refine AllReady.cons rfl (fun K hK => ?_) AllReady.nil
        go_simp
        refine hK _ _ ?_
        clear hK K
        refine wpAny_ready (rs := [7]) (by kernel_rfl) (by simp) ?_
        refine AllReady.cons rfl (fun K hK => ?_) AllReady.nil
        refine Kd.S_append_step (Kd.slice 5 (Kd.int .u8)) (w0 := w) w.heap.size rfl (.tmp 38) (.tmp 44) 22 24 (.slice none 0 0) 24 rfl Try.underlying22 info24 rfl (by decide) (by omega) v _ en [.slice A7 en.length c7] (fun k_ => k_ ≠ g ∧ k_ ≠ g + 1 ∧ k_ ≠ g + 1 + 1) (fun k_ => some k_ = (.slice A7 en.length c7 : Value).ownBlock) rfl rfl (Kd.M_row (Kd.R_tight rfl (Kd.R_lower ho7 hbw5.size))) (enc_okp2 hs7 ho7 (by have : W.heap.size ≤ w5.heap.size := hb5.size; omega)) (fun k_ hk => by have : W.heap.size ≤ w5.heap.size := hb5.size; have : w5.heap.size ≤ w7.heap.size := hb7.size; omega) hs7' hbw7 hbw7.size ?_ ?_
        ·rw [List.length_cons]; have := LM.out; have := enc_all_len _ _ _ _ _ G3.out; omega
        intro v6 w6 ho6 hb6 hg6 hat6
        refine hK _ _ ?_
        clear hK K
        have b76 := blk_grown b77 hg6 (Kd.S_away hs7 (fun _ hk => hk.1.1))
        obtain ⟨A6, c6, eo6, _⟩ := Kd.S_reads ho6
        generalize hn6 : (t :: bs ++ [en]).length = n6 at eo6
        subst eo6
        have hcl6 : w6.cell? ⟨g, 0, none⟩ = some v := blk_cell b76 0
        have hfr6 : w6.frozen? ⟨g, 0, none⟩ = false := blk_frozen b76 0
        have hd6 := blk_grown hd7 hg6 (enc_def hs7 hd7)
        refine wpAny_ready (rs := [8]) (by kernel_rfl) (by simp) ?_
        refine AllReady.cons rfl (fun K hK => ?_) AllReady.nil
        go_simp
        refine hK _ _ ?_
        refine wpAny_done (by kernel_rfl) ?_ _
        exact ⟨rfl, _, _, _, _, _, rfl, A6, n6, c6, rfl, blk_set b76 0 _, Kd.S_mono (Kd.S_far ho6 (p := ⟨g, 0, none⟩) (fun _ hk => hk.1) (.slice A6 n6 c6)) (fun _ _ => trivial), below_set hb6 (by omega), blk_far' hd6 (by intro e_; have := hD; omega)⟩
    case rest =>
     rintro _ _ W6 ⟨rfl, x38, x39, x43, x44, x45, rfl, A6, n6, c6, hn6, b76, hs6, hb6, hd6⟩
     have hcl6 : W6.cell? ⟨g, 0, none⟩ = some (.slice A6 n6 c6) := blk_cell b76 0
     clear hs b7 hb hK0
     obtain ⟨-, hc6, hC6⟩ := Kd.S_reads' hs6
     have H := H.out
     have hrl : ((t :: bs) ++ [en]).length ≤ l0.length + 2 := by
      have := enc_all_len _ _ _ _ _ G3.out
      rw [List.length_append, List.length_cons, List.length_singleton]
      omega
     generalize hrecs : (t :: bs) ++ [en] = recs at hn6 hC6 H hs6 hrl
     have HRL := Az.mk hrl
     clear hrl
     subst hn6
     have HH := Az.mk H
     have HC6 := Az.mk hC6
     have HB6 := Az.mk hb6
     have HD6 := Az.mk hd6
     have HDD := Az.mk hD
     have hw4 : w.heap.size ≤ W4.heap.size := by omega
     clear hrecs H hC6 hb6 hd6 hs6 b76 hD G2 G3 G4 G5
     go_wp2
     go_loopg [9, 48] recs.length (fun kq v9 v48 w' => ∃ (x9 : List Int) (i : Int), v48 = .int .i64 i ∧ Az (0 ≤ i ∧ i + kq = recs.length) ∧ Az (run_Encode.out k (recs.drop i.toNat) x9 = some (r1, r2)) ∧ Az (Kd.R (Kd.int .u8) 5 w' w.heap.size (fun _ => True) v9 x9) ∧ Az (Kd.C (Kd.slice 5 (Kd.int .u8)) w' A6 recs.length recs) ∧ Az (Below w.heap.size w w') ∧ Az (w'.heap[D]? = some (.deferred (some []))))
     case atStart => exact ⟨[], 0, rfl, ⟨by omega⟩, HH, ⟨Kd.R_nil _ _ _ _ _⟩, HC6, HB6, HD6⟩
     case round =>
      clear HH HC6 HB6 HD6 hcl6
      obtain ⟨x9, i, rfl, HI, HA, HR, HC, HB, HD⟩ := hrel
      cases gk with
      | zero =>
       have hi := HI.out
       have hlt : decide (i < (recs.length : Int)) = false := by simp; omega
       have h := HA.out
       rw [List.drop_of_length_le (by omega)] at h
       simp only [run_Encode.out, Option.some.injEq, Prod.mk.injEq] at h
       obtain ⟨rfl, rfl⟩ := h
       clear hi
       go_wp2
       refine leaves_mark (P := Try.prog) (fn := Try.f16) (t := 4) (u := 5) (W4 := W4) rfl hw4 HDD.out HD.out HR.out HB.out ?_ ?_ <;> rfl
      | succ k1 =>
       have hi := HI.out
       have hlt : decide (i < (recs.length : Int)) = true := by simp; omega
       obtain ⟨ad, cs, rfl, _, ⟨Ax, cx, rfl, hcx, hCx⟩, hcell⟩ := Kd.C_get HC.out [] i hi.1 (by omega)
       have hcx0 := hcell 0 _ rfl
       simp only [show (Kd.slice 5 (Kd.int .u8)).sz = 1 from rfl, Nat.mul_one, Nat.add_zero] at hcx0
       have hex : recs.getD i.toNat [] = recs[i.toNat]'(by omega) := by rw [List.getD_eq_getElem?_getD, List.getElem?_eq_getElem (by omega), Option.getD_some]
       have h := HA.out
       rw [List.drop_eq_getElem_cons (by omega)] at h
       rw [hex] at hcx hCx hcx0
       generalize recs[i.toNat]'(by omega) = x at h hcx hCx hcx0
       simp only [run_Encode.out] at h
       replace h := Option.bind_eq_some_iff.mp h
       obtain ⟨⟨f1, f2⟩, G, h⟩ := h
       have G := Az.mk G
       have H := Az.mk h
       have HCX := Az.mk hcx
       have HX := Az.mk hCx
       have h0 := hi.1
       have hil : i < (recs.length : Int) := by omega
       clear h HA hcell hex hcx hCx hi
       obtain ⟨A9, c9, e9⟩ := Kd.R_slice HR.out
       subst e9
       go_upto_region 16 with (go_at_call 33; refine (frame_Put.calls k _ _ x9 _ _ x f1 f2 _ (Kd.R_reads' HR.out).2.2 (Kd.R_reads' HR.out).2.1 HX.out HCX.out G.out).mono ?_; rintro e_ w8 ⟨v8, rfl, ho8, hb8⟩; have HR8 := Az.mk (Kd.R_lower ho8 HB.out.size); have HC8 := Az.mk (Kd.C_below HC.out hb8); have HB8 := Az.mk (below_step HB.out hb8); have HD8 := Az.mk (blk_below HD.out hb8); clear ho8 hb8 HR HC HB HD)
       have h := H.out
       clear H
       by_cases c9 : f2 = 0
       ·rw [if_pos c9] at h
        have c9b : (f2 != 0) = false := bne_eq_false_iff_eq.mpr c9
        have H := Az.mk h
        clear h c9
        have hw64 : wrap64 (i + 1) = i + 1 := by
         have := HRL.out
         have := LM.out
         unfold wrap64
         omega
        have HW := Az.mk hw64
        clear hw64
        go_wp2
        go_roundg k1
        case measure => omega
        case rel => exact ⟨f1, _, rfl, ⟨by have := HI.out; rw [HW.out]; omega⟩, ⟨by have := H.out; rwa [HW.out, show (i + 1).toNat = i.toNat + 1 by omega]⟩, HR8, HC8, HB8, HD8⟩
       ·rw [if_neg c9] at h
        have c9b : (f2 != 0) = true := bne_iff_ne.mpr c9
        simp only [Option.some.injEq, Prod.mk.injEq] at h
        obtain ⟨rfl, rfl⟩ := h
        clear c9
        go_wp2
        refine leaves_mark (P := Try.prog) (fn := Try.f16) (t := 4) (u := 5) (W4 := W4) rfl hw4 HDD.out HD8.out (Kd.R_nil _ _ _ _ _) HB8.out ?_ ?_ <;> rfl
   case stop => exact fun _ _ _ _ _ _ h _ => h.elim
  ·rw [if_neg c4] at h
   exact absurd h (by simp)
 ·rw [if_neg c3] at h
  have c3b : (e != 0) = true := bne_iff_ne.mpr c3
  clear c3
  simp only [Option.some.injEq, Prod.mk.injEq] at h
  obtain ⟨rfl, rfl⟩ := h
  go_wp2_with (go_at_call 24; refine (run_May.calls k A0 c0 l0 e _ (Kd.C_below HR0.out HB.out) HC0.out G1.out).mono ?_; rintro e_ w1 ⟨rfl, hb⟩)
  exact leaves_two rfl ⟨_, rfl, Kd.R_nil _ _ _ _ _, below_step HB.out hb⟩
end
end Go.Proofs.Ytiohnpphhepdfaa.PPa
end
section
namespace Go.Proofs.Ytiohnpphhepdfaa.PPa
open Go.RowKit Go.Proofs.YtiohnpphhepdfaaW.PrintWords Go.Proofs.YtiohnpphhepdfaaW.PrintLast Go.Proofs.YtiohnpphhepdfaaW.PrintMore
attribute [local go_sem] max2_int min2_int max_two min_two max_three min_three max_four min_four
attribute [local go_sem] Go.Proofs.Ytiohnpphhepdfaa.MoreWords.str_leq Go.Proofs.Ytiohnpphhepdfaa.MoreWords.str_gtr Go.Proofs.Ytiohnpphhepdfaa.MoreWords.str_geq
set_option maxHeartbeats 8000000
set_option maxRecDepth 100000
set_option linter.unusedVariables false
set_option linter.unusedSimpArgs false
def num_Get.vals (l : List Int) : Nat → Nat → Int
 | _, 0 => 0
 | i, c + 1 => rd l i % 128 + 128 * num_Get.vals l (i + 1) c
def num_Get.scan (l : List Int) : Nat → Nat → Option Nat
 | 0, s => some s
 | k + 1, s => if s = l.length then none else if rd l s < 128 then some s else num_Get.scan l k (s + 1)
def num_Get.ans (l : List Int) : Int × Int × Int :=
 match num_Get.scan l 10 0 with
 | none => (0, 0, 3)
 | some s => if s = 10 ∨ (s = 9 ∧ rd l s > 1) ∨ (0 < s ∧ rd l s = 0) then (0, 0, 2) else (num_Get.vals l 0 (s + 1), (s : Int) + 1, 0)
def num_Get.f (l : List Int) : Option (Int × Int × Int) := if ∀ x ∈ l, 0 ≤ x ∧ x ≤ 255 then some (num_Get.ans l) else none
theorem num_Get.scan_eq (l : List Int) (s : Nat) (h : s < 10) : num_Get.scan l (10 - s) s = if s = l.length then none else if rd l s < 128 then some s else num_Get.scan l (10 - (s + 1)) (s + 1) := by
 obtain ⟨m, hm⟩ : ∃ m, 10 - s = m + 1 := ⟨9 - s, by omega⟩
 rw [hm, show 10 - (s + 1) = m by omega]
 rfl
theorem num_Get.vals_lt (l : List Int) : ∀ (c i : Nat), 0 ≤ num_Get.vals l i c ∧ num_Get.vals l i c < 128 ^ c
 | 0, _ => by simp [num_Get.vals]
 | c + 1, i => by
  have := num_Get.vals_lt l c (i + 1)
  simp only [num_Get.vals, Int.pow_succ]
  omega
theorem num_Get.vals_top (l : List Int) : ∀ (c i : Nat), rd l (i + c : Nat) % 128 ≤ 1 → num_Get.vals l i (c + 1) < 2 * 128 ^ c
 | 0, i, h => by
  simp only [num_Get.vals, Nat.add_zero] at h ⊢
  omega
 | c + 1, i, h => by
  have := num_Get.vals_top l c (i + 1) (by rw [show i + 1 + c = i + (c + 1) by omega]; exact h)
  rw [num_Get.vals, Int.pow_succ]
  have h2 : num_Get.vals l (i + 1) (c + 1) < 2 * 128 ^ c := this
  have h3 : rd l (i : Int) % 128 < 128 := by omega
  generalize num_Get.vals l (i + 1) (c + 1) = v at *
  generalize (128 : Int) ^ c = p at *
  omega
theorem num_Get.found (l : List Int) (s : Nat) (r1 r2 r3 : Int) (hf : num_Get.f l = some (r1, r2, r3)) (hs : num_Get.scan l 10 0 = some s) :
  (if s = 10 ∨ (s = 9 ∧ rd l s > 1) ∨ (0 < s ∧ rd l s = 0) then (0, 0, 2) else (num_Get.vals l 0 (s + 1), (s : Int) + 1, 0)) = (r1, r2, r3) := by
 unfold num_Get.f at hf
 split at hf
 ·have := Option.some.inj hf
  rw [num_Get.ans, hs] at this
  exact this
 ·simp at hf
theorem num_Get.short (l : List Int) (r1 r2 r3 : Int) (hf : num_Get.f l = some (r1, r2, r3)) (hs : num_Get.scan l 10 0 = none) : (0, 0, 3) = (r1, r2, r3) := by
 unfold num_Get.f at hf
 split at hf
 ·have := Option.some.inj hf
  rw [num_Get.ans, hs] at this
  exact this
 ·simp at hf
theorem num_Get.range (l : List Int) (r : Int × Int × Int) (hf : num_Get.f l = some r) (i : Nat) (hi : i < l.length) : 0 ≤ rd l i ∧ rd l i ≤ 255 := by
 unfold num_Get.f at hf
 split at hf
 ·rename_i h
  unfold rd
  rw [Int.toNat_natCast, List.getD_eq_getElem?_getD, List.getElem?_eq_getElem hi, Option.getD_some]
  exact h _ (List.getElem_mem hi)
 ·simp at hf
theorem num_Get.step (n x : Int) (h0 : 0 ≤ n) (h1 : n < 2 ^ 57) (hx0 : 0 ≤ x) (hx1 : x ≤ 255) : Go.bits .or .u64 (IntKind.u64.wrap (n * 128)) (IntKind.u64.wrap (Go.bits .and .u8 x 127)) = x % 128 + 128 * n := by
 have hw : ∀ n : Int, 0 ≤ n → n < 2 ^ 64 → IntKind.u64.wrap n = n := fun n a b => by
  simp [IntKind.wrap, IntKind.bits, IntKind.signed]; omega
 rw [hw _ (by omega) (by omega)]
 have e : Go.bits .and .u8 x 127 = x % 128 := bits_mask .u8 8 (by decide) wraps_u8 7 (by decide) x hx0 (by omega)
 rw [e, hw (x % 128) (by omega) (by omega), bits_join .u64 64 (by decide) hw 7 _ _ (by omega) (by omega) (by omega) (by omega) (by omega) (by omega)]
 omega
theorem num_Get.goes (l : List Int) (s : Nat) (hs : s < 10) (h0 : 0 ≤ rd l s) (hb : rd l s < 128) (hn : ¬ ((s = 9 ∧ rd l s > 1) ∨ (0 < s ∧ rd l s = 0))) (i : Int) (hi0 : 0 ≤ i) (hi : i ≤ s)
  (x : Int) (hx : x = rd l i) (hx0 : 0 ≤ x ∧ x ≤ 255) :
  Go.bits .or .u64 (IntKind.u64.wrap (num_Get.vals l (i + 1).toNat (s - i).toNat * 128)) (IntKind.u64.wrap (Go.bits .and .u8 x 127)) = num_Get.vals l (i - 1 + 1).toNat (s - (i - 1)).toNat := by
 obtain ⟨j, rfl⟩ := Int.eq_ofNat_of_zero_le hi0
 have e1 : ((j : Int) + 1).toNat = j + 1 := by omega
 have e2 : ((s : Int) - j).toNat = s - j := by omega
 have e3 : ((j : Int) - 1 + 1).toNat = j := by omega
 have e4 : ((s : Int) - (j - 1)).toNat = s - j + 1 := by omega
 rw [e1, e2, e3, e4, num_Get.vals, ← hx]
 have hv := num_Get.vals_lt l (s - j) (j + 1)
 refine num_Get.step _ _ hv.1 ?_ hx0.1 hx0.2
 by_cases h8 : s - j ≤ 8
 ·exact Int.lt_of_lt_of_le hv.2 (by
   have : (128 : Int) ^ (s - j) ≤ 128 ^ 8 := by
    have := Nat.pow_le_pow_right (n := 128) (by decide) h8
    exact_mod_cast this
   exact Int.le_trans this (by decide))
 ·have e9 : s - j = 8 + 1 := by omega
  rw [e9]
  have ht := num_Get.vals_top l 8 (j + 1) (by
   have : j + 1 + 8 = s := by omega
   rw [this]
   have : s = 9 := by omega
   omega)
  exact Int.lt_of_lt_of_le ht (by decide)
theorem num_Get.calls (A0 : Option Addr) (c0 : Nat) (l0 : List Int) (r1 : Int) (r2 : Int) (r3 : Int) (w : World) (hr0 : Kd.C (Kd.int .u8) w A0 l0.length l0) (hc0 : l0.length ≤ c0) (h : num_Get.f l0 = some (r1, r2, r3)) :
  Calls Try.prog 60 #[.slice A0 l0.length c0] w fun e w' => e = .returned (.tuple #[.int .u64 r1, .int .i64 r2, .int .i64 r3]) ∧ Drawn0 w w' := by
 have HR0 := Az.mk hr0
 clear hr0
 have H := Az.mk h
 clear h
 go_enter Try.func60, Try.ntmps60
 go_wp2
 go_step3
 go_wp2
 go_step3
 go_wp2
 go_loop [5] (fun v => ∃ s : Nat, v = .int .i64 s ∧ Az (s ≤ 10 ∧ s ≤ l0.length ∧ num_Get.scan l0 (10 - s) s = num_Get.scan l0 10 0)) (fun v => 10 - (intOf v).toNat)
 case atStart => exact ⟨0, rfl, ⟨by omega, by omega, rfl⟩⟩
 case round =>
  obtain ⟨s, rfl, hs⟩ := hrel
  by_cases h10 : s = 10
  ·subst h10
   go_wp2
   go_ret3
   have hr := num_Get.found l0 10 _ _ _ H.out (by rw [← hs.out.2.2]; rfl)
   rw [if_pos (.inl rfl)] at hr
   obtain ⟨rfl, rfl, rfl⟩ : 0 = r1 ∧ 0 = r2 ∧ 2 = r3 := by simpa using hr
   exact ⟨rfl, Drawn0.refl _⟩
  ·have h10' : decide ((s : Int) < 10) = true := by have := hs.out; simp; omega
   have h10n : s < 10 := by have := hs.out; omega
   have HS := Az.mk (num_Get.scan_eq l0 s h10n)
   by_cases hl : s = l0.length
   ·have hl' : ((s : Int) == (l0.length : Int)) = true := by simp; omega
    have hl2 := Az.mk hl
    clear hl
    go_wp2
    go_ret3
    have hr := num_Get.short l0 _ _ _ H.out (by rw [← hs.out.2.2, HS.out, if_pos hl2.out])
    obtain ⟨rfl, rfl, rfl⟩ : 0 = r1 ∧ 0 = r2 ∧ 3 = r3 := by simpa using hr
    exact ⟨rfl, Drawn0.refl _⟩
   ·have hl' : ((s : Int) == (l0.length : Int)) = false := by simp; omega
    have hlt : s < l0.length := by have := hs.out; omega
    obtain ⟨ad, e, hx⟩ := Kd.at_int HR0.out s (by omega) (by omega)
    cases e
    have hx' : w.cell? (ad.add s) = some (.int .u8 (rd l0 s)) := hx
    clear hx
    by_cases hb : rd l0 s < 128
    ·have hb' : decide (rd l0 s < 128) = true := by simpa using hb
     have HF := Az.mk (num_Get.found l0 s _ _ _ H.out (by rw [← hs.out.2.2, HS.out, if_neg hl, if_pos hb]))
     have hrg := num_Get.range l0 _ H.out s hlt
     by_cases hbad : (s = 9 ∧ rd l0 s > 1) ∨ (0 < s ∧ rd l0 s = 0)
     ·have e : (0, 0, 2) = (r1, r2, r3) := by have := HF.out; rw [if_pos (.inr hbad)] at this; exact this
      obtain ⟨rfl, rfl, rfl⟩ : 0 = r1 ∧ 0 = r2 ∧ 2 = r3 := by simpa using e
      clear e
      have e10 : ((s : Int) == 10) = false := by simp; omega
      by_cases h9 : s = 9
      ·have e9 : ((s : Int) == 9) = true := by simp; omega
       have h9' := Az.mk h9
       clear h9
       by_cases h1 : rd l0 s > 1
       ·have e1 : decide (1 < rd l0 s) = true := by simpa using h1
        go_wp2
        go_ret3
        exact ⟨rfl, Drawn0.refl _⟩
       ·have e1 : decide (1 < rd l0 s) = false := by simpa using h1
        have e0 : (rd l0 s == 0) = true := by simp; omega
        have ep : decide (0 < s) = true := by have := h9'.out; simp; omega
        clear h1
        go_wp2
        go_ret3
        exact ⟨rfl, Drawn0.refl _⟩
      ·have e9 : ((s : Int) == 9) = false := by simp; omega
       have e0 : (rd l0 s == 0) = true := by simp; omega
       have ep : decide (0 < s) = true := by simp; omega
       go_wp2
       go_ret3
       exact ⟨rfl, Drawn0.refl _⟩
     ·have e : (num_Get.vals l0 0 (s + 1), (s : Int) + 1, 0) = (r1, r2, r3) := by have := HF.out; rw [if_neg (by omega)] at this; exact this
      obtain ⟨rfl, rfl, rfl⟩ : num_Get.vals l0 0 (s + 1) = r1 ∧ (s : Int) + 1 = r2 ∧ 0 = r3 := by simpa using e
      have HR := Az.mk (num_Get.range l0 _ H.out)
      have HG := Az.mk (num_Get.goes l0 s h10n hrg.1 hb hbad)
      have e10 : ((s : Int) == 10) = false := by simp; omega
      have HW : ((s : Int) == 9) = true ∧ decide (1 < rd l0 s) = false ∧ decide (0 < s) = true ∧ (rd l0 s == 0) = false ∨ ((s : Int) == 9) = false ∧ decide (0 < s) = true ∧ (rd l0 s == 0) = false ∨ ((s : Int) == 9) = false ∧ decide (0 < s) = false := by
       simp
       omega
      clear e HF H hs HS hbad hrg hb
      rcases HW with ⟨e9, e1, ep, e0⟩ | ⟨e9, ep, e0⟩ | ⟨e9, ep⟩
      all_goals
       go_wp2
       go_loop [6, 7] (fun v6 v7 => ∃ i : Int, v7 = .int .i64 i ∧ -1 ≤ i ∧ i ≤ s ∧ v6 = .int .u64 (num_Get.vals l0 (i + 1).toNat (s - i).toNat)) (fun _ v7 => (intOf v7 + 1).toNat)
       case atStart => exact ⟨s, rfl, by omega, by omega, by simp [num_Get.vals]⟩
       case round =>
        obtain ⟨i, rfl, hi0, hi1, rfl⟩ := hrel
        by_cases hc : 0 ≤ i
        ·obtain ⟨ad', e', hxi⟩ := Kd.at_int HR0.out i hc (by omega)
         obtain rfl : ad = ad' := by injection e'
         have HS := Az.mk (HG.out i hc hi1 _ rfl (by have := HR.out i.toNat (by omega); rwa [Int.toNat_of_nonneg hc] at this))
         have hi2 : i < (l0.length : Int) := by omega
         go_wp2
         go_round
         case rel => exact ⟨i - 1, rfl, by omega, by omega, by rw [← HS.out]⟩
         case measure => simp [intOf]; omega
        ·have hc' : i = -1 := by omega
         subst hc'
         go_wp2
         go_ret3
         exact ⟨rfl, Drawn0.refl _⟩
    ·have hb' : decide (rd l0 s < 128) = false := by simpa using hb
     go_wp2
     go_round
     case rel => exact ⟨s + 1, by go_num, by have := hs.out; omega, by omega, by rw [← hs.out.2.2, HS.out, if_neg hl, if_neg hb]⟩
     case measure => simp [intOf]; omega
def bytes_Equal.f (l0 : List Int) (l1 : List Int) : Option (Bool) := some ((strOfNums l0).toList == (strOfNums l1).toList)
theorem bytes_Equal.calls (A0 : Option Addr) (c0 : Nat) (l0 : List Int) (A1 : Option Addr) (c1 : Nat) (l1 : List Int) (r : Bool) (w : World) (hr0 : Kd.C (Kd.int .u8) w A0 l0.length l0) (hc0 : l0.length ≤ c0) (hr1 : Kd.C (Kd.int .u8) w A1 l1.length l1) (hc1 : l1.length ≤ c1) (h : bytes_Equal.f l0 l1 = some r) :
  Calls Try.prog 62 #[.slice A0 l0.length c0, .slice A1 l1.length c1] w fun e w' => e = .returned (.bool r) ∧ Drawn0 w w' := by
 have HR0 := Az.mk hr0
 have HC0 := Az.mk hc0
 clear hr0 hc0
 have HR1 := Az.mk hr1
 have HC1 := Az.mk hc1
 clear hr1 hc1
 have H : (some ((strOfNums l0).toList == (strOfNums l1).toList)) = some r := h
 clear h
 obtain rfl := Option.some.inj H
 have hcv3 := Kd.C_string (P := Try.prog) (A := A0) (c := c0) Try.underlying24 Try.underlying5 Try.underlying9 HR0.out
 have hcv4 := Kd.C_string (P := Try.prog) (A := A1) (c := c1) Try.underlying24 Try.underlying5 Try.underlying9 HR1.out
 go_enter Try.func62, Try.ntmps62
 go_wp2
 go_ret
 exact ⟨es_, dw_⟩
def bytes_Clone.f (l : List Int) : Option (List Int) := if l.length < 140737488355328 then some l else none
theorem bytes_Clone.calls (A0 : Option Addr) (c0 : Nat) (l0 : List Int) (r : List Int) (w : World) (hr0 : Kd.C (Kd.int .u8) w A0 l0.length l0) (hc0 : l0.length ≤ c0) (h : bytes_Clone.f l0 = some r) :
  Calls Try.prog 68 #[.slice A0 l0.length c0] w fun e w' => ∃ v0_ : Value, e = .returned (v0_) ∧ Kd.R (Kd.int .u8) 5 w' w.heap.size (fun _ => True) v0_ r ∧ Below w.heap.size w w' := by
 have hl : l0.length < 140737488355328 := by
  unfold bytes_Clone.f at h
  by_cases q : l0.length < 140737488355328
  ·exact q
  ·rw [if_neg q] at h; simp at h
 have hr : l0 = r := by
  unfold bytes_Clone.f at h
  rw [if_pos hl] at h
  exact Option.some.inj h
 subst hr
 clear h
 cases A0 with
 | none =>
  have hz : l0 = [] := by
   cases l0 with
   | nil => rfl
   | cons x l =>
    obtain ⟨ad, e, _⟩ := hr0.2.2 (by simp)
    cases e
  subst hz
  clear hr0
  go_enter Try.func68, Try.ntmps68
  have hq := fun (w : World) (a : Option Addr) (n c : Nat) => Lib.run_eql_slice_nil (P := Try.prog) w 24 5 a n c 0 0 Try.underlying24
  go_wp2
  go_ret
  exact ⟨_, rfl, Kd.R_nil _ _ _ _ _, Below.refl _ _⟩
 | some ad =>
  have HR0 := Az.mk hr0
  have HL := Az.mk hl
  clear hr0 hl
  have hq := fun (w : World) (a : Option Addr) (n c : Nat) => Lib.run_eql_slice_nil (P := Try.prog) w 24 5 a n c 0 0 Try.underlying24
  go_enter Try.func68, Try.ntmps68
  go_wp2_with (first | ((with_reducible refine gate_dst (N := 5) rfl ?_); refine Kd.R_lit (Kd.int .u8) _ 5 ?hg (N := 5) ?hd (xs := ([] : List Int)) (inner := []) (ok := fun _ => True) (okp := fun _ => True) ?hr ?hp (fun _ hk => hk) trivial (Below.refl _ _) (Nat.le_refl _) (by simp) ?_; (case hd => rfl); (case hg => rfl); (case hr => first | (go_simp; done) | (go_simp; rfl)); (case hp => exact (Reps.none _ _)); intro v102 w4 ho5 hb hg_ hnew_; clear hg_ hnew_; have HO := Az.mk ho5; have HB := Az.mk hb; clear ho5 hb) | ((with_reducible refine gate_builtin (b := .append) (xs := #[.tmp 5, .tmp 6]) rfl ?_); at_builtin; refine Kd.R_append_rows (Kd.int .u8) (w0 := w) w.heap.size rfl (.tmp 5) (.tmp 6) 24 5 (.int .u8 0) 1 rfl Try.underlying24 info5 rfl (by decide) (by omega) v102 [] l0 _ _ _ (fun _ => True) (fun _ => False) rfl rfl ?aO ?aR (fun _ _ h => h) (fun _ h => h.elim) ?aF ?aB ?aS ?aL ?_; (case aR => exact (Kd.C_below HR0.out HB.out)); (case aB => exact HB.out); (case aF => exact (fun _ _ => trivial)); (case aO => exact HO.out); (case aS => exact (below_size HB.out)); (case aL => have := HL.out; simp; omega); intro v105 w6 ho hb hg hat; have HB2 := Az.mk hb; have HO2 := Az.mk ho; clear ho hb hg hat))
  go_ret
  exact ⟨_, rfl, by have := HO2.out; rwa [List.nil_append] at this, HB2.out⟩
def frame_Get.f (k : Nat) (l0 : List Int) : Option (List Int × Int × Int) := (num_Get.f l0).bind fun bt176 => (if bt176.2.2 = 0 then (if bt176.1 > 1048576 then (some (([] : List Int), 0, 2)) else (if (l0.length : Int) < (wrap64 ((wrap64 (bt176.2.1 + (wrap64 (bt176.1)))) + 4)) then (some (([] : List Int), 0, 3)) else (if 0 ≤ bt176.2.1 then (if bt176.2.1 ≤ (wrap64 (bt176.2.1 + (wrap64 (bt176.1)))) then (if (wrap64 (bt176.2.1 + (wrap64 (bt176.1)))) ≤ (l0.length : Int) then ((bytes_Clone.f ((l0.take ((wrap64 (bt176.2.1 + (wrap64 (bt176.1)))) : Int).toNat).drop (bt176.2.1 : Int).toNat)).bind fun t180 => (if 0 ≤ (wrap64 (bt176.2.1 + (wrap64 (bt176.1)))) then (if (wrap64 (bt176.2.1 + (wrap64 (bt176.1)))) ≤ (wrap64 ((wrap64 (bt176.2.1 + (wrap64 (bt176.1)))) + 4)) then (if (wrap64 ((wrap64 (bt176.2.1 + (wrap64 (bt176.1)))) + 4)) ≤ (l0.length : Int) then ((frame_sum.f k t180).bind fun t184 => ((bytes_Equal.f ((l0.take ((wrap64 ((wrap64 (bt176.2.1 + (wrap64 (bt176.1)))) + 4)) : Int).toNat).drop ((wrap64 (bt176.2.1 + (wrap64 (bt176.1)))) : Int).toNat) t184).bind fun t187 => (if t187 = true then (some (t180, wrap64 ((wrap64 (bt176.2.1 + (wrap64 (bt176.1)))) + 4), 0)) else (some (([] : List Int), 0, 4))))) else (none)) else (none)) else (none))) else (none)) else (none)) else (none)))) else (some (([] : List Int), 0, bt176.2.2)))
theorem frame_Get.mono : ∀ a0 k, LeO (frame_Get.f k a0) (frame_Get.f (k + 1) a0) := by
 intro a0 k
 unfold frame_Get.f
 repeat' first
   | (with_reducible exact frame_sum.mono _ _)
   | (with_reducible exact LeO.refl _)
   | (with_reducible exact LeO.none _)
   | (with_reducible refine LeO.ite ?_ ?_)
   | (with_reducible refine LeO.bind ?_ (fun _ => ?_))
   | exact frame_sum.mono _ _
   | exact LeO.none _
   | refine LeO.ite ?_ ?_
   | refine LeO.bind ?_ (fun _ => ?_)
def frame_Get.T10 : Bool × List (List Nat × List Nat) := (true, [([], []), ([], []), ([], []), ([2], [2]), ([0, 1, 3], [0, 1, 3]), ([], []), ([5], [5]), ([4, 6, 6], [4, 6]), ([7], [7])])
def frame_Get.B10 : List Nat := [0, 0, 0, 4, 15, 0, 32, 127, 255]
theorem frame_Get.tab10 : rtab .any (opsOf Try.f65 10) = frame_Get.T10 := by kernel_rfl
theorem frame_Get.bits10 : waitsOk frame_Get.T10.2 frame_Get.B10 = true := by kernel_rfl
theorem frame_Get.calls (k : Nat) (A0 : Option Addr) (c0 : Nat) (l0 : List Int) (r1 : List Int) (r2 : Int) (r3 : Int) (w : World) (hr0 : Kd.C (Kd.int .u8) w A0 l0.length l0) (hc0 : l0.length ≤ c0) (h : frame_Get.f k l0 = some (r1, r2, r3)) :
  Calls Try.prog 65 #[.slice A0 l0.length c0] w fun e w' => ∃ v0_ : Value, e = .returned (.tuple #[v0_, .int .i64 r2, .int .i64 r3]) ∧ Kd.R (Kd.int .u8) 5 w' w.heap.size (fun _ => True) v0_ r1 ∧ Below w.heap.size w w' := by
 have HR0 := Az.mk hr0
 have HC0 := Az.mk hc0
 clear hr0 hc0
 have HB := Az.mk (Below.refl w.heap.size w)
 have H : ((num_Get.f l0).bind fun bt176 => (if bt176.2.2 = 0 then (if bt176.1 > 1048576 then (some (([] : List Int), 0, 2)) else (if (l0.length : Int) < (wrap64 ((wrap64 (bt176.2.1 + (wrap64 (bt176.1)))) + 4)) then (some (([] : List Int), 0, 3)) else (if 0 ≤ bt176.2.1 then (if bt176.2.1 ≤ (wrap64 (bt176.2.1 + (wrap64 (bt176.1)))) then (if (wrap64 (bt176.2.1 + (wrap64 (bt176.1)))) ≤ (l0.length : Int) then ((bytes_Clone.f ((l0.take ((wrap64 (bt176.2.1 + (wrap64 (bt176.1)))) : Int).toNat).drop (bt176.2.1 : Int).toNat)).bind fun t180 => (if 0 ≤ (wrap64 (bt176.2.1 + (wrap64 (bt176.1)))) then (if (wrap64 (bt176.2.1 + (wrap64 (bt176.1)))) ≤ (wrap64 ((wrap64 (bt176.2.1 + (wrap64 (bt176.1)))) + 4)) then (if (wrap64 ((wrap64 (bt176.2.1 + (wrap64 (bt176.1)))) + 4)) ≤ (l0.length : Int) then ((frame_sum.f k t180).bind fun t184 => ((bytes_Equal.f ((l0.take ((wrap64 ((wrap64 (bt176.2.1 + (wrap64 (bt176.1)))) + 4)) : Int).toNat).drop ((wrap64 (bt176.2.1 + (wrap64 (bt176.1)))) : Int).toNat) t184).bind fun t187 => (if t187 = true then (some (t180, wrap64 ((wrap64 (bt176.2.1 + (wrap64 (bt176.1)))) + 4), 0)) else (some (([] : List Int), 0, 4))))) else (none)) else (none)) else (none))) else (none)) else (none)) else (none)))) else (some (([] : List Int), 0, bt176.2.2)))) = some (r1, r2, r3) := h
 clear h
 replace H := Option.bind_eq_some_iff.mp H
 obtain ⟨⟨t176, t177, t178⟩, A20, H⟩ := H
 replace H : (if t178 = 0 then (if t176 > 1048576 then (some (([] : List Int), 0, 2)) else (if (l0.length : Int) < (wrap64 ((wrap64 (t177 + (wrap64 (t176)))) + 4)) then (some (([] : List Int), 0, 3)) else (if 0 ≤ t177 then (if t177 ≤ (wrap64 (t177 + (wrap64 (t176)))) then (if (wrap64 (t177 + (wrap64 (t176)))) ≤ (l0.length : Int) then ((bytes_Clone.f ((l0.take ((wrap64 (t177 + (wrap64 (t176)))) : Int).toNat).drop (t177 : Int).toNat)).bind fun t180 => (if 0 ≤ (wrap64 (t177 + (wrap64 (t176)))) then (if (wrap64 (t177 + (wrap64 (t176)))) ≤ (wrap64 ((wrap64 (t177 + (wrap64 (t176)))) + 4)) then (if (wrap64 ((wrap64 (t177 + (wrap64 (t176)))) + 4)) ≤ (l0.length : Int) then ((frame_sum.f k t180).bind fun t184 => ((bytes_Equal.f ((l0.take ((wrap64 ((wrap64 (t177 + (wrap64 (t176)))) + 4)) : Int).toNat).drop ((wrap64 (t177 + (wrap64 (t176)))) : Int).toNat) t184).bind fun t187 => (if t187 = true then (some (t180, wrap64 ((wrap64 (t177 + (wrap64 (t176)))) + 4), 0)) else (some (([] : List Int), 0, 4))))) else (none)) else (none)) else (none))) else (none)) else (none)) else (none)))) else (some (([] : List Int), 0, t178))) = some (r1, r2, r3) := H
 have A2 := Az.mk A20
 clear A20
 by_cases c3 : t178 = 0
 ·rw [if_pos c3] at H
  have c3b0 : (t178 == 0) = true := beq_iff_eq.mpr c3
  have c3b1 : (t178 != 0) = false := bne_eq_false_iff_eq.mpr c3
  clear c3
  by_cases c4 : t176 > 1048576
  ·rw [if_pos c4] at H
   have c4b0 := decide_eq_true c4
   clear c4
   simp only [Option.some.injEq, Prod.mk.injEq] at H
   obtain ⟨rfl, rfl, rfl⟩ := H
   go_enter Try.func65, Try.ntmps65
   go_wp2_with (first | ((with_reducible refine gate_callee (f := 60) rfl ?_); refine goesL_ (some 12) rfl rfl Try.func60 (by kernel_rfl) rfl #[.slice A0 l0.length c0] rfl ar_ ?_; (with_reducible refine (num_Get.calls _ _ l0 t176 t177 t178 _ ?side1 ?side2 A2.out).mono ?_); (case side1 => exact cl_ HR0.out); (case side2 => exact HC0.out); rintro e w' ⟨rfl, ⟨nd, rfl⟩⟩; refine ⟨_, rfl, ?_⟩))
   go_ret3
   exact ⟨_, er_, nl_, bl_ HB⟩
  ·rw [if_neg c4] at H
   have c4b0 := decide_eq_false c4
   clear c4
   by_cases c5 : (l0.length : Int) < (wrap64 ((wrap64 (t177 + (wrap64 (t176)))) + 4))
   ·rw [if_pos c5] at H
    have c5b0 := decide_eq_true c5
    clear c5
    simp only [Option.some.injEq, Prod.mk.injEq] at H
    obtain ⟨rfl, rfl, rfl⟩ := H
    go_enter Try.func65, Try.ntmps65
    go_wp2_with (first | ((with_reducible refine gate_callee (f := 60) rfl ?_); refine goesL_ (some 12) rfl rfl Try.func60 (by kernel_rfl) rfl #[.slice A0 l0.length c0] rfl ar_ ?_; (with_reducible refine (num_Get.calls _ _ l0 t176 t177 t178 _ ?side1 ?side2 A2.out).mono ?_); (case side1 => exact cl_ HR0.out); (case side2 => exact HC0.out); rintro e w' ⟨rfl, ⟨nd, rfl⟩⟩; refine ⟨_, rfl, ?_⟩))
    go_ret3
    exact ⟨_, er_, nl_, bl_ HB⟩
   ·rw [if_neg c5] at H
    have c5b0 := decide_eq_false c5
    clear c5
    by_cases c6 : 0 ≤ t177
    ·rw [if_pos c6] at H
     have c6b0 := eq_true c6
     have c6b1 := decide_eq_true c6
     clear c6
     by_cases c7 : t177 ≤ (wrap64 (t177 + (wrap64 (t176))))
     ·rw [if_pos c7] at H
      have c7b0 := eq_true c7
      have c7b1 := decide_eq_true c7
      by_cases c8 : (wrap64 (t177 + (wrap64 (t176)))) ≤ (l0.length : Int)
      ·rw [if_pos c8] at H
       have c8b0 := eq_true c8
       have c8b1 := decide_eq_true c8
       replace H := Option.bind_eq_some_iff.mp H
       obtain ⟨t180, A90, H⟩ := H
       replace H : (if 0 ≤ (wrap64 (t177 + (wrap64 (t176)))) then (if (wrap64 (t177 + (wrap64 (t176)))) ≤ (wrap64 ((wrap64 (t177 + (wrap64 (t176)))) + 4)) then (if (wrap64 ((wrap64 (t177 + (wrap64 (t176)))) + 4)) ≤ (l0.length : Int) then ((frame_sum.f k t180).bind fun t184 => ((bytes_Equal.f ((l0.take ((wrap64 ((wrap64 (t177 + (wrap64 (t176)))) + 4)) : Int).toNat).drop ((wrap64 (t177 + (wrap64 (t176)))) : Int).toNat) t184).bind fun t187 => (if t187 = true then (some (t180, wrap64 ((wrap64 (t177 + (wrap64 (t176)))) + 4), 0)) else (some (([] : List Int), 0, 4))))) else (none)) else (none)) else (none)) = some (r1, r2, r3) := H
       have A9 := Az.mk A90
       clear A90
       obtain ⟨ji10, hji10⟩ : ∃ j_ : Int, (wrap64 (t177 + (wrap64 (t176)))) = j_ := ⟨_, rfl⟩
       replace H : (if 0 ≤ (ji10) then (if (ji10) ≤ (wrap64 ((ji10) + 4)) then (if (wrap64 ((ji10) + 4)) ≤ (l0.length : Int) then ((frame_sum.f k t180).bind fun t184 => ((bytes_Equal.f ((l0.take ((wrap64 ((ji10) + 4)) : Int).toNat).drop ((ji10) : Int).toNat) t184).bind fun t187 => (if t187 = true then (some (t180, wrap64 ((ji10) + 4), 0)) else (some (([] : List Int), 0, 4))))) else (none)) else (none)) else (none)) = some (r1, r2, r3) := by first | (rw [hji10] at H; exact H) | (simp only [hji10] at H ⊢; exact H)
       (try rw [hji10] at c5b0)
       (try rw [hji10] at c7b0)
       (try rw [hji10] at c7b1)
       (try rw [hji10] at c7)
       (try rw [hji10] at c8b0)
       (try rw [hji10] at c8b1)
       (try rw [hji10] at c8)
       (try rw [hji10] at A2)
       (try rw [hji10] at A9)
       have hji10w : (IntKind.i64.wrap (t177 + (wrap64 (t176)))) = ji10 := (i64_w _).trans hji10
       by_cases c11 : 0 ≤ (ji10)
       ·rw [if_pos c11] at H
        have c11b0 := eq_true c11
        have c11b1 := decide_eq_true c11
        clear c11
        by_cases c12 : (ji10) ≤ (wrap64 ((ji10) + 4))
        ·rw [if_pos c12] at H
         have c12b0 := eq_true c12
         have c12b1 := decide_eq_true c12
         by_cases c13 : (wrap64 ((ji10) + 4)) ≤ (l0.length : Int)
         ·rw [if_pos c13] at H
          have c13b0 := eq_true c13
          have c13b1 := decide_eq_true c13
          replace H := Option.bind_eq_some_iff.mp H
          obtain ⟨t184, A140, H⟩ := H
          replace H : ((bytes_Equal.f ((l0.take ((wrap64 ((ji10) + 4)) : Int).toNat).drop ((ji10) : Int).toNat) t184).bind fun t187 => (if t187 = true then (some (t180, wrap64 ((ji10) + 4), 0)) else (some (([] : List Int), 0, 4)))) = some (r1, r2, r3) := H
          have A14 := Az.mk A140
          clear A140
          replace H := Option.bind_eq_some_iff.mp H
          obtain ⟨t187, A150, H⟩ := H
          replace H : (if t187 = true then (some (t180, wrap64 ((ji10) + 4), 0)) else (some (([] : List Int), 0, 4))) = some (r1, r2, r3) := H
          have A15 := Az.mk A150
          clear A150
          by_cases c16 : t187 = true
          ·subst c16
           have H1 : (some (t180, wrap64 ((ji10) + 4), 0)) = some (r1, r2, r3) := by rw [if_pos rfl] at H; exact H
           clear H
           have H := H1
           clear H1
           simp only [Option.some.injEq, Prod.mk.injEq] at H
           obtain ⟨rfl, rfl, rfl⟩ := H
           go_enter Try.func65, Try.ntmps65
           try go_wp2_with (first | ((with_reducible refine gate_callee (f := 60) rfl ?_); refine goesL_ (some 12) rfl rfl Try.func60 (by kernel_rfl) rfl #[.slice A0 l0.length c0] rfl ar_ ?_; (with_reducible refine (num_Get.calls _ _ l0 t176 t177 t178 _ ?side1 ?side2 A2.out).mono ?_); (case side1 => exact cl_ HR0.out); (case side2 => exact HC0.out); rintro e w' ⟨rfl, ⟨nd, rfl⟩⟩; refine ⟨_, rfl, ?_⟩; obtain ⟨i017, hi017, _, hsz17, _⟩ := info_parts info5; obtain ⟨A17, hcut17, hA17, hC17⟩ := print_mid_of (P := Try.prog) (Value.int .u8) 0 24 5 .i64 .i64 Try.underlying24 hi017 hsz17 A0 c0 l0 t177 (ji10) (of_decide_eq_true as_) (by first | omega | exact of_decide_eq_true as_) (of_decide_eq_true as_) HC0.out; have HR179 := Az.mk (Kd.C_of_reads (h1 := fun _ => rfl) (hA17 _ (Kd.reads_of_C HR0.out))); have HC179 := Az.mk hC17; clear hA17 hC17 hi017 hsz17) | ((with_reducible refine gate_callee (f := 68) rfl ?_); refine goesL_ (some 36) rfl rfl Try.func68 (by kernel_rfl) rfl #[.slice A17 ((l0.take ((ji10) : Int).toNat).drop (t177 : Int).toNat).length (c0 - t177.toNat)] rfl (by (try simp only [List.map_toArray, List.map_cons, List.map_nil]); first | done | (rw [show ((l0.take ((ji10) : Int).toNat).drop (t177 : Int).toNat).length = ((ji10).toNat - t177.toNat) from (by rw [List.length_drop, List.length_take]; have h_ : ((ji10) : Int) ≤ (l0.length : Int) := of_decide_eq_true as_; omega)] <;> rfl) | (simp only [hji10]; rfl) | rfl | (simp only [List.length_drop, List.length_take]; rfl)) ?_; (with_reducible refine (bytes_Clone.calls _ _ ((l0.take ((ji10) : Int).toNat).drop (t177 : Int).toNat) t180 _ ?side1 ?side2 A9.out).mono ?_); (case side1 => exact cl_ HR179.out); (case side2 => exact HC179.out); rintro e w18 ⟨v181, rfl, ho0, hb⟩; refine ⟨_, rfl, ?_⟩; have n0_ := Az.mk (Kd.R_lower ho0 (below_size (bl_ HB))); have n1_ := Az.mk (below_step (bl_ HB) hb); clear HB; have HO182 := n0_; have HB := n1_; clear n0_ n1_; (try clear hb); (try clear hb2); (try clear hk); (try clear hi); (try clear ho0)))
           have n0_ := Az.mk (Kd.R_drew HO182.out)
           have n1_ := Az.mk (below_drew1 HB.out)
           clear HO182
           clear HB
           have HO182 := n0_
           have HB := n1_
           clear n0_ n1_
           obtain ⟨i020, hi020, _, hsz20, _⟩ := info_parts info5
           obtain ⟨A20, hcut20, hA20, hC20⟩ := print_mid_of (P := Try.prog) (Value.int .u8) 0 24 5 .i64 .i64 Try.underlying24 hi020 hsz20 A0 c0 l0 (ji10) (wrap64 ((ji10) + 4)) (of_decide_eq_true as_) (by first | omega | exact of_decide_eq_true as_) (of_decide_eq_true as_) HC0.out
           have HR183 := Az.mk (Kd.C_of_reads (h1 := fun _ => rfl) (hA20 _ (Kd.reads_of_C HR0.out)))
           have HC183 := Az.mk hC20
           clear hA20 hC20 hi020 hsz20
           obtain ⟨Ao21, co21, eo21⟩ := Kd.R_slice HO182.out
           (first | subst eo21 | (injection eo21 with f1_ f2_ f3_; have f4_ := f1_.symm; have f5_ := f3_.symm; clear f1_ f2_ f3_; subst f4_; subst f5_))
           refine start_ (n := 9) (S := fun w' => True) (ds := []) #[false, false, false, false, false, false, false, false, false] (by kernel_rfl) rfl rfl trivial (fun hHeld => ?_); refine with_tabW frame_Get.tab10 frame_Get.bits10 (fun HT_ HW_ => ?_)
           generalize w18.drew = w19 at HO182 HB HR183 hHeld ⊢
           refine pure_ (i := 0) (N := some 37) (v := ?_) (a' := ?_) #[true, false, false, false, false, false, false, false, false] rfl rfl (any_of HT_.out (by kernel_rfl)) (fun _ _ _ h => h) (Or.inl ⟨by rfl, ?_⟩) ?_ ?_
           rotate_left
           ·intro w'
            go_simp
            with_reducible rfl
           rotate_left
           ·simp only [Act.put, List.setIfInBounds_toArray, List.set_cons_zero, List.set_cons_succ, i64_w, i32_w]
            rfl
           refine pure_ (i := 1) (N := some 38) (v := ?_) (a' := ?_) #[true, true, false, false, false, false, false, false, false] rfl rfl (any_of HT_.out (by kernel_rfl)) (fun _ _ _ h => h) (Or.inl ⟨by rfl, ?_⟩) ?_ ?_
           rotate_left
           ·intro w'
            go_simp
            with_reducible rfl
           rotate_left
           ·simp only [Act.put, List.setIfInBounds_toArray, List.set_cons_zero, List.set_cons_succ, i64_w, i32_w]
            rfl
           refine pure_ (i := 2) (N := some 39) (v := ?_) (a' := ?_) #[true, true, true, false, false, false, false, false, false] rfl rfl (any_of HT_.out (by kernel_rfl)) (fun _ _ _ h => h) (Or.inl ⟨by rfl, ?_⟩) ?_ ?_
           rotate_left
           ·intro w'
            go_simp
            with_reducible rfl
           rotate_left
           ·simp only [Act.put, List.setIfInBounds_toArray, List.set_cons_zero, List.set_cons_succ, i64_w, i32_w]
            rfl
           refine pure_ (i := 3) (N := some 40) (v := ?_) (a' := ?_) #[true, true, true, true, false, false, false, false, false] rfl rfl (any_of HT_.out (by kernel_rfl)) (fun _ _ _ h => h) (Or.inl ⟨by rfl, ?_⟩) ?_ ?_
           rotate_left
           ·intro w'
            go_simp
            with_reducible rfl
           rotate_left
           ·simp only [Act.put, List.setIfInBounds_toArray, List.set_cons_zero, List.set_cons_succ, i64_w, i32_w]
            rfl
           refine pure_ (i := 4) (N := some 41) (v := ?_) (a' := ?_) #[true, true, true, true, true, false, false, false, false] rfl rfl (any_of HT_.out (by kernel_rfl)) (fun _ _ _ h => h) (Or.inl ⟨by rfl, ?_⟩) ?_ ?_
           rotate_left
           ·intro w'
            go_simp
            with_reducible rfl
           rotate_left
           ·simp only [Act.put, List.setIfInBounds_toArray, List.set_cons_zero, List.set_cons_succ, i64_w, i32_w]
            rfl
           refine pure_ (i := 5) (N := some 42) (v := ?_) (a' := ?_) #[true, true, true, true, true, true, false, false, false] rfl rfl (any_of HT_.out (by kernel_rfl)) (fun _ _ _ h => h) (Or.inl ⟨by rfl, ?_⟩) ?_ ?_
           rotate_left
           ·intro w'
            go_simp
            with_reducible rfl
           rotate_left
           ·simp only [Act.put, List.setIfInBounds_toArray, List.set_cons_zero, List.set_cons_succ, i64_w, i32_w]
            rfl
           refine one_ (i := 6) (N := some 43) #[true, true, true, true, true, true, true, false, false] rfl rfl (one_of HT_.out (by kernel_rfl)) (by decide) (fun K hK => ?_)
           refine goes_ Try.func51 (by kernel_rfl) rfl #[.slice Ao21 t180.length co21] (by rfl) rfl rfl ar_ ?_
           with_reducible refine (frame_sum.calls k _ _ t180 t184 _ ?side1 ?side2 A14.out).mono ?_
           (case side1 => exact cl_ (Kd.R_reads' HO182.out).2.2)
           (case side2 => exact (Kd.R_reads' HO182.out).2.1)
           rintro e w22 ⟨v185, rfl, ho0, hb⟩
           refine ⟨_, rfl, ?_⟩
           have n0_ := Az.mk (Kd.R_elder' (rl_ HO182.out) (Kd.R_base ho0) hb)
           have n1_ := Az.mk (Kd.R_lower (Kd.R_new' ho0 (Kd.R_lt (rl_ HO182.out))) (below_size (bl_ HB)))
           have n2_ := Az.mk (below_step (bl_ HB) hb)
           clear HO182
           clear HB
           have HO182 := n0_
           have HO186 := n1_
           have HB := n2_
           clear n0_ n1_ n2_
           (try clear hb)
           (try clear hb2)
           (try clear hk)
           (try clear hi)
           (try clear ho0)
           obtain ⟨Ao23, co23, eo23⟩ := Kd.R_slice HO186.out
           (first | subst eo23 | (injection eo23 with f1_ f2_ f3_; have f4_ := f1_.symm; have f5_ := f3_.symm; clear f1_ f2_ f3_; subst f4_; subst f5_))
           refine hK.out _ _ trivial (fun hHeld => ?_)
           clear hK K
           refine norm_ (a' := ?_) ?_ ?_
           rotate_left
           ·show Act.put _ (some 43) _ = _
            simp only [Act.put, List.setIfInBounds_toArray, List.set_cons_zero, List.set_cons_succ, i64_w, i32_w]
            rfl
           refine one_ (i := 7) (N := some 44) #[true, true, true, true, true, true, true, true, false] rfl rfl (one_of HT_.out (by kernel_rfl)) (by decide) (fun K hK => ?_)
           refine goes_ Try.func62 (by kernel_rfl) rfl #[.slice A20 ((l0.take ((wrap64 ((ji10) + 4)) : Int).toNat).drop ((ji10) : Int).toNat).length (c0 - (ji10).toNat), .slice Ao23 t184.length co23] (by rfl) rfl rfl (by (try simp only [List.map_toArray, List.map_cons, List.map_nil]); first | done | (rw [show ((l0.take ((wrap64 ((ji10) + 4)) : Int).toNat).drop ((ji10) : Int).toNat).length = ((wrap64 ((ji10) + 4)).toNat - (ji10).toNat) from (by rw [List.length_drop, List.length_take]; have h_ : ((wrap64 ((ji10) + 4)) : Int) ≤ (l0.length : Int) := of_decide_eq_true as_; omega)] <;> rfl) | (simp only [hji10]; rfl) | rfl | (simp only [List.length_drop, List.length_take]; rfl)) ?_
           with_reducible refine (bytes_Equal.calls _ _ ((l0.take ((wrap64 ((ji10) + 4)) : Int).toNat).drop ((ji10) : Int).toNat) _ _ t184 true _ ?side1 ?side2 ?side3 ?side4 A15.out).mono ?_
           (case side1 => exact cl_ (Kd.C_below HR183.out HB.out))
           (case side2 => exact HC183.out)
           (case side3 => exact cl_ (Kd.R_reads' HO186.out).2.2)
           (case side4 => exact (Kd.R_reads' HO186.out).2.1)
           rintro e w' ⟨rfl, ⟨nd, rfl⟩⟩
           refine ⟨_, rfl, ?_⟩
           refine hK.out _ _ trivial (fun hHeld => ?_)
           clear hK K
           refine norm_ (a' := ?_) ?_ ?_
           rotate_left
           ·show Act.put _ (some 44) _ = _
            simp only [Act.put, List.setIfInBounds_toArray, List.set_cons_zero, List.set_cons_succ, i64_w, i32_w]
            rfl
           refine pure_ (i := 8) (N := some 45) (v := ?_) (a' := ?_) #[true, true, true, true, true, true, true, true, true] rfl rfl (any_of HT_.out (by kernel_rfl)) (fun _ _ _ h => h) (Or.inl ⟨by rfl, ?_⟩) ?_ ?_
           rotate_left
           ·intro w'
            go_simp
            with_reducible rfl
           rotate_left
           ·simp only [Act.put, List.setIfInBounds_toArray, List.set_cons_zero, List.set_cons_succ, i64_w, i32_w]
            rfl
           refine done_ (done_of HT_.out (by kernel_rfl)) ?_
           try go_wp2
           go_ret3
           exact ⟨_, by first | rfl | (simp [errW_none, errW_some] <;> rfl) | (simp only [← hji10]; first | rfl | (simp [errW_none, errW_some] <;> rfl)) | (simp [*, errW_none, errW_some] <;> rfl), by (with_reducible repeat (first | apply Kd.R_alloc | apply Kd.R_drewN | apply Kd.R_drew)); exact Kd.R_mono HO182.out (fun _ hk => trivial), bl_ HB⟩
          ·replace c16 := Bool.eq_false_iff.mpr c16
           subst c16
           have H1 : (some (([] : List Int), 0, 4)) = some (r1, r2, r3) := by rw [if_neg (show ¬ (false = true) by decide)] at H; exact H
           clear H
           have H := H1
           clear H1
           simp only [Option.some.injEq, Prod.mk.injEq] at H
           obtain ⟨rfl, rfl, rfl⟩ := H
           go_enter Try.func65, Try.ntmps65
           try go_wp2_with (first | ((with_reducible refine gate_callee (f := 60) rfl ?_); refine goesL_ (some 12) rfl rfl Try.func60 (by kernel_rfl) rfl #[.slice A0 l0.length c0] rfl ar_ ?_; (with_reducible refine (num_Get.calls _ _ l0 t176 t177 t178 _ ?side1 ?side2 A2.out).mono ?_); (case side1 => exact cl_ HR0.out); (case side2 => exact HC0.out); rintro e w' ⟨rfl, ⟨nd, rfl⟩⟩; refine ⟨_, rfl, ?_⟩; obtain ⟨i024, hi024, _, hsz24, _⟩ := info_parts info5; obtain ⟨A24, hcut24, hA24, hC24⟩ := print_mid_of (P := Try.prog) (Value.int .u8) 0 24 5 .i64 .i64 Try.underlying24 hi024 hsz24 A0 c0 l0 t177 (ji10) (of_decide_eq_true as_) (by first | omega | exact of_decide_eq_true as_) (of_decide_eq_true as_) HC0.out; have HR179 := Az.mk (Kd.C_of_reads (h1 := fun _ => rfl) (hA24 _ (Kd.reads_of_C HR0.out))); have HC179 := Az.mk hC24; clear hA24 hC24 hi024 hsz24) | ((with_reducible refine gate_callee (f := 68) rfl ?_); refine goesL_ (some 36) rfl rfl Try.func68 (by kernel_rfl) rfl #[.slice A24 ((l0.take ((ji10) : Int).toNat).drop (t177 : Int).toNat).length (c0 - t177.toNat)] rfl (by (try simp only [List.map_toArray, List.map_cons, List.map_nil]); first | done | (rw [show ((l0.take ((ji10) : Int).toNat).drop (t177 : Int).toNat).length = ((ji10).toNat - t177.toNat) from (by rw [List.length_drop, List.length_take]; have h_ : ((ji10) : Int) ≤ (l0.length : Int) := of_decide_eq_true as_; omega)] <;> rfl) | (simp only [hji10]; rfl) | rfl | (simp only [List.length_drop, List.length_take]; rfl)) ?_; (with_reducible refine (bytes_Clone.calls _ _ ((l0.take ((ji10) : Int).toNat).drop (t177 : Int).toNat) t180 _ ?side1 ?side2 A9.out).mono ?_); (case side1 => exact cl_ HR179.out); (case side2 => exact HC179.out); rintro e w25 ⟨v181, rfl, ho0, hb⟩; refine ⟨_, rfl, ?_⟩; have n0_ := Az.mk (Kd.R_lower ho0 (below_size (bl_ HB))); have n1_ := Az.mk (below_step (bl_ HB) hb); clear HB; have HO182 := n0_; have HB := n1_; clear n0_ n1_; (try clear hb); (try clear hb2); (try clear hk); (try clear hi); (try clear ho0)))
           have n0_ := Az.mk (Kd.R_drew HO182.out)
           have n1_ := Az.mk (below_drew1 HB.out)
           clear HO182
           clear HB
           have HO182 := n0_
           have HB := n1_
           clear n0_ n1_
           obtain ⟨i027, hi027, _, hsz27, _⟩ := info_parts info5
           obtain ⟨A27, hcut27, hA27, hC27⟩ := print_mid_of (P := Try.prog) (Value.int .u8) 0 24 5 .i64 .i64 Try.underlying24 hi027 hsz27 A0 c0 l0 (ji10) (wrap64 ((ji10) + 4)) (of_decide_eq_true as_) (by first | omega | exact of_decide_eq_true as_) (of_decide_eq_true as_) HC0.out
           have HR183 := Az.mk (Kd.C_of_reads (h1 := fun _ => rfl) (hA27 _ (Kd.reads_of_C HR0.out)))
           have HC183 := Az.mk hC27
           clear hA27 hC27 hi027 hsz27
           obtain ⟨Ao28, co28, eo28⟩ := Kd.R_slice HO182.out
           (first | subst eo28 | (injection eo28 with f1_ f2_ f3_; have f4_ := f1_.symm; have f5_ := f3_.symm; clear f1_ f2_ f3_; subst f4_; subst f5_))
           refine start_ (n := 9) (S := fun w' => True) (ds := []) #[false, false, false, false, false, false, false, false, false] (by kernel_rfl) rfl rfl trivial (fun hHeld => ?_); refine with_tabW frame_Get.tab10 frame_Get.bits10 (fun HT_ HW_ => ?_)
           generalize w25.drew = w26 at HO182 HB HR183 hHeld ⊢
           refine pure_ (i := 0) (N := some 37) (v := ?_) (a' := ?_) #[true, false, false, false, false, false, false, false, false] rfl rfl (any_of HT_.out (by kernel_rfl)) (fun _ _ _ h => h) (Or.inl ⟨by rfl, ?_⟩) ?_ ?_
           rotate_left
           ·intro w'
            go_simp
            with_reducible rfl
           rotate_left
           ·simp only [Act.put, List.setIfInBounds_toArray, List.set_cons_zero, List.set_cons_succ, i64_w, i32_w]
            rfl
           refine pure_ (i := 1) (N := some 38) (v := ?_) (a' := ?_) #[true, true, false, false, false, false, false, false, false] rfl rfl (any_of HT_.out (by kernel_rfl)) (fun _ _ _ h => h) (Or.inl ⟨by rfl, ?_⟩) ?_ ?_
           rotate_left
           ·intro w'
            go_simp
            with_reducible rfl
           rotate_left
           ·simp only [Act.put, List.setIfInBounds_toArray, List.set_cons_zero, List.set_cons_succ, i64_w, i32_w]
            rfl
           refine pure_ (i := 2) (N := some 39) (v := ?_) (a' := ?_) #[true, true, true, false, false, false, false, false, false] rfl rfl (any_of HT_.out (by kernel_rfl)) (fun _ _ _ h => h) (Or.inl ⟨by rfl, ?_⟩) ?_ ?_
           rotate_left
           ·intro w'
            go_simp
            with_reducible rfl
           rotate_left
           ·simp only [Act.put, List.setIfInBounds_toArray, List.set_cons_zero, List.set_cons_succ, i64_w, i32_w]
            rfl
           refine pure_ (i := 3) (N := some 40) (v := ?_) (a' := ?_) #[true, true, true, true, false, false, false, false, false] rfl rfl (any_of HT_.out (by kernel_rfl)) (fun _ _ _ h => h) (Or.inl ⟨by rfl, ?_⟩) ?_ ?_
           rotate_left
           ·intro w'
            go_simp
            with_reducible rfl
           rotate_left
           ·simp only [Act.put, List.setIfInBounds_toArray, List.set_cons_zero, List.set_cons_succ, i64_w, i32_w]
            rfl
           refine pure_ (i := 4) (N := some 41) (v := ?_) (a' := ?_) #[true, true, true, true, true, false, false, false, false] rfl rfl (any_of HT_.out (by kernel_rfl)) (fun _ _ _ h => h) (Or.inl ⟨by rfl, ?_⟩) ?_ ?_
           rotate_left
           ·intro w'
            go_simp
            with_reducible rfl
           rotate_left
           ·simp only [Act.put, List.setIfInBounds_toArray, List.set_cons_zero, List.set_cons_succ, i64_w, i32_w]
            rfl
           refine pure_ (i := 5) (N := some 42) (v := ?_) (a' := ?_) #[true, true, true, true, true, true, false, false, false] rfl rfl (any_of HT_.out (by kernel_rfl)) (fun _ _ _ h => h) (Or.inl ⟨by rfl, ?_⟩) ?_ ?_
           rotate_left
           ·intro w'
            go_simp
            with_reducible rfl
           rotate_left
           ·simp only [Act.put, List.setIfInBounds_toArray, List.set_cons_zero, List.set_cons_succ, i64_w, i32_w]
            rfl
           refine one_ (i := 6) (N := some 43) #[true, true, true, true, true, true, true, false, false] rfl rfl (one_of HT_.out (by kernel_rfl)) (by decide) (fun K hK => ?_)
           refine goes_ Try.func51 (by kernel_rfl) rfl #[.slice Ao28 t180.length co28] (by rfl) rfl rfl ar_ ?_
           with_reducible refine (frame_sum.calls k _ _ t180 t184 _ ?side1 ?side2 A14.out).mono ?_
           (case side1 => exact cl_ (Kd.R_reads' HO182.out).2.2)
           (case side2 => exact (Kd.R_reads' HO182.out).2.1)
           rintro e w29 ⟨v185, rfl, ho0, hb⟩
           refine ⟨_, rfl, ?_⟩
           have n0_ := Az.mk (Kd.R_elder' (rl_ HO182.out) (Kd.R_base ho0) hb)
           have n1_ := Az.mk (Kd.R_lower (Kd.R_new' ho0 (Kd.R_lt (rl_ HO182.out))) (below_size (bl_ HB)))
           have n2_ := Az.mk (below_step (bl_ HB) hb)
           clear HO182
           clear HB
           have HO182 := n0_
           have HO186 := n1_
           have HB := n2_
           clear n0_ n1_ n2_
           (try clear hb)
           (try clear hb2)
           (try clear hk)
           (try clear hi)
           (try clear ho0)
           obtain ⟨Ao30, co30, eo30⟩ := Kd.R_slice HO186.out
           (first | subst eo30 | (injection eo30 with f1_ f2_ f3_; have f4_ := f1_.symm; have f5_ := f3_.symm; clear f1_ f2_ f3_; subst f4_; subst f5_))
           refine hK.out _ _ trivial (fun hHeld => ?_)
           clear hK K
           refine norm_ (a' := ?_) ?_ ?_
           rotate_left
           ·show Act.put _ (some 43) _ = _
            simp only [Act.put, List.setIfInBounds_toArray, List.set_cons_zero, List.set_cons_succ, i64_w, i32_w]
            rfl
           refine one_ (i := 7) (N := some 44) #[true, true, true, true, true, true, true, true, false] rfl rfl (one_of HT_.out (by kernel_rfl)) (by decide) (fun K hK => ?_)
           refine goes_ Try.func62 (by kernel_rfl) rfl #[.slice A27 ((l0.take ((wrap64 ((ji10) + 4)) : Int).toNat).drop ((ji10) : Int).toNat).length (c0 - (ji10).toNat), .slice Ao30 t184.length co30] (by rfl) rfl rfl (by (try simp only [List.map_toArray, List.map_cons, List.map_nil]); first | done | (rw [show ((l0.take ((wrap64 ((ji10) + 4)) : Int).toNat).drop ((ji10) : Int).toNat).length = ((wrap64 ((ji10) + 4)).toNat - (ji10).toNat) from (by rw [List.length_drop, List.length_take]; have h_ : ((wrap64 ((ji10) + 4)) : Int) ≤ (l0.length : Int) := of_decide_eq_true as_; omega)] <;> rfl) | (simp only [hji10]; rfl) | rfl | (simp only [List.length_drop, List.length_take]; rfl)) ?_
           with_reducible refine (bytes_Equal.calls _ _ ((l0.take ((wrap64 ((ji10) + 4)) : Int).toNat).drop ((ji10) : Int).toNat) _ _ t184 false _ ?side1 ?side2 ?side3 ?side4 A15.out).mono ?_
           (case side1 => exact cl_ (Kd.C_below HR183.out HB.out))
           (case side2 => exact HC183.out)
           (case side3 => exact cl_ (Kd.R_reads' HO186.out).2.2)
           (case side4 => exact (Kd.R_reads' HO186.out).2.1)
           rintro e w' ⟨rfl, ⟨nd, rfl⟩⟩
           refine ⟨_, rfl, ?_⟩
           refine hK.out _ _ trivial (fun hHeld => ?_)
           clear hK K
           refine norm_ (a' := ?_) ?_ ?_
           rotate_left
           ·show Act.put _ (some 44) _ = _
            simp only [Act.put, List.setIfInBounds_toArray, List.set_cons_zero, List.set_cons_succ, i64_w, i32_w]
            rfl
           refine pure_ (i := 8) (N := some 45) (v := ?_) (a' := ?_) #[true, true, true, true, true, true, true, true, true] rfl rfl (any_of HT_.out (by kernel_rfl)) (fun _ _ _ h => h) (Or.inl ⟨by rfl, ?_⟩) ?_ ?_
           rotate_left
           ·intro w'
            go_simp
            with_reducible rfl
           rotate_left
           ·simp only [Act.put, List.setIfInBounds_toArray, List.set_cons_zero, List.set_cons_succ, i64_w, i32_w]
            rfl
           refine done_ (done_of HT_.out (by kernel_rfl)) ?_
           try go_wp2
           go_ret3
           exact ⟨_, by first | rfl | (simp [errW_none, errW_some] <;> rfl) | (simp only [← hji10]; first | rfl | (simp [errW_none, errW_some] <;> rfl)) | (simp [*, errW_none, errW_some] <;> rfl), nl_, bl_ HB⟩
         ·rw [if_neg c13] at H
          exact absurd H (by simp)
        ·rw [if_neg c12] at H
         exact absurd H (by simp)
       ·rw [if_neg c11] at H
        exact absurd H (by simp)
      ·rw [if_neg c8] at H
       exact absurd H (by simp)
     ·rw [if_neg c7] at H
      exact absurd H (by simp)
    ·rw [if_neg c6] at H
     exact absurd H (by simp)
 ·rw [if_neg c3] at H
  have c3b0 : (t178 == 0) = false := beq_eq_false_iff_ne.mpr c3
  have c3b1 : (t178 != 0) = true := bne_iff_ne.mpr c3
  simp only [Option.some.injEq, Prod.mk.injEq] at H
  obtain ⟨rfl, rfl, rfl⟩ := H
  go_enter Try.func65, Try.ntmps65
  go_wp2_with (first | ((with_reducible refine gate_callee (f := 60) rfl ?_); refine goesL_ (some 12) rfl rfl Try.func60 (by kernel_rfl) rfl #[.slice A0 l0.length c0] rfl ar_ ?_; (with_reducible refine (num_Get.calls _ _ l0 t176 t177 t178 _ ?side1 ?side2 A2.out).mono ?_); (case side1 => exact cl_ HR0.out); (case side2 => exact HC0.out); rintro e w' ⟨rfl, ⟨nd, rfl⟩⟩; refine ⟨_, rfl, ?_⟩))
  go_ret3
  exact ⟨_, er_, nl_, bl_ HB⟩
def frame_Scan.l0 : Nat → List Int → List (List Int) → Int → Option ((List (List Int)) × Int)
 | 0, _, _, _ => none
 | k + 1, x0, x4, x5 => if 0 ≤ x5 then (if x5 ≤ (x0.length : Int) then ((frame_Get.f k (x0.drop (x5 : Int).toNat)).bind fun bt189 => (if bt189.2.2 = 0 then (if x4.length < 5864062014805 then (frame_Scan.l0 k x0 (x4 ++ [bt189.1]) (wrap64 (x5 + bt189.2.1))) else (none)) else (some (x4, x5)))) else (none)) else (none)
def frame_Scan.f (k : Nat) (l0 : List Int) : Option ((List (List Int)) × Int) := frame_Scan.l0 k l0 ([] : List (List Int)) 0
theorem frame_Scan.mono_l : ∀ k, (∀ y0 y1 y2, LeO (frame_Scan.l0 k y0 y1 y2) (frame_Scan.l0 (k + 1) y0 y1 y2))
 | 0 => fun _ _ _ r h => by simp [frame_Scan.l0] at h
 | k + 1 => by
  have ih0 := frame_Scan.mono_l k
  ·intro y0 y1 y2
   unfold frame_Scan.l0
   repeat' first
   | (with_reducible exact ih0 _ _ _)
   | (with_reducible exact frame_Get.mono _ _)
   | (with_reducible exact LeO.refl _)
   | (with_reducible exact LeO.none _)
   | (with_reducible refine LeO.ite ?_ ?_)
   | (with_reducible refine LeO.bind ?_ (fun _ => ?_))
   | exact ih0 _ _ _
   | exact frame_Get.mono _ _
   | exact LeO.none _
   | refine LeO.ite ?_ ?_
   | refine LeO.bind ?_ (fun _ => ?_)
theorem frame_Scan.mono : ∀ a0 k, LeO (frame_Scan.f k a0) (frame_Scan.f (k + 1) a0) := by
 intro a0 k
 have ih0 := frame_Scan.mono_l k
 unfold frame_Scan.f
 repeat' first
   | (with_reducible exact ih0 _ _ _)
   | (with_reducible exact frame_Get.mono _ _)
   | (with_reducible exact LeO.refl _)
   | (with_reducible exact LeO.none _)
   | (with_reducible refine LeO.ite ?_ ?_)
   | (with_reducible refine LeO.bind ?_ (fun _ => ?_))
   | exact ih0 _ _ _
   | exact frame_Get.mono _ _
   | exact LeO.none _
   | refine LeO.ite ?_ ?_
   | refine LeO.bind ?_ (fun _ => ?_)
theorem frame_Scan.calls (k : Nat) (A0 : Option Addr) (c0 : Nat) (l0 : List Int) (r1 : List (List Int)) (r2 : Int) (w : World) (hr0 : Kd.C (Kd.int .u8) w A0 l0.length l0) (hc0 : l0.length ≤ c0) (h : frame_Scan.f k l0 = some (r1, r2)) :
  Calls Try.prog 59 #[.slice A0 l0.length c0] w fun e w' => ∃ v0_ : Value, e = .returned (.tuple #[v0_, .int .i64 r2]) ∧ Kd.S (Kd.slice 5 (Kd.int .u8)) 24 w' w.heap.size (fun _ => True) v0_ r1 ∧ Below w.heap.size w w' := by
 have HR0 := Az.mk hr0
 have HC0 := Az.mk hc0
 clear hr0 hc0
 have HB := Az.mk (Below.refl w.heap.size w)
 have H : (frame_Scan.l0 k l0 ([] : List (List Int)) 0) = some (r1, r2) := h
 clear h
 have H' := Az.mk H
 clear H
 go_enter Try.func59, Try.ntmps59
 go_wp2
 go_loopg [4, 5] k (fun kq v4 v5 w' => ∃ (x4_1 : List (List Int)) (x5_1 : Int), v5 = .int .i64 x5_1 ∧ Az (frame_Scan.l0 kq l0 x4_1 x5_1 = some (r1, r2)) ∧ Az (kq ≤ k) ∧ Az (Kd.S (Kd.slice 5 (Kd.int .u8)) 24 w' w.heap.size (fun _ => True) v4 x4_1) ∧ Az (Below w.heap.size w w'))
 case atStart => exact ⟨(([] : List (List Int))), (0), (es_), H', ⟨Nat.le_refl _⟩, ⟨by first | exact Kd.S_nil _ _ _ _ _ | exact Kd.N_nil _ _ _ _ _ | exact Kd.V_nil _ _ _ _ _ | exact Kd.Q_nil _ _ _ _ _ | exact Kd.R_nil _ _ _ _ _⟩, ⟨bl_ HB⟩⟩
 case round =>
  clear H'
  obtain ⟨x4_1, x5_1, rfl, HA, HK1, HO_4, HB⟩ := hrel
  cases gk with
  | zero => exact absurd HA.out (by simp [frame_Scan.l0])
  | succ k1 =>
   have H := HA.out
   clear HA
   simp only [frame_Scan.l0] at H
   by_cases c2 : 0 ≤ x5_1
   ·rw [if_pos c2] at H
    have c2b0 := eq_true c2
    have c2b1 := decide_eq_true c2
    clear c2
    by_cases c3 : x5_1 ≤ (l0.length : Int)
    ·rw [if_pos c3] at H
     have c3b0 := eq_true c3
     have c3b1 := decide_eq_true c3
     clear c3
     replace H := Option.bind_eq_some_iff.mp H
     obtain ⟨⟨t189, t190, t191⟩, A40, H⟩ := H
     replace H : (if t191 = 0 then (if x4_1.length < 5864062014805 then (frame_Scan.l0 k1 l0 (x4_1 ++ [t189]) (wrap64 (x5_1 + t190))) else (none)) else (some (x4_1, x5_1))) = some (r1, r2) := H
     have A4 := Az.mk A40
     clear A40
     by_cases c5 : t191 = 0
     ·rw [if_pos c5] at H
      have c5b0 : (t191 == 0) = true := beq_iff_eq.mpr c5
      have c5b1 : (t191 != 0) = false := bne_eq_false_iff_eq.mpr c5
      clear c5
      by_cases c6 : x4_1.length < 5864062014805
      ·rw [if_pos c6] at H
       have LMc6 := Az.mk c6
       clear c6
       obtain ⟨y194, hy194⟩ : ∃ y_ : List (List Int), y_ = (x4_1 ++ [t189]) := ⟨_, rfl⟩
       replace H : (frame_Scan.l0 k1 l0 y194 (wrap64 (x5_1 + t190))) = some (r1, r2) := hr_ hy194 H
       have Ny194 := Az.mk hy194
       clear hy194
       have H' := Az.mk H
       clear H
       obtain ⟨i07, hi07, _, hsz7, _⟩ := info_parts info5
       obtain ⟨A7, hcut7, hA7, hC7⟩ := print_drop_of (P := Try.prog) (Value.int .u8) 0 24 5 .i64 Try.underlying24 hi07 hsz7 A0 c0 l0 x5_1 (of_decide_eq_true as_) (of_decide_eq_true as_) HC0.out
       have HR188 := Az.mk (Kd.C_of_reads (h1 := fun _ => rfl) (hA7 _ (Kd.reads_of_C HR0.out)))
       have HC188 := Az.mk hC7
       clear hA7 hC7 hi07 hsz7
       go_wp2_with (first | ((with_reducible refine gate_callee (f := 65) rfl ?_); refine goesL_ (some 13) rfl rfl Try.func65 (by kernel_rfl) rfl #[.slice A7 (l0.drop (x5_1 : Int).toNat).length (c0 - x5_1.toNat)] rfl (by (try simp only [List.map_toArray, List.map_cons, List.map_nil]); first | done | (rw [show (l0.drop (x5_1 : Int).toNat).length = (l0.length - x5_1.toNat) from List.length_drop] <;> rfl) | rfl | (simp only [List.length_drop, List.length_take]; rfl)) ?_; (with_reducible refine (frame_Get.calls k1 _ _ (l0.drop (x5_1 : Int).toNat) t189 t190 t191 _ ?side1 ?side2 A4.out).mono ?_); (case side1 => exact cl_ (Kd.C_below HR188.out HB.out)); (case side2 => exact HC188.out); rintro e w8 ⟨v192, rfl, ho0, hb⟩; refine ⟨_, rfl, ?_⟩; have n0_ := Az.mk (Kd.S_elder' (sl_ HO_4.out) (Kd.R_base ho0) hb); have n1_ := Az.mk (Kd.R_lower ho0 (below_size (bl_ HB))); have n2_ := Az.mk (below_step (bl_ HB) hb); clear HO_4; clear HB; have HO_4 := n0_; have HO193 := n1_; have HB := n2_; clear n0_ n1_ n2_; (try clear hb); (try clear hb2); (try clear hk); (try clear hi); (try clear ho0); obtain ⟨Ao10, co10, eo10⟩ := Kd.R_slice HO193.out; subst eo10) | ((with_reducible refine gate_builtin (b := .append) (xs := #[.tmp 21, .tmp 23]) rfl ?_); at_builtin; refine Kd.S_append (Kd.slice 5 (Kd.int .u8)) (w0 := w) w.heap.size rfl (.tmp 21) (.tmp 23) 22 24 (.slice none 0 0) 24 rfl Try.underlying22 info24 rfl (by decide) (by omega) u4 x4_1 t189 [.slice Ao10 t189.length co10] (fun _ => True) (fun k_ => some k_ = (.slice Ao10 t189.length co10 : Value).ownBlock) rfl rfl ?aP (fun k_ hk_ => ((Kd.R_mono (ok' := fun k_ => ((fun _ => True)) k_ ∧ some k_ ≠ (u4 : Value).ownBlock) (Kd.R_apart' (HO193.out) (Kd.S_typed HO_4.out) (by decide)) (fun k_ hk => ⟨trivial, hk.2⟩))).1 k_ hk_.symm) ?aF ?aO ?aB ?aS ?aL ?_; (case aP => exact Kd.M_row (Kd.R_mono (Kd.R_tight rfl (Kd.R_mono (ok' := fun k_ => ((fun _ => True)) k_ ∧ some k_ ≠ (u4 : Value).ownBlock) (Kd.R_apart' (HO193.out) (Kd.S_typed HO_4.out) (by decide)) (fun k_ hk => ⟨trivial, hk.2⟩))) (fun _ h_ => h_))); (case aB => exact (bl_ HB)); (case aF => exact (fun _ _ => trivial)); (case aO => exact (by (with_reducible repeat (first | apply Kd.S_alloc | apply Kd.S_drewN | apply Kd.S_drew)); exact Kd.S_mono HO_4.out (fun k_ hk => ⟨trivial, fun e_ => hk.2 e_⟩))); (case aS => exact (below_size (bl_ HB))); (case aL => have := LMc6.out; omega); intro v195 w9 ho hb hg hat; rw [← Ny194.out] at ho; have n0_ := Az.mk (hb); have n1_ := Az.mk (ho); clear HB; clear HO_4; clear HO193; have HB := n0_; have HO196 := n1_; clear n0_ n1_; clear ho hb hg hat))
       go_roundg k1
       case measure => have := HK1.out; omega
       case rel => exact ⟨(y194), (wrap64 (x5_1 + t190)), (es_), H', ⟨by have := HK1.out; omega⟩, ⟨sl_ HO196.out⟩, ⟨bl_ HB⟩⟩
      ·rw [if_neg c6] at H
       exact absurd H (by simp)
     ·rw [if_neg c5] at H
      have c5b0 : (t191 == 0) = false := beq_eq_false_iff_ne.mpr c5
      have c5b1 : (t191 != 0) = true := bne_iff_ne.mpr c5
      simp only [Option.some.injEq, Prod.mk.injEq] at H
      obtain ⟨rfl, rfl⟩ := H
      obtain ⟨i011, hi011, _, hsz11, _⟩ := info_parts info5
      obtain ⟨A11, hcut11, hA11, hC11⟩ := print_drop_of (P := Try.prog) (Value.int .u8) 0 24 5 .i64 Try.underlying24 hi011 hsz11 A0 c0 l0 x5_1 (of_decide_eq_true as_) (of_decide_eq_true as_) HC0.out
      have HR188 := Az.mk (Kd.C_of_reads (h1 := fun _ => rfl) (hA11 _ (Kd.reads_of_C HR0.out)))
      have HC188 := Az.mk hC11
      clear hA11 hC11 hi011 hsz11
      go_wp2_with (first | ((with_reducible refine gate_callee (f := 65) rfl ?_); refine goesL_ (some 13) rfl rfl Try.func65 (by kernel_rfl) rfl #[.slice A11 (l0.drop (x5_1 : Int).toNat).length (c0 - x5_1.toNat)] rfl (by (try simp only [List.map_toArray, List.map_cons, List.map_nil]); first | done | (rw [show (l0.drop (x5_1 : Int).toNat).length = (l0.length - x5_1.toNat) from List.length_drop] <;> rfl) | rfl | (simp only [List.length_drop, List.length_take]; rfl)) ?_; (with_reducible refine (frame_Get.calls k1 _ _ (l0.drop (x5_1 : Int).toNat) t189 t190 t191 _ ?side1 ?side2 A4.out).mono ?_); (case side1 => exact cl_ (Kd.C_below HR188.out HB.out)); (case side2 => exact HC188.out); rintro e w12 ⟨v192, rfl, ho0, hb⟩; refine ⟨_, rfl, ?_⟩; have n0_ := Az.mk (Kd.S_elder' (sl_ HO_4.out) (Kd.R_base ho0) hb); have n1_ := Az.mk (Kd.R_lower ho0 (below_size (bl_ HB))); have n2_ := Az.mk (below_step (bl_ HB) hb); clear HO_4; clear HB; have HO_4 := n0_; have HO193 := n1_; have HB := n2_; clear n0_ n1_ n2_; (try clear hb); (try clear hb2); (try clear hk); (try clear hi); (try clear ho0)))
      go_ret2
      exact ⟨_, er_, by (with_reducible repeat (first | apply Kd.S_alloc | apply Kd.S_drewN | apply Kd.S_drew)); exact Kd.S_mono HO_4.out (fun _ hk => trivial), bl_ HB⟩
    ·rw [if_neg c3] at H
     exact absurd H (by simp)
   ·rw [if_neg c2] at H
    exact absurd H (by simp)
end Go.Proofs.Ytiohnpphhepdfaa.PPa
end
