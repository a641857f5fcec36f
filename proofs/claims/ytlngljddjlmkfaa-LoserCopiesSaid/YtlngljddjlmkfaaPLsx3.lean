/- Contracts of Go functions: called with what reads as these lists and numbers, a function returns what its plain Lean function says, and leaves what was there. Written by a program of this session. -/
import Derived.Test.YtlngljddjlmkfaaPLsx0
import Derived.Test.YtlngljddjlmkfaaPLsx2
namespace Go.Proofs.Ytlngljddjlmkfaa.PLs
open Go.RowKit Go.Proofs.YtlngljddjlmkfaaW.PrintWords Go.Proofs.YtlngljddjlmkfaaW.PrintLast Go.Proofs.YtlngljddjlmkfaaW.PrintMore
attribute [local go_sem] max2_int min2_int max_two min_two max_three min_three max_four min_four   -- for this text's walks alone
attribute [local go_sem] Go.Proofs.Ytlngljddjlmkfaa.MoreWords.str_leq Go.Proofs.Ytlngljddjlmkfaa.MoreWords.str_gtr Go.Proofs.Ytlngljddjlmkfaa.MoreWords.str_geq
set_option linter.unusedVariables false
set_option linter.unusedSimpArgs false

/-! ### loser_tree_play: function 25 -/
set_option maxHeartbeats 8000000 in
set_option maxRecDepth 100000 in
theorem loser_tree_play.calls (w0 w : World) (g go gl : Nat) (ls : List (List S37)) (lost : List Nat) (i : Nat) (hT : TreeIs w0 w g go gl ls lost) (hi : i < ls.length) (hll : lost.length = ls.length) (hlo : ∀ x ∈ lost, x < ls.length) (hn : ls.length ≤ 1000) :
    Calls Try.prog 25 #[.pointer (some ⟨g, 0, none⟩), .int .i64 i] w fun e w' => e = .returned (.tuple #[]) ∧ TreeIs w0 w' g go gl ls (playG ls ((i + ls.length) / 2) ((i + ls.length) / 2) i lost) ∧ ButTwo w w' go gl := by
  have hc0 : w.cell? ⟨g, 0, none⟩ = some (.slice (some ⟨go, 0, none⟩) ls.length ls.length) := blk_cell hT.tree 0
  have hs1 : wrap64 ((i : Int) + (ls.length : Int)) = ((i + ls.length : Nat) : Int) := by unfold wrap64; omega
  have hs2 := half (i + ls.length) (by omega)
  have HT := Aside0.mk hT
  have HS1 := Aside0.mk hs1
  have HS2 := Aside0.mk hs2
  have HI := Aside0.mk hi
  have HN := Aside0.mk hn
  have HLL := Aside0.mk hll
  have HLO := Aside0.mk hlo
  clear hT hi hn hll hlo hs1 hs2
  go_enter Try.func25, Try.ntmps25
  go_wp2
  go_loopg [1, 5] ((i + ls.length) / 2) (fun kq v1 v5 w' => ∃ (j k : Nat) (lo : List Nat), v1 = .int .i64 j ∧ v5 = .int .i64 k ∧ Aside0 (k ≤ kq ∧ k < ls.length ∧ j < ls.length ∧ lo.length = ls.length ∧ ∀ x ∈ lo, x < ls.length) ∧ Aside0 (playG ls kq k j lo = playG ls ((i + ls.length) / 2) ((i + ls.length) / 2) i lost) ∧ Aside0 (TreeIs w0 w' g go gl ls lo) ∧ Aside0 (ButTwo w w' go gl))
  case atStart => exact ⟨i, (i + ls.length) / 2, lost, rfl, by rw [HS1.out, HS2.out], ⟨Nat.le_refl _, by have := HI.out; omega, HI.out, HLL.out, HLO.out⟩, ⟨rfl⟩, HT, ⟨ButTwo.refl _ _ _⟩⟩
  case round =>
    obtain ⟨j, k, lo, rfl, rfl, HA, HP, HTR, HB⟩ := hrel
    clear HT
    have hq0 : wr.cell? ⟨g, 1, none⟩ = some (.slice (some ⟨gl, 0, none⟩) lo.length lo.length) := blk_cell HTR.out.tree 1
    by_cases c1 : k = 0
    · subst c1
      have i1 : ((0 : Int) < (lo.length : Int)) = True := eq_true (by have := HA.out; omega)
      have i2 : (0 < lo.length) = True := eq_true (by have := HA.out; omega)
      have hf : wr.frozen? ⟨gl, 0, none⟩ = false := blk_frozen HTR.out.lost 0
      have hv : wr.cell? ⟨gl, 0, none⟩ = some (.int .i64 (lst lo 0 : Nat)) := HTR.out.lose 0 (by have := HA.out; omega)
      go_wp2
      go_end0
      refine ⟨rfl, ?_, HB.out.set (.inr rfl) 0 _⟩
      rw [← HP.out]
      have e : playG ls gk 0 j lo = lo.set 0 j := by cases gk <;> rfl
      rw [e]
      exact HTR.out.setLost 0 j
    · have i1 : (0 < k) = True := eq_true (by omega)
      have i2 : (k < lo.length) = True := eq_true (by have := HA.out; omega)
      have hf : wr.frozen? ⟨gl, k, none⟩ = false := blk_frozen HTR.out.lost k
      have hv : wr.cell? ⟨gl, k, none⟩ = some (.int .i64 (lst lo k : Nat)) := HTR.out.lose k (by have := HA.out; omega)
      cases gk with
      | zero => exact absurd HA.out.1 (by omega)
      | succ k1 =>
        have hlt : lst lo k < ls.length := by
          have := HA.out
          unfold lst
          rw [List.getD_eq_getElem?_getD, List.getElem?_eq_getElem (by omega)]
          exact this.2.2.2.2 _ (List.getElem_mem (by omega))
        have HLT := Aside0.mk hlt
        have hkk : k ≤ 100000 := by have := HA.out; have := HN.out; omega
        have HH := Aside0.mk (half2 k hkk)
        have hk0 : k ≠ 0 := c1
        have HK0 := Aside0.mk hk0
        clear hlt c1 hkk hk0
        by_cases c2 : aheadB ls (lst lo k) j = true
        · go_wp2_with (go_at_call 24; refine (loser_tree_ahead.calls w0 wr g go gl ls lo (lst lo k) j HTR.out HLT.out HA.out.2.2.1).mono ?_; rintro e w' ⟨rfl, ⟨nd, rfl⟩⟩)
          go_region
          go_wp2
          go_roundg k1
          case measure => omega
          case rel =>
            have hA := HA.out
            refine ⟨lst lo k, k / 2, lo.set k j, rfl, by rw [HH.out], ⟨by omega, by omega, HLT.out, by rw [List.length_set]; exact hA.2.2.2.1, fun x hx => ?_⟩, ⟨?_⟩, ⟨(HTR.out.drewN _).setLost k j⟩, ⟨(HB.out.drewN _).set (.inr rfl) k _⟩⟩
            · rcases List.mem_or_eq_of_mem_set hx with h | h
              · exact hA.2.2.2.2 x h
              · rw [h]; exact hA.2.2.1
            · rw [← HP.out, playG, if_neg HK0.out, if_pos c2]
        · have c2 : aheadB ls (lst lo k) j = false := by simpa using c2
          go_wp2_with (go_at_call 24; refine (loser_tree_ahead.calls w0 wr g go gl ls lo (lst lo k) j HTR.out HLT.out HA.out.2.2.1).mono ?_; rintro e w' ⟨rfl, ⟨nd, rfl⟩⟩)
          go_roundg k1
          case measure => omega
          case rel =>
            have hA := HA.out
            refine ⟨j, k / 2, lo, rfl, by rw [HH.out], ⟨by omega, by omega, hA.2.2.1, hA.2.2.2.1, hA.2.2.2.2⟩, ⟨?_⟩, ⟨HTR.out.drewN _⟩, ⟨HB.out.drewN _⟩⟩
            rw [← HP.out, playG, if_neg HK0.out, if_neg (by rw [c2]; simp)]

/-! ### loser_tree_next: function 16 -/
set_option maxHeartbeats 8000000 in
set_option maxRecDepth 100000 in
theorem loser_tree_next.end (w0 w : World) (g go gl : Nat) (ls : List (List S37)) (lost : List Nat) (hT : TreeIs w0 w g go gl ls lost) (hl0 : 0 < lost.length) (hlt : lst lost 0 < ls.length) (he : (at2 ls (lst lost 0)).length = 0) :
    Calls Try.prog 16 #[.pointer (some ⟨g, 0, none⟩)] w fun e w' => e = .returned (.tuple #[.agg #[.string ⟨#[]⟩, .int .u64 0], .bool false]) ∧ TreeIs w0 w' g go gl ls lost ∧ ButTwo w w' go gl := by
  have HT := Aside0.mk hT
  clear hT
  have HL0 := Aside0.mk hl0
  have HLT := Aside0.mk hlt
  clear hl0 hlt
  go_enter Try.func16, Try.ntmps16
  go_upto_region 1 with (fail)
  have HT1 := Aside0.mk (HT.out.alloc (.cells #[.string ⟨#[]⟩, .int .u64 0] 37 (0, 0)))
  have hbk : (w.alloc (.cells #[.string ⟨#[]⟩, .int .u64 0] 37 (0, 0))).heap[w.heap.size]? = some (.cells #[.string ⟨#[]⟩, .int .u64 0] 37 (0, 0)) := blk_new _ _
  have HB1 := Aside0.mk ((ButTwo.refl w go gl).alloc (.cells #[.string ⟨#[]⟩, .int .u64 0] 37 (0, 0)))
  obtain ⟨W1, hW1⟩ : ∃ W1, W1 = w.alloc (.cells #[.string ⟨#[]⟩, .int .u64 0] 37 (0, 0)) := ⟨_, rfl⟩
  rw [← hW1] at HT1 hbk HB1 ⊢
  have hlt := HT.out.lt
  obtain ⟨b, hb⟩ : ∃ b, b = w.heap.size := ⟨_, rfl⟩
  rw [← hb] at hbk hlt ⊢
  have BK := Aside0.mk hbk
  have HBG := Aside0.mk hlt.2.2.2
  have HBW := Aside0.mk (Nat.le_of_eq hb.symm)
  clear hW1 hbk hb hlt
  obtain ⟨A, c, h1, h2, _, _⟩ := HT1.out.list (lst lost 0) HLT.out
  have hc0 : W1.cell? ⟨g, 0, none⟩ = some (.slice (some ⟨go, 0, none⟩) ls.length ls.length) := blk_cell HT1.out.tree 0
  have hc1 : W1.cell? ⟨g, 1, none⟩ = some (.slice (some ⟨gl, 0, none⟩) lost.length lost.length) := blk_cell HT1.out.tree 1
  have hv : W1.cell? ⟨gl, 0, none⟩ = some (.int .i64 (lst lost 0 : Nat)) := HT1.out.lose 0 HL0.out
  have i1 : (0 < lost.length) = True := eq_true HL0.out
  have i2 : (lst lost 0 < ls.length) = True := eq_true HLT.out
  have hf0 := blk_frozen BK.out 0
  have hb0 : W1.cell? ⟨b, 0, none⟩ = some (.string ⟨#[]⟩) := blk_cell BK.out 0
  have hb1 : W1.cell? ⟨b, 1, none⟩ = some (.int .u64 0) := blk_cell BK.out 1
  have hf1 := blk_frozen BK.out 1
  have e1 : (((at2 ls (lst lost 0)).length : Int) == 0) = true := beq_iff_eq.mpr (by omega)
  clear h2 he
  go_wp2
  refine bodyPost_ret (results_ct rfl _ _ b 37 #[.string (⟨#[]⟩ : ByteArray), .int .u64 0] (0, 0) _ rfl (by (with_reducible repeat (first | refine blk_drewN ?_ _ | refine blk_drew ?_ | refine blk_alloc ?_ _)); refine blk_put (cs := #[.string (⟨#[]⟩ : ByteArray), .int .u64 0]) ?_ 1 _ rfl; (with_reducible repeat (first | refine blk_drewN ?_ _ | refine blk_drew ?_ | refine blk_alloc ?_ _)); refine blk_put (cs := #[.string (⟨#[]⟩ : ByteArray), .int .u64 0]) ?_ 0 _ rfl; exact BK.out) Try.underlying37 rfl (by kernel_rfl)) rfl ?_
  exact ⟨rfl, (HT1.out.far HBG.out 0 _).far HBG.out 1 _, (HB1.out.setNew HBW.out 0 _).setNew HBW.out 1 _⟩
set_option maxHeartbeats 8000000 in
set_option maxRecDepth 100000 in
theorem loser_tree_next.more (w0 w : World) (g go gl : Nat) (ls : List (List S37)) (lost : List Nat) (hT : TreeIs w0 w g go gl ls lost) (hl0 : 0 < lost.length) (hlt : lst lost 0 < ls.length) (he : (at2 ls (lst lost 0)).length ≠ 0) (hll : lost.length = ls.length) (hlo : ∀ x ∈ lost, x < ls.length) (hn : ls.length ≤ 1000) :
    Calls Try.prog 16 #[.pointer (some ⟨g, 0, none⟩)] w fun e w' => e = .returned (.tuple #[.agg #[.string (hdE (at2 ls (lst lost 0))).f0, .int .u64 (hdE (at2 ls (lst lost 0))).f1], .bool true]) ∧ TreeIs w0 w' g go gl (ls.set (lst lost 0) ((at2 ls (lst lost 0)).drop 1)) (playG (ls.set (lst lost 0) ((at2 ls (lst lost 0)).drop 1)) ((lst lost 0 + ls.length) / 2) ((lst lost 0 + ls.length) / 2) (lst lost 0) lost) ∧ ButTwo w w' go gl := by
  have HT := Aside0.mk hT
  clear hT
  have HLL := Aside0.mk hll
  have HLO := Aside0.mk hlo
  have HN := Aside0.mk hn
  clear hll hlo hn
  have HL0 := Aside0.mk hl0
  have HLT := Aside0.mk hlt
  clear hl0 hlt
  go_enter Try.func16, Try.ntmps16
  go_upto_region 1 with (fail)
  have HT1 := Aside0.mk (HT.out.alloc (.cells #[.string ⟨#[]⟩, .int .u64 0] 37 (0, 0)))
  have hbk : (w.alloc (.cells #[.string ⟨#[]⟩, .int .u64 0] 37 (0, 0))).heap[w.heap.size]? = some (.cells #[.string ⟨#[]⟩, .int .u64 0] 37 (0, 0)) := blk_new _ _
  have HB1 := Aside0.mk ((ButTwo.refl w go gl).alloc (.cells #[.string ⟨#[]⟩, .int .u64 0] 37 (0, 0)))
  obtain ⟨W1, hW1⟩ : ∃ W1, W1 = w.alloc (.cells #[.string ⟨#[]⟩, .int .u64 0] 37 (0, 0)) := ⟨_, rfl⟩
  rw [← hW1] at HT1 hbk HB1 ⊢
  have hlt := HT.out.lt
  obtain ⟨b, hb⟩ : ∃ b, b = w.heap.size := ⟨_, rfl⟩
  rw [← hb] at hbk hlt ⊢
  have BK := Aside0.mk hbk
  have HBG := Aside0.mk hlt.2.2.2
  have HBW := Aside0.mk (Nat.le_of_eq hb.symm)
  clear hW1 hbk hb hlt
  obtain ⟨ad, c, h1, h2, h3, h4⟩ := HT1.out.head (lst lost 0) HLT.out he
  obtain ⟨A', c', h1', h2', _, hC0⟩ := HT1.out.list (lst lost 0) HLT.out
  have hA : A' = some ad ∧ c' = c := by
    rw [h1] at h1'
    injection h1' with h1'
    injection h1' with a b c
    exact ⟨a.symm, c.symm⟩
  obtain ⟨rfl, rfl⟩ := hA
  have hc0 : W1.cell? ⟨g, 0, none⟩ = some (.slice (some ⟨go, 0, none⟩) ls.length ls.length) := blk_cell HT1.out.tree 0
  have hc1 : W1.cell? ⟨g, 1, none⟩ = some (.slice (some ⟨gl, 0, none⟩) lost.length lost.length) := blk_cell HT1.out.tree 1
  have hv : W1.cell? ⟨gl, 0, none⟩ = some (.int .i64 (lst lost 0 : Nat)) := HT1.out.lose 0 HL0.out
  have i1 : (0 < lost.length) = True := eq_true HL0.out
  have i2 : (lst lost 0 < ls.length) = True := eq_true HLT.out
  have i3 : (0 < (at2 ls (lst lost 0)).length) = True := eq_true (by omega)
  have e1 : (((at2 ls (lst lost 0)).length : Int) == 0) = false := beq_eq_false_iff_ne.mpr (by omega)
  have HE := Aside0.mk he
  have HC := Aside0.mk hC0
  have H2 := Aside0.mk h2
  clear h2 he hC0 h1' h2'
  go_upto_region 5 with (fail)
  have HT2 := Aside0.mk (HT1.out.alloc (.cells #[.string (hdE (at2 ls (lst lost 0))).f0, .int .u64 (hdE (at2 ls (lst lost 0))).f1] 37))
  have hbk2 : (W1.alloc (.cells #[.string (hdE (at2 ls (lst lost 0))).f0, .int .u64 (hdE (at2 ls (lst lost 0))).f1] 37)).heap[W1.heap.size]? = some (.cells #[.string (hdE (at2 ls (lst lost 0))).f0, .int .u64 (hdE (at2 ls (lst lost 0))).f1] 37 (0, 0)) := blk_new _ _
  have hbk1 := blk_alloc BK.out (.cells #[.string (hdE (at2 ls (lst lost 0))).f0, .int .u64 (hdE (at2 ls (lst lost 0))).f1] 37)
  have HB2 := Aside0.mk (HB1.out.alloc (.cells #[.string (hdE (at2 ls (lst lost 0))).f0, .int .u64 (hdE (at2 ls (lst lost 0))).f1] 37))
  obtain ⟨W2, hW2⟩ : ∃ W2, W2 = W1.alloc (.cells #[.string (hdE (at2 ls (lst lost 0))).f0, .int .u64 (hdE (at2 ls (lst lost 0))).f1] 37) := ⟨_, rfl⟩
  rw [← hW2] at HT2 hbk2 hbk1 HB2 ⊢
  have hlt := HT1.out.lt
  have hbw := HBW.out
  have hsz := HB1.out.2.2.2.1
  have hbb := blk_lt BK.out
  obtain ⟨b2, hb2⟩ : ∃ b2, b2 = W1.heap.size := ⟨_, rfl⟩
  rw [← hb2] at hbk2 hlt hbb hsz ⊢
  have HB2G := Aside0.mk (show g < b2 ∧ w.heap.size ≤ b2 ∧ b ≠ b2 from ⟨hlt.2.2.2, hsz, by omega⟩)
  have BK1 := Aside0.mk hbk1
  have BK2 := Aside0.mk hbk2
  clear hW2 hb2 hlt hbb hsz hbw hbk1 hbk2 h1 h3 h4 hc0 hc1 hv BK HB1 HT1
  have hc0 : W2.cell? ⟨g, 0, none⟩ = some (.slice (some ⟨go, 0, none⟩) ls.length ls.length) := blk_cell HT2.out.tree 0
  obtain ⟨ad2, c2, h1, h2, _, _⟩ := HT2.out.head (lst lost 0) HLT.out HE.out
  obtain ⟨A2', c2', h1', h2', _, hC2⟩ := HT2.out.list (lst lost 0) HLT.out
  have hA2 : A2' = some ad2 ∧ c2' = c2 := by
    rw [h1] at h1'
    injection h1' with h1'
    injection h1' with a b c
    exact ⟨a.symm, c.symm⟩
  obtain ⟨rfl, rfl⟩ := hA2
  have hf : W2.frozen? ⟨go, lst lost 0, none⟩ = false := by
    obtain ⟨hs, hb, _⟩ := HT2.out.own
    exact blk_frozen hb _
  obtain ⟨i0, hi0, _, hs0, _⟩ := info_parts info37
  have hcut := cut_from (P := Try.prog) 25 37 .i64 Try.underlying25 hi0 2 hs0 (some ad2) (at2 ls (lst lost 0)).length c2' 1 (by omega) (by have := HE.out; omega)
  have hCd := Kd.C_drop (m := 1) (c := c2') hC2 (by have := HE.out; omega) h2'
  rw [show (k37.sz) = 2 from rfl] at hCd
  rw [show ((1 : Int)).toNat = 1 from rfl] at hcut
  generalize (if c2' = 1 then some ad2 else (some ad2).map (·.add (1 * 2))) = A3 at hcut hCd
  have hld : (at2 ls (lst lost 0)).length - 1 = ((at2 ls (lst lost 0)).drop 1).length := List.length_drop.symm
  rw [hld] at hcut
  have H2 := Aside0.mk h2'
  have HLD := Aside0.mk hld
  have HCD := Aside0.mk hCd
  clear hi0 hs0 h2' h2 h1' hC2 hCd hld
  go_region
  have ht3 := HT2.out.setOwn (lst lost 0) HLT.out A3 ((at2 ls (lst lost 0)).drop 1) (c2' - 1) (by have := H2.out; have := HLD.out; omega) HCD.out
  rw [← HLD.out] at ht3
  have hgo := HT2.out.lt
  have hg2 := HB2G.out
  have hg1 := HBG.out
  have hb31 := blk_drew (blk_far BK1.out (p := ⟨go, lst lost 0, none⟩) (by show b ≠ go; omega) (Value.slice A3 ((at2 ls (lst lost 0)).length - 1) (c2' - 1)))
  have hb32 := blk_drew (blk_far BK2.out (p := ⟨go, lst lost 0, none⟩) (by show b2 ≠ go; omega) (Value.slice A3 ((at2 ls (lst lost 0)).length - 1) (c2' - 1)))
  have ht3d : TreeIs w0 (W2.setCell ⟨go, lst lost 0, none⟩ (.slice A3 ((at2 ls (lst lost 0)).length - 1) (c2' - 1))).drew g go gl (ls.set (lst lost 0) ((at2 ls (lst lost 0)).drop 1)) lost := ht3.move rfl rfl rfl (below_drew1 ht3.low)
  have hb3 : ButTwo w (W2.setCell ⟨go, lst lost 0, none⟩ (.slice A3 ((at2 ls (lst lost 0)).length - 1) (c2' - 1))).drew go gl := HB2.out.set (.inl rfl) (lst lost 0) _
  generalize (W2.setCell ⟨go, lst lost 0, none⟩ (.slice A3 ((at2 ls (lst lost 0)).length - 1) (c2' - 1))).drew = W3 at ht3d hb31 hb32 hb3 ⊢
  have HT3 := Aside0.mk ht3d
  have HB3 := Aside0.mk hb3
  have BK31 := Aside0.mk hb31
  have BK32 := Aside0.mk hb32
  have hls : (ls.set (lst lost 0) ((at2 ls (lst lost 0)).drop 1)).length = ls.length := List.length_set
  have HLS := Aside0.mk hls
  clear ht3 hgo hg2 hg1 hb31 hb32 ht3d hb3 h1 hf hcut hc0 BK1 BK2 HT2 HB2 HLD HCD H2 HC hls
  go_wp2_with (go_at_call 25; refine (loser_tree_play.calls w0 W3 g go gl (ls.set (lst lost 0) ((at2 ls (lst lost 0)).drop 1)) lost (lst lost 0) HT3.out (by rw [HLS.out]; exact HLT.out) (by rw [HLS.out]; exact HLL.out) (by rw [HLS.out]; exact HLO.out) (by rw [HLS.out]; exact HN.out)).mono ?_; rintro e W4 ⟨rfl, ht4, hb4⟩; have HT4 := Aside0.mk ht4; have hx := HBG.out; have hx2 := HT3.out.lt; have hx3 := HB2G.out; have hx4 := blk_lt BK31.out; have hx5 := blk_lt BK32.out; have hk1 := (hb4.2.2.2.2 b (by omega) (by omega) hx4).trans BK31.out; have hk2 := (hb4.2.2.2.2 b2 (by omega) (by omega) hx5).trans BK32.out; have HB4 := Aside0.mk (HB3.out.trans hb4); have BK41 := Aside0.mk hk1; have BK42 := Aside0.mk hk2; have hf0 := blk_frozen hk1 0; have hf1 := blk_frozen hk1 1; have hq0 : W4.cell? ⟨b, 0, none⟩ = some (.string ⟨#[]⟩) := blk_cell hk1 0; have hq1 : W4.cell? ⟨b, 1, none⟩ = some (.int .u64 0) := blk_cell hk1 1; have hr0 : W4.cell? ⟨b2, 0, none⟩ = some (.string (hdE (at2 ls (lst lost 0))).f0) := blk_cell hk2 0; have hr1 : W4.cell? ⟨b2, 1, none⟩ = some (.int .u64 (hdE (at2 ls (lst lost 0))).f1) := blk_cell hk2 1; clear ht4 hb4 hx hx2 hx3 hx4 hx5 hk1 hk2)
  refine bodyPost_ret (results_ct rfl _ _ b 37 #[.string (hdE (at2 ls (lst lost 0))).f0, .int .u64 (hdE (at2 ls (lst lost 0))).f1] (0, 0) _ rfl (by refine blk_put (cs := #[.string (hdE (at2 ls (lst lost 0))).f0, .int .u64 0]) ?_ 1 _ rfl; refine blk_put (cs := #[.string (⟨#[]⟩ : ByteArray), .int .u64 0]) ?_ 0 _ rfl; exact BK41.out) Try.underlying37 rfl (by kernel_rfl)) rfl ?_
  have hT4 := HT4.out
  rw [HLS.out] at hT4
  exact ⟨rfl, (hT4.far HBG.out 0 _).far HBG.out 1 _, (HB4.out.setNew HBW.out 0 _).setNew HBW.out 1 _⟩

/-! ### num_Add: function 17 -/
def num_Add.f (a0 : Int) (a1 : Int) : Option (Int × Bool) := if a0 > 4611686018427387904 then (some (0, false)) else (if a1 > (IntKind.u64.wrap (4611686018427387904 - a0)) then (some (0, false)) else (some (IntKind.u64.wrap (a0 + a1), true)))
set_option maxHeartbeats 8000000 in
set_option maxRecDepth 100000 in
theorem num_Add.calls (a0 : Int) (a1 : Int) (r1 : Int) (r2 : Bool) (w : World) (h : num_Add.f a0 a1 = some (r1, r2)) :
    Calls Try.prog 17 #[.int .u64 a0, .int .u64 a1] w fun e w' => e = .returned (.tuple #[.int .u64 r1, .bool r2]) ∧ Drawn0 w w' := by
  have H : (if a0 > 4611686018427387904 then (some (0, false)) else (if a1 > (IntKind.u64.wrap (4611686018427387904 - a0)) then (some (0, false)) else (some (IntKind.u64.wrap (a0 + a1), true)))) = some (r1, r2) := h
  clear h
  by_cases c3 : a0 > 4611686018427387904
  · rw [if_pos c3] at H
    have c3b0 : decide (4611686018427387904 < a0) = true := decide_eq_true c3
    clear c3
    simp only [Option.some.injEq, Prod.mk.injEq] at H
    obtain ⟨rfl, rfl⟩ := H
    go_enter Try.func17, Try.ntmps17
    go_wp2
    go_ret2
    exact ⟨by first | rfl | (simp; done) | (simp [*]; done), by repeat (first | exact Drawn0.refl _ | apply Drawn0.step)⟩
  · rw [if_neg c3] at H
    have c3b0 : decide (4611686018427387904 < a0) = false := decide_eq_false c3
    clear c3
    by_cases c4 : a1 > (IntKind.u64.wrap (4611686018427387904 - a0))
    · rw [if_pos c4] at H
      have c4b0 : decide ((IntKind.u64.wrap (4611686018427387904 - a0)) < a1) = true := decide_eq_true c4
      clear c4
      simp only [Option.some.injEq, Prod.mk.injEq] at H
      obtain ⟨rfl, rfl⟩ := H
      go_enter Try.func17, Try.ntmps17
      go_wp2
      go_ret2
      exact ⟨by first | rfl | (simp; done) | (simp [*]; done), by repeat (first | exact Drawn0.refl _ | apply Drawn0.step)⟩
    · rw [if_neg c4] at H
      have c4b0 : decide ((IntKind.u64.wrap (4611686018427387904 - a0)) < a1) = false := decide_eq_false c4
      clear c4
      simp only [Option.some.injEq, Prod.mk.injEq] at H
      obtain ⟨rfl, rfl⟩ := H
      go_enter Try.func17, Try.ntmps17
      go_wp2
      go_ret2
      exact ⟨by first | rfl | (simp; done) | (simp [*]; done), by repeat (first | exact Drawn0.refl _ | apply Drawn0.step)⟩

/-! ### loser_Merge: function 10 -/
theorem lst_lt {n : Nat} {l : List Nat} (h : ∀ x ∈ l, x < n) (i : Nat) (hi : i < l.length) : lst l i < n := by
  unfold lst
  rw [List.getD_eq_getElem?_getD, List.getElem?_eq_getElem hi]
  exact h _ (List.getElem_mem hi)
theorem playG_lt (ls : List (List S37)) (n : Nat) : ∀ (d k i : Nat) (lost : List Nat), (∀ x ∈ lost, x < n) → i < n → k < lost.length → ∀ x ∈ playG ls d k i lost, x < n
  | 0, k, i, lost, h, hi, _ => set_lt h hi
  | d + 1, k, i, lost, h, hi, hk => by
    rw [playG]
    split
    · exact set_lt h hi
    · have hk2 := lst_lt h k hk
      split
      · exact playG_lt ls n d (k / 2) _ _ (set_lt h hi) hk2 (by rw [List.length_set]; omega)
      · exact playG_lt ls n d (k / 2) _ _ h hi (by omega)
def Fit (ls : List (List S37)) (lost : List Nat) : Prop := 0 < ls.length ∧ ls.length ≤ 1000 ∧ lost.length = ls.length ∧ ∀ x ∈ lost, x < ls.length
def nextG (ls : List (List S37)) (lost : List Nat) : List (List S37) × List Nat × S37 × Bool :=
  if (at2 ls (lst lost 0)).length = 0 then (ls, lost, z37, false)
  else (ls.set (lst lost 0) ((at2 ls (lst lost 0)).drop 1), playG (ls.set (lst lost 0) ((at2 ls (lst lost 0)).drop 1)) ((lst lost 0 + ls.length) / 2) ((lst lost 0 + ls.length) / 2) (lst lost 0) lost, hdE (at2 ls (lst lost 0)), true)
theorem Fit.next {ls : List (List S37)} {lost : List Nat} (h : Fit ls lost) : Fit (nextG ls lost).1 (nextG ls lost).2.1 := by
  unfold nextG
  split
  · exact h
  · obtain ⟨h1, h2, h3, h4⟩ := h
    have hi := lst_lt h4 0 (by omega)
    refine ⟨by rw [List.length_set]; exact h1, by rw [List.length_set]; exact h2, by rw [List.length_set, playG_len]; exact h3, ?_⟩
    intro x hx
    rw [List.length_set]
    exact playG_lt _ ls.length _ _ _ _ h4 hi (by omega) x hx
theorem growL_lt (ls : List (List S37)) (n : Nat) : ∀ (k : Nat) (win lost : List Nat), (∀ x ∈ win, x < n) → (∀ x ∈ lost, x < n) → 2 * k + 1 < win.length → (∀ x ∈ (growL ls k win lost).1, x < n) ∧ (∀ x ∈ (growL ls k win lost).2, x < n) ∧ (growL ls k win lost).1.length = win.length ∧ (growL ls k win lost).2.length = lost.length
  | 0, win, lost, h1, h2, _ => ⟨h1, h2, rfl, rfl⟩
  | k + 1, win, lost, h1, h2, hk => by
    have a := lst_lt h1 (2 * (k + 1)) (by omega)
    have b := lst_lt h1 (2 * (k + 1) + 1) (by omega)
    rw [growL]
    split
    · have := growL_lt ls n k (win.set (k + 1) (lst win (2 * (k + 1) + 1))) (lost.set (k + 1) (lst win (2 * (k + 1)))) (set_lt h1 b) (set_lt h2 a) (by rw [List.length_set]; omega)
      rw [List.length_set, List.length_set] at this
      exact this
    · have := growL_lt ls n k (win.set (k + 1) (lst win (2 * (k + 1)))) (lost.set (k + 1) (lst win (2 * (k + 1) + 1))) (set_lt h1 a) (set_lt h2 b) (by rw [List.length_set]; omega)
      rw [List.length_set, List.length_set] at this
      exact this
theorem growG_fit {ls : List (List S37)} (h1 : 0 < ls.length) (h2 : ls.length ≤ 1000) : Fit ls (growG ls) := by
  have := growL_lt ls ls.length (ls.length - 1) (winI ls.length ls.length) (List.replicate ls.length 0) (winI_lt _ h1) (fun x hx => by rw [(List.mem_replicate.1 hx).2]; exact h1) (by rw [winI_len _ _ (Nat.le_refl _)]; omega)
  rw [winI_len _ _ (Nat.le_refl _), List.length_replicate] at this
  obtain ⟨a, b, c, d⟩ := this
  refine ⟨h1, h2, ?_, ?_⟩
  · unfold growG
    rw [List.length_set]; exact d
  · unfold growG
    exact set_lt b (lst_lt a 1 (by rw [c]; omega))
theorem loser_tree_next.calls (w0 w : World) (g go gl : Nat) (ls : List (List S37)) (lost : List Nat) (hT : TreeIs w0 w g go gl ls lost) (hf : Fit ls lost) :
    Calls Try.prog 16 #[.pointer (some ⟨g, 0, none⟩)] w fun e w' => e = .returned (.tuple #[.agg #[.string (nextG ls lost).2.2.1.f0, .int .u64 (nextG ls lost).2.2.1.f1], .bool (nextG ls lost).2.2.2]) ∧ TreeIs w0 w' g go gl (nextG ls lost).1 (nextG ls lost).2.1 ∧ ButTwo w w' go gl := by
  obtain ⟨h1, h2, h3, h4⟩ := hf
  have hi := lst_lt h4 0 (by omega)
  unfold nextG
  by_cases h : (at2 ls (lst lost 0)).length = 0
  · rw [if_pos h]
    exact loser_tree_next.end w0 w g go gl ls lost hT (by omega) hi h
  · rw [if_neg h]
    exact loser_tree_next.more w0 w g go gl ls lost hT (by omega) hi h h3 h4 h2
theorem ButTwo.low {w w1 w2 : World} {g1 g2 : Nat} (h : ButTwo w1 w2 g1 g2) {B : Nat} (hb : Below B w w1) {w0 : World} {g : Nat} (hl : w0.heap.size ≤ g1 ∧ g1 < g2 ∧ g2 < g ∧ g < w1.heap.size) (hB : B ≤ w0.heap.size := by first | assumption | omega) : Below B w w2 :=
  ⟨h.1.trans hb.os, h.2.1.trans hb.tape, h.2.2.1.trans hb.output, Nat.le_trans hb.size h.2.2.2.1, fun k hk => (h.2.2.2.2 k (by omega) (by omega) (by omega)).trans (hb.block k hk)⟩
def lastE (l : List S37) : S37 := l.getD (l.length - 1) z37
def mays (k : Nat) : List (List S37) → Option Int
  | [] => some 0
  | l :: r => (run_May.f k l).bind fun e => if e = 0 then mays k r else some e
def mergeL : Nat → List (List S37) → List Nat → S37 → Bool → List S37 → Option (List S37 × Int)
  | 0, _, _, _, b, out => if b = true then none else some (out, 0)
  | d + 1, ls, lost, x, b, out =>
    if b = true then
      if 0 < out.length ∧ (lastE out).f0.toList = x.f0.toList then
        (num_Add.f (lastE out).f1 x.f1).bind fun s => if s.2 = true then mergeL d (nextG ls lost).1 (nextG ls lost).2.1 (nextG ls lost).2.2.1 (nextG ls lost).2.2.2 (out.set (out.length - 1) ⟨(lastE out).f0, s.1⟩) else some ([], 5)
      else if out.length < 5864062014805 then mergeL d (nextG ls lost).1 (nextG ls lost).2.1 (nextG ls lost).2.2.1 (nextG ls lost).2.2.2 (out ++ [x]) else none
    else some (out, 0)
def loser_Merge.f (k : Nat) (l0 : List (List S37)) : Option (List S37 × Int) :=
  if l0.length > 256 then some ([], 6) else (mays k l0).bind fun e => if e = 0 then (if l0.length = 0 then some ([], 0) else mergeL k (nextG l0 (growG l0)).1 (nextG l0 (growG l0)).2.1 (nextG l0 (growG l0)).2.2.1 (nextG l0 (growG l0)).2.2.2 []) else some ([], e)
theorem mays.mono (k : Nat) : ∀ l, LeO (mays k l) (mays (k + 1) l)
  | [] => LeO.refl _
  | l :: r => by
    rw [mays, mays]
    exact LeO.bind (run_May.mono _ _) (fun _ => LeO.ite (mays.mono k r) (LeO.refl _))
theorem mergeL.mono : ∀ (d : Nat) (ls : List (List S37)) (lost : List Nat) (x : S37) (b : Bool) (out : List S37), LeO (mergeL d ls lost x b out) (mergeL (d + 1) ls lost x b out)
  | 0, ls, lost, x, b, out => by
    rw [mergeL, mergeL]
    cases b with
    | true => rw [if_pos rfl]; exact LeO.none _
    | false => exact LeO.refl _
  | d + 1, ls, lost, x, b, out => by
    rw [mergeL, mergeL]
    exact LeO.ite (LeO.ite (LeO.bind (LeO.refl _) (fun _ => LeO.ite (mergeL.mono d _ _ _ _ _) (LeO.refl _))) (LeO.ite (mergeL.mono d _ _ _ _ _) (LeO.none _))) (LeO.refl _)
theorem loser_Merge.mono : ∀ a0 k, LeO (loser_Merge.f k a0) (loser_Merge.f (k + 1) a0) := by
  intro a0 k
  unfold loser_Merge.f
  exact LeO.ite (LeO.refl _) (LeO.bind (mays.mono k a0) (fun _ => LeO.ite (LeO.ite (LeO.refl _) (mergeL.mono k _ _ _ _ _)) (LeO.refl _)))
theorem merge_after {W0 w1 : World} {g go gl : Nat} {ls : List (List S37)} {lost : List Nat} (x : S37) (hT : TreeIs W0 w1 g go gl ls lost) :
    TreeIs W0 (w1.alloc (.cells #[.string x.f0, .int .u64 x.f1] 37)) g go gl ls lost ∧ (w1.alloc (.cells #[.string x.f0, .int .u64 x.f1] 37)).heap[w1.heap.size]? = some (.cells #[.string x.f0, .int .u64 x.f1] 37 (0, 0)) ∧ g < w1.heap.size ∧ w1.heap.size ≠ go ∧ w1.heap.size ≠ gl := by
  have := hT.lt
  exact ⟨hT.alloc _, blk_new _ _, by omega, by omega, by omega⟩
theorem merge_blk {W0 w1 W6 : World} {g go gl : Nat} {ls : List (List S37)} {lost : List Nat} (x : S37) (hT : TreeIs W0 w1 g go gl ls lost) (hB6 : ButTwo (w1.alloc (.cells #[.string x.f0, .int .u64 x.f1] 37)) W6 go gl) :
    W6.heap[w1.heap.size]? = some (.cells #[.string x.f0, .int .u64 x.f1] 37 (0, 0)) := by
  obtain ⟨h1, h2, h3, h4, h5⟩ := merge_after x hT
  exact (hB6.2.2.2.2 _ h4 h5 (blk_lt h2)).trans h2
theorem merge_post {w W0 w1 W6 : World} {g go gl bx : Nat} {ls ls2 : List (List S37)} {lost lost2 : List Nat} (x x2 : S37) {v : Value} {out : List S37} (hT : TreeIs W0 w1 g go gl ls lost) (hR : Kd.R k37 37 w1 W0.heap.size (fun k => k ≠ bx) v out)
    (hT6 : TreeIs W0 W6 g go gl ls2 lost2) (hB6 : ButTwo (w1.alloc (.cells #[.string x.f0, .int .u64 x.f1] 37)) W6 go gl) (hB : Below w.heap.size w w1) (hW : w.heap.size ≤ W0.heap.size) (W7 : World)
    (h7 : W7 = (W6.setCell ⟨w1.heap.size, 0, none⟩ (.string x2.f0)).setCell ⟨w1.heap.size, 1, none⟩ (.int .u64 x2.f1)) :
    W7.heap[w1.heap.size]? = some (.cells #[.string x2.f0, .int .u64 x2.f1] 37 (0, 0)) ∧ (g < w1.heap.size ∧ w.heap.size ≤ w1.heap.size) ∧ Kd.R k37 37 W7 W0.heap.size (fun k => k ≠ w1.heap.size) v out ∧ TreeIs W0 W7 g go gl ls2 lost2 ∧ Below w.heap.size w W7 := by
  obtain ⟨h1, h2, h3, h4, h5⟩ := merge_after x hT
  have hb6 := merge_blk x hT hB6
  have hlt := hT.lt
  have hR1 : Kd.R k37 37 w1 W0.heap.size (fun k => k ≠ w1.heap.size) v out := Kd.R_mono (Kd.R_bound hR) (fun k hk => by have := hk.2.2.1; omega)
  have hR2 := Kd.R_below hR1 (below_alloc (Below.refl _ _) (.cells #[.string x.f0, .int .u64 x.f1] 37))
  obtain ⟨hs, hgo, _⟩ := h1.own
  have hR3 := Kd.R_types (Kd.R_types hR2 hgo (by decide)) h1.lost (by decide)
  have hR4 : Kd.R k37 37 W6 W0.heap.size (fun k => k ≠ w1.heap.size) v out := Kd.R_mono (Kd.R_step hR3 (fun k hk hlt => hB6.2.2.2.2 k hk.1.2 hk.2 hlt)) (fun k hk => hk.1.1)
  have hb2 : Below w.heap.size w W6 := hB6.low (below_alloc hB _) (w0 := W0) (g := g) ⟨hlt.1, hlt.2.1, hlt.2.2.1, by rw [World.size_alloc]; omega⟩ hW
  subst h7
  refine ⟨?_, ⟨h3, hB.size⟩, Kd.R_far (p := ⟨w1.heap.size, 1, none⟩) (Kd.R_far (p := ⟨w1.heap.size, 0, none⟩) hR4 (fun k hk => hk) _) (fun k hk => hk) _, (hT6.far h3 0 _).far h3 1 _, (hb2.setCell hB.size _).setCell hB.size _⟩
  refine blk_put (cs := #[.string x2.f0, .int .u64 x.f1]) ?_ 1 _ rfl
  exact blk_put (cs := #[.string x.f0, .int .u64 x.f1]) hb6 0 _ rfl
/-- Behind an append to what is told out: the tree lies as it lay, and so does the entry. -/
theorem grown_tree {W0 W w1 : World} {g go gl bx : Nat} {ls : List (List S37)} {lost : List Nat} {v : Value} {out : List S37} (hT : TreeIs W0 W g go gl ls lost) (hR : Kd.R k37 37 W W0.heap.size (fun k => k ≠ bx) v out) (hg : W.grownBy w1 v.ownBlock) (hb : Below W0.heap.size W0 w1) {o : Obj} (hx : W.heap[bx]? = some o) :
    TreeIs W0 w1 g go gl ls lost ∧ w1.heap[bx]? = some o := by
  obtain ⟨hs, hgo, _⟩ := hT.own
  have hty : ∀ k cs t, W.heap[k]? = some (.cells cs t (0, 0)) → t ≠ 37 → some k ≠ v.ownBlock := by
    intro k cs t hk ht he
    obtain ⟨inner, ho⟩ := Kd.R_own hR
    obtain ⟨cells, hc⟩ := own_typed ho k he.symm
    rw [hk] at hc
    injection hc with hc
    injection hc with _ hc
    exact ht hc
  refine ⟨hT.move (hg.block g (blk_lt hT.tree) (hty g _ _ hT.tree (by decide))) (hg.block go (blk_lt hgo) (hty go _ _ hgo (by decide))) (hg.block gl (blk_lt hT.lost) (hty gl _ _ hT.lost (by decide))) hb, ?_⟩
  refine (hg.block bx (blk_lt hx) (fun he => ?_)).trans hx
  exact hR.1 bx he.symm rfl
theorem merge_put {W0 W : World} {g go gl bx g8 c : Nat} {ls : List (List S37)} {lost : List Nat} {out : List S37} (hT : TreeIs W0 W g go gl ls lost) (hR : Kd.R k37 37 W W0.heap.size (fun k => k ≠ bx) (.slice (some ⟨g8, 0, none⟩) out.length c) out) {o : Obj} (hx : W.heap[bx]? = some o) (m : Nat) (hm : out.length = m + 1) (s : Int) :
    Kd.R k37 37 (W.setCell ⟨g8, m * 2 + 1, none⟩ (.int .u64 s)) W0.heap.size (fun k => k ≠ bx) (.slice (some ⟨g8, 0, none⟩) out.length c) (out.set (out.length - 1) ⟨(lastE out).f0, s⟩) ∧ TreeIs W0 (W.setCell ⟨g8, m * 2 + 1, none⟩ (.int .u64 s)) g go gl ls lost ∧ (W.setCell ⟨g8, m * 2 + 1, none⟩ (.int .u64 s)).heap[bx]? = some o ∧ Below W0.heap.size W0 (W.setCell ⟨g8, m * 2 + 1, none⟩ (.int .u64 s)) := by
  obtain ⟨ce, hce, hM8, hcell8, hfz8⟩ := Kd.R_elem hR z37 (m : Int) (by omega) (by omega)
  have hel : out.getD (m : Int).toNat z37 = lastE out := by unfold lastE; rw [hm]; rfl
  rw [hel] at hM8
  obtain rfl := k37_openM hM8
  obtain ⟨h1, h2⟩ := Kd.R_seg hR (m : Int) (by omega) (by omega) (seg := [.int .u64 s]) (j := 1) hce hcell8 (show 2 ≤ 2 by decide) (x' := (⟨(lastE out).f0, s⟩ : S37)) (k37_mkM _ _ _ (⟨(lastE out).f0, s⟩ : S37)) (fun _ hk => hk)
  have hb : Below W0.heap.size W0 (W.setCell ⟨g8, m * 2 + 1, none⟩ (.int .u64 s)) := hT.low.setCell (Kd.R_base hR g8 (by simp [Value.ownBlock])) _
  have h2' : W.grownBy (W.setCell ⟨g8, m * 2 + 1, none⟩ (.int .u64 s)) (Value.slice (some ⟨g8, 0, none⟩) out.length c).ownBlock := by
    rw [show (Value.slice (some ⟨g8, 0, none⟩) out.length c).ownBlock = some g8 by simp [Value.ownBlock]]
    exact h2
  obtain ⟨h3, h4⟩ := grown_tree hT hR h2' hb hx
  rw [show out.length - 1 = m by omega]
  exact ⟨h1, h3, h4, hb⟩
set_option maxHeartbeats 8000000 in
set_option maxRecDepth 100000 in
theorem loser_Merge.calls (k : Nat) (A0 : Option Addr) (c0 : Nat) (l0 : List (List (S37))) (r1 : List (S37)) (r2 : Int) (w : World) (hr0 : Kd.C (Kd.slice 37 k37) w A0 l0.length l0) (hc0 : l0.length ≤ c0) (h : loser_Merge.f k l0 = some (r1, r2)) :
    Calls Try.prog 10 #[.slice A0 l0.length c0] w fun e w' => ∃ v0_ : Value, e = .returned (.tuple #[v0_, .int .i64 r2]) ∧ Kd.R k37 37 w' w.heap.size (fun _ => True) v0_ r1 ∧ Below w.heap.size w w' := by
  have HR0 := Aside0.mk hr0
  have HC0 := Aside0.mk hc0
  clear hr0 hc0
  unfold loser_Merge.f at h
  by_cases c1 : l0.length > 256
  · rw [if_pos c1] at h
    simp only [Option.some.injEq, Prod.mk.injEq] at h
    obtain ⟨rfl, rfl⟩ := h
    have c1b : decide ((256 : Int) < (l0.length : Int)) = true := decide_eq_true (by omega)
    clear c1
    go_enter Try.func10, Try.ntmps10
    go_wp2
    go_ret2
    exact ⟨_, rfl, Kd.R_nil _ _ _ _ _, Below.refl _ _⟩
  · rw [if_neg c1] at h
    replace h := Option.bind_eq_some_iff.mp h
    obtain ⟨e, hm, h⟩ := h
    have c1b : decide ((256 : Int) < (l0.length : Int)) = false := decide_eq_false (by omega)
    have HM := Aside0.mk hm
    have H := Aside0.mk h
    have HN := Aside0.mk (show l0.length ≤ 256 by omega)
    clear c1 hm h
    go_enter Try.func10, Try.ntmps10
    go_wp2
    go_loopg [19] l0.length (fun kq v19 w' => ∃ i : Nat, v19 = .int .i64 i ∧ Aside0 (i + kq = l0.length) ∧ Aside0 (mays k (l0.drop i) = some e) ∧ Aside0 (Below w.heap.size w w'))
    case atStart => exact ⟨0, rfl, ⟨by omega⟩, HM, ⟨Below.refl _ _⟩⟩
    case round =>
      obtain ⟨i, rfl, HI, HM', HB⟩ := hrel
      cases gk with
      | zero =>
        have hi : i = l0.length := by have := HI.out; omega
        subst hi
        have he : e = 0 := by
          have := HM'.out
          rw [List.drop_length, mays] at this
          exact (Option.some.inj this).symm
        subst he
        have h := H.out
        rw [if_pos rfl] at h
        by_cases c3 : l0.length = 0
        · rw [if_pos c3] at h
          simp only [Option.some.injEq, Prod.mk.injEq] at h
          obtain ⟨rfl, rfl⟩ := h
          have c3b : ((l0.length : Int) == 0) = true := beq_iff_eq.mpr (by omega)
          clear c3
          go_wp2
          go_ret2
          exact ⟨_, rfl, Kd.R_nil _ _ _ _ _, HB.out⟩
        · rw [if_neg c3] at h
          have c3b : ((l0.length : Int) == 0) = false := beq_eq_false_iff_ne.mpr (by omega)
          obtain ⟨ad, hA0, _⟩ := HR0.out.2.2 (by omega)
          subst hA0
          have HH := Aside0.mk h
          have HC3 := Aside0.mk (show 1 ≤ l0.length by omega)
          clear c3 h HM HM'
          go_upto_region 13 with (go_at_call 15; refine (loser_grown.calls ad c0 l0 wr (Kd.C_below HR0.out HB.out) HC3.out (by have := HN.out; omega)).mono ?_; rintro e_ W1 ⟨g, go, gl, rfl, hT⟩; have HT := Aside0.mk hT; have HB1 := Aside0.mk (below_step HB.out hT.low); clear hT)
          have HF := Aside0.mk (growG_fit (ls := l0) HC3.out (by have := HN.out; omega))
          go_wp2_with (go_at_call 16; refine (loser_tree_next.calls wr W1 g go gl l0 (growG l0) HT.out HF.out).mono ?_; rintro e_ W2 ⟨rfl, hT2, hB2⟩; have HT2 := Aside0.mk hT2; have HBT2 := Aside0.mk hB2; clear hT2 hB2)
          have hfit := HF.out.next
          have hW0s : w.heap.size ≤ wr.heap.size := HB.out.size
          have hW0b : Below w.heap.size w wr := HB.out
          have hM := HH.out
          have hT2 := HT2.out
          generalize nextG l0 (growG l0) = N at hfit hM hT2 ⊢
          obtain ⟨ls, lost, x, b⟩ := N
          have hb2 := ButTwo.low HBT2.out HB1.out HT.out.lt HB.out.size
          have hlt2 := hT2.lt
          have htA := hT2.alloc (.cells #[.string x.f0, .int .u64 x.f1] 37)
          have hnew := blk_new W2 (.cells #[.string x.f0, .int .u64 x.f1] 37)
          have hbA := below_alloc hb2 (.cells #[.string x.f0, .int .u64 x.f1] 37)
          have HS := Aside0.mk (show g < W2.heap.size ∧ w.heap.size ≤ W2.heap.size from ⟨hlt2.2.2.2, hb2.size⟩)
          have HTA := Aside0.mk htA
          have HNEW := Aside0.mk hnew
          have HBA := Aside0.mk hbA
          have HFIT := Aside0.mk hfit
          have HML := Aside0.mk hM
          clear hfit hM hT2 hb2 hlt2 htA hnew hbA HT2 HBT2 HF HT HB1 HB H HH
          obtain ⟨W0, hW0⟩ : ∃ W, W = wr := ⟨_, rfl⟩
          have HW0S := Aside0.mk hW0s
          have HW0B := Aside0.mk hW0b
          rw [← hW0] at HTA HW0S HW0B
          clear hW0s hW0b hW0
          go_loopg [8, 9, 10] k (fun kq v8 v9 v10 w' => ∃ (out : List S37) (bx : Nat) (x : S37) (b : Bool) (ls : List (List S37)) (lost : List Nat), v9 = .pointer (some ⟨bx, 0, none⟩) ∧ v10 = .bool b ∧ Aside0 (w'.heap[bx]? = some (.cells #[.string x.f0, .int .u64 x.f1] 37 (0, 0))) ∧ Aside0 (g < bx ∧ w.heap.size ≤ bx) ∧ Aside0 (Kd.R k37 37 w' W0.heap.size (fun k => k ≠ bx) v8 out) ∧ Aside0 (TreeIs W0 w' g go gl ls lost) ∧ Aside0 (Fit ls lost) ∧ Aside0 (mergeL kq ls lost x b out = some (r1, r2)) ∧ Aside0 (Below w.heap.size w w'))
          case atStart => exact ⟨[], W2.heap.size, x, b, ls, lost, rfl, rfl, HNEW, HS, ⟨Kd.R_nil _ _ _ _ _⟩, HTA, HFIT, HML, HBA⟩
          case round =>
            obtain ⟨out, bx, x, b, ls, lost, rfl, rfl, HX, HG, HR, HT, HF, HM, HB⟩ := hrel
            cases b with
            | false =>
              have hm : mergeL gk ls lost x false out = some (out, 0) := by cases gk <;> rfl
              rw [HM.out] at hm
              simp only [Option.some.injEq, Prod.mk.injEq] at hm
              obtain ⟨rfl, rfl⟩ := hm
              go_wp2
              go_ret2
              exact ⟨_, rfl, Kd.R_mono (Kd.R_lower HR.out HW0S.out) (fun _ _ => trivial), HB.out⟩
            | true =>
              cases gk with
              | zero => exact absurd HM.out (by simp [mergeL])
              | succ d =>
                obtain ⟨A, c, rfl⟩ := Kd.R_slice HR.out
                obtain ⟨j, hj⟩ : ∃ j : Int, j = (out.length : Int) - 1 := ⟨_, rfl⟩
                have hlim : out.length ≤ 9223372036854775807 := (Kd.R_reads' HR.out).2.2.2.1
                have hwj : wrap64 ((out.length : Int) - 1) = j := by unfold wrap64; omega
                have HJ := Aside0.mk hj
                clear hlim
                by_cases c4 : out.length = 0
                · have hnil : out = [] := List.eq_nil_of_length_eq_zero c4
                  subst hnil
                  clear c4 hj hwj
                  have HLIM : Aside0 (([] : List S37).length < 5864062014805) := ⟨by simp⟩
                  go_wp2
                  go_region
                  have hrd : Kd.R k37 37 wr.drew W0.heap.size (fun k => k ≠ bx) (.slice A ([] : List S37).length c) [] := Kd.R_step HR.out (fun _ _ _ => rfl)
                  have htd : TreeIs W0 wr.drew g go gl ls lost := HT.out.move rfl rfl rfl (below_drew1 HT.out.low)
                  have hxd : wr.drew.heap[bx]? = some (.cells #[.string x.f0, .int .u64 x.f1] 37 (0, 0)) := HX.out
                  have hbd : Below w.heap.size w wr.drew := below_drew1 HB.out
                  generalize wr.drew = W5 at hrd htd hxd hbd ⊢
                  have HRD := Aside0.mk hrd
                  have HTD := Aside0.mk htd
                  have HXD := Aside0.mk hxd
                  have HBD := Aside0.mk hbd
                  have hx0 : W5.cell? ⟨bx, 0, none⟩ = some (.string x.f0) := blk_cell hxd 0
                  have hx1 : W5.cell? ⟨bx, 1, none⟩ = some (.int .u64 x.f1) := blk_cell hxd 1
                  clear hrd htd hxd hbd HR HT HX HB
                  go_wp2_with ((with_reducible refine gate_builtin (b := .append) (xs := #[.tmp 78, .tmp 80]) rfl ?_); at_builtin; refine Kd.R_append k37 (w0 := W0) W0.heap.size rfl (.tmp 78) (.tmp 80) 25 37 (.agg #[.string ⟨#[]⟩, .int .u64 0]) 24 rfl Try.underlying25 info37 rfl (by decide) (by omega) (.slice A ([] : List S37).length c) ([] : List S37) x [.string x.f0, .int .u64 x.f1] (fun k => k ≠ bx) (fun _ => False) rfl rfl ?aP (fun _ hk => hk.elim) ?aF ?aO ?aB ?aS ?aL ?_)
                  case aP => exact k37_mkM _ _ _ x
                  case aF => intro k hk e; have := blk_lt HXD.out; omega
                  case aO => exact HRD.out
                  case aB => exact HTD.out.low
                  case aS => exact HTD.out.low.size
                  case aL => have := HLIM.out; omega
                  intro v1 w1 ho hb hg hat
                  obtain ⟨ht1, hxw⟩ := grown_tree HTD.out HRD.out hg hb HXD.out
                  clear hg hat HRD HTD HXD hx0 hx1
                  have hbw := below_then HW0B.out HW0S.out hb
                  obtain ⟨A1, c1, rfl⟩ := Kd.R_slice ho
                  have HT1 := Aside0.mk ht1
                  have HR1 := Aside0.mk ho
                  have HBW := Aside0.mk hbw
                  have hx0 : w1.cell? ⟨bx, 0, none⟩ = some (.string x.f0) := blk_cell hxw 0
                  have hx1 : w1.cell? ⟨bx, 1, none⟩ = some (.int .u64 x.f1) := blk_cell hxw 1
                  clear hb hbw ht1 ho hxw
                  have HTa := Aside0.mk (merge_after x HT1.out).1
                  go_wp2_with (go_at_call 16; refine (loser_tree_next.calls W0 _ g go gl ls lost HTa.out HF.out).mono ?_; rintro e_ W6 ⟨rfl, hT6, hB6⟩; have HT6 := Aside0.mk hT6; have HB6 := Aside0.mk hB6; have hk6 := merge_blk x HT1.out hB6; have hz0 : W6.cell? ⟨w1.heap.size, 0, none⟩ = some (.string x.f0) := blk_cell hk6 0; have hz1 : W6.cell? ⟨w1.heap.size, 1, none⟩ = some (.int .u64 x.f1) := blk_cell hk6 1; have hq0 := blk_frozen hk6 0; have hq1 := blk_frozen hk6 1; clear hT6 hB6 hk6)
                  go_roundg d
                  case measure => omega
                  case rel =>
                    obtain ⟨p1, p2, p3, p4, p5⟩ := merge_post x (nextG ls lost).2.2.1 HT1.out HR1.out HT6.out HB6.out HBW.out HW0S.out _ rfl
                    refine ⟨(([] : List S37) ++ [x]), _, (nextG ls lost).2.2.1, (nextG ls lost).2.2.2, (nextG ls lost).1, (nextG ls lost).2.1, rfl, rfl, ⟨p1⟩, ⟨p2⟩, ⟨p3⟩, ⟨p4⟩, ⟨HF.out.next⟩, ⟨?_⟩, ⟨p5⟩⟩
                    have hm := HM.out
                    rw [mergeL, if_pos rfl, if_neg (by simp), if_pos (by simp)] at hm
                    exact hm
                · obtain ⟨m, hm⟩ : ∃ m, out.length = m + 1 := ⟨out.length - 1, by omega⟩
                  obtain ⟨g8, cap, hv8, hb8, hlt8, cells8, hc8⟩ := Kd.R_form HR.out (by omega)
                  injection hv8 with hA8 _ hcap
                  subst hA8 hcap
                  obtain ⟨ce, hce, hM8, hcell8, hfz8⟩ := Kd.R_elem HR.out z37 (m : Int) (by omega) (by omega)
                  have hel : out.getD (m : Int).toNat z37 = lastE out := by unfold lastE; rw [hm]; rfl
                  rw [hel] at hM8
                  obtain rfl := k37_openM hM8
                  have hs0 : wr.cell? ⟨g8, m * 2, none⟩ = some (.string (lastE out).f0) := hcell8 0 _ rfl
                  have hs1 : wr.cell? ⟨g8, m * 2 + 1, none⟩ = some (.int .u64 (lastE out).f1) := hcell8 1 _ rfl
                  have hf1 : wr.frozen? ⟨g8, m * 2 + 1, none⟩ = false := hfz8 1
                  have hwm : wrap64 ((out.length : Int) - 1) = (m : Int) := by rw [hwj, hj, hm]; omega
                  have i1 : (m < out.length) = True := eq_true (by omega)
                  have hx0 : wr.cell? ⟨bx, 0, none⟩ = some (.string x.f0) := blk_cell HX.out 0
                  have hx1 : wr.cell? ⟨bx, 1, none⟩ = some (.int .u64 x.f1) := blk_cell HX.out 1
                  have HMM := Aside0.mk hm
                  have HG8 := Aside0.mk hb8
                  clear hcell8 hfz8 hM8 hel hce hc8 hlt8 hb8 hj hwj hm c4
                  by_cases c5 : (lastE out).f0.toList = x.f0.toList
                  · have c5b : ((lastE out).f0.toList == x.f0.toList) = true := beq_iff_eq.mpr c5
                    have hm := HM.out
                    rw [mergeL, if_pos rfl, if_pos ⟨by have := HMM.out; omega, c5⟩] at hm
                    replace hm := Option.bind_eq_some_iff.mp hm
                    obtain ⟨⟨s1, s2⟩, hadd, hm⟩ := hm
                    dsimp only at hm
                    have HADD := Aside0.mk hadd
                    have HM2 := Aside0.mk hm
                    clear c5 hadd hm HM
                    cases s2 with
                    | false =>
                      have hm := HM2.out
                      rw [if_neg (by simp)] at hm
                      simp only [Option.some.injEq, Prod.mk.injEq] at hm
                      obtain ⟨rfl, rfl⟩ := hm
                      go_wp2
                      go_region
                      go_wp2
                      go_region_with (first | (go_at_call 17; refine (num_Add.calls _ _ s1 false _ HADD.out).mono ?_; rintro e_ w_ ⟨rfl, ⟨m_, rfl⟩⟩))
                      all_goals (go_wp2; go_ret2; exact ⟨_, rfl, Kd.R_nil _ _ _ _ _, pw_below_drewN HB.out _⟩)
                    | true =>
                      have hm := HM2.out
                      rw [if_pos rfl] at hm
                      have HM := Aside0.mk hm
                      clear hm HM2
                      go_wp2
                      go_region
                      go_wp2
                      go_region_with (first | (go_at_call 17; refine (num_Add.calls _ _ s1 true _ HADD.out).mono ?_; rintro e_ w_ ⟨rfl, ⟨m_, rfl⟩⟩))
                      · generalize 1 + (1 + m_) = nn
                        have hs1' : (wr.drewN nn).cell? ⟨g8, m * 2 + 1, none⟩ = some (.int .u64 (lastE out).f1) := hs1
                        have hf1' : (wr.drewN nn).frozen? ⟨g8, m * 2 + 1, none⟩ = false := hf1
                        have hrd : Kd.R k37 37 (wr.drewN nn) W0.heap.size (fun k => k ≠ bx) (.slice (some ⟨g8, 0, none⟩) out.length c) out := Kd.R_step HR.out (fun _ _ _ => rfl)
                        have htd := HT.out.drewN nn
                        have hxd : (wr.drewN nn).heap[bx]? = some (.cells #[.string x.f0, .int .u64 x.f1] 37 (0, 0)) := HX.out
                        clear hs0 hs1 hf1 hx0 hx1 HX HR HT HB
                        generalize wr.drewN nn = W5 at hs1' hf1' hrd htd hxd ⊢
                        have HRD := Aside0.mk hrd
                        have HTD := Aside0.mk htd
                        have HXD := Aside0.mk hxd
                        clear hrd htd hxd
                        go_upto_region 24 with (fail)
                        obtain ⟨ho, ht1, hxw, hb⟩ := merge_put HTD.out HRD.out HXD.out m HMM.out s1
                        generalize W5.setCell ⟨g8, m * 2 + 1, none⟩ (.int .u64 s1) = w1 at ho ht1 hxw hb ⊢
                        clear hs1' hf1' HRD HTD HXD
                        have hbw := below_then HW0B.out HW0S.out hb
                        have HT1 := Aside0.mk ht1
                        have HR1 := Aside0.mk ho
                        have HBW := Aside0.mk hbw
                        have hx0 : w1.cell? ⟨bx, 0, none⟩ = some (.string x.f0) := blk_cell hxw 0
                        have hx1 : w1.cell? ⟨bx, 1, none⟩ = some (.int .u64 x.f1) := blk_cell hxw 1
                        clear hb hbw ht1 ho hxw
                        have HTa := Aside0.mk (merge_after x HT1.out).1
                        go_wp2_with (go_at_call 16; refine (loser_tree_next.calls W0 _ g go gl ls lost HTa.out HF.out).mono ?_; rintro e_ W6 ⟨rfl, hT6, hB6⟩; have HT6 := Aside0.mk hT6; have HB6 := Aside0.mk hB6; have hk6 := merge_blk x HT1.out hB6; have hz0 : W6.cell? ⟨w1.heap.size, 0, none⟩ = some (.string x.f0) := blk_cell hk6 0; have hz1 : W6.cell? ⟨w1.heap.size, 1, none⟩ = some (.int .u64 x.f1) := blk_cell hk6 1; have hq0 := blk_frozen hk6 0; have hq1 := blk_frozen hk6 1; clear hT6 hB6 hk6)
                        go_roundg d
                        case measure => omega
                        case rel =>
                          obtain ⟨p1, p2, p3, p4, p5⟩ := merge_post x (nextG ls lost).2.2.1 HT1.out HR1.out HT6.out HB6.out HBW.out HW0S.out _ rfl
                          refine ⟨(out.set (out.length - 1) ⟨(lastE out).f0, s1⟩), _, (nextG ls lost).2.2.1, (nextG ls lost).2.2.2, (nextG ls lost).1, (nextG ls lost).2.1, rfl, rfl, ⟨p1⟩, ⟨p2⟩, ⟨by first | exact p3 | (rw [List.length_append, List.length_singleton] at p3; exact p3)⟩, ⟨p4⟩, ⟨HF.out.next⟩, ⟨?_⟩, ⟨p5⟩⟩
                          have hm := HM.out
                          exact hm
                      · generalize 1 + (1 + m_) = nn
                        have hs1' : (wr.drewN nn).cell? ⟨g8, m * 2 + 1, none⟩ = some (.int .u64 (lastE out).f1) := hs1
                        have hf1' : (wr.drewN nn).frozen? ⟨g8, m * 2 + 1, none⟩ = false := hf1
                        have hrd : Kd.R k37 37 (wr.drewN nn) W0.heap.size (fun k => k ≠ bx) (.slice (some ⟨g8, 0, none⟩) out.length c) out := Kd.R_step HR.out (fun _ _ _ => rfl)
                        have htd := HT.out.drewN nn
                        have hxd : (wr.drewN nn).heap[bx]? = some (.cells #[.string x.f0, .int .u64 x.f1] 37 (0, 0)) := HX.out
                        clear hs0 hs1 hf1 hx0 hx1 HX HR HT HB
                        generalize wr.drewN nn = W5 at hs1' hf1' hrd htd hxd ⊢
                        have HRD := Aside0.mk hrd
                        have HTD := Aside0.mk htd
                        have HXD := Aside0.mk hxd
                        clear hrd htd hxd
                        go_upto_region 24 with (fail)
                        obtain ⟨ho, ht1, hxw, hb⟩ := merge_put HTD.out HRD.out HXD.out m HMM.out s1
                        generalize W5.setCell ⟨g8, m * 2 + 1, none⟩ (.int .u64 s1) = w1 at ho ht1 hxw hb ⊢
                        clear hs1' hf1' HRD HTD HXD
                        have hbw := below_then HW0B.out HW0S.out hb
                        have HT1 := Aside0.mk ht1
                        have HR1 := Aside0.mk ho
                        have HBW := Aside0.mk hbw
                        have hx0 : w1.cell? ⟨bx, 0, none⟩ = some (.string x.f0) := blk_cell hxw 0
                        have hx1 : w1.cell? ⟨bx, 1, none⟩ = some (.int .u64 x.f1) := blk_cell hxw 1
                        clear hb hbw ht1 ho hxw
                        have HTa := Aside0.mk (merge_after x HT1.out).1
                        go_wp2_with (go_at_call 16; refine (loser_tree_next.calls W0 _ g go gl ls lost HTa.out HF.out).mono ?_; rintro e_ W6 ⟨rfl, hT6, hB6⟩; have HT6 := Aside0.mk hT6; have HB6 := Aside0.mk hB6; have hk6 := merge_blk x HT1.out hB6; have hz0 : W6.cell? ⟨w1.heap.size, 0, none⟩ = some (.string x.f0) := blk_cell hk6 0; have hz1 : W6.cell? ⟨w1.heap.size, 1, none⟩ = some (.int .u64 x.f1) := blk_cell hk6 1; have hq0 := blk_frozen hk6 0; have hq1 := blk_frozen hk6 1; clear hT6 hB6 hk6)
                        go_roundg d
                        case measure => omega
                        case rel =>
                          obtain ⟨p1, p2, p3, p4, p5⟩ := merge_post x (nextG ls lost).2.2.1 HT1.out HR1.out HT6.out HB6.out HBW.out HW0S.out _ rfl
                          refine ⟨(out.set (out.length - 1) ⟨(lastE out).f0, s1⟩), _, (nextG ls lost).2.2.1, (nextG ls lost).2.2.2, (nextG ls lost).1, (nextG ls lost).2.1, rfl, rfl, ⟨p1⟩, ⟨p2⟩, ⟨by first | exact p3 | (rw [List.length_append, List.length_singleton] at p3; exact p3)⟩, ⟨p4⟩, ⟨HF.out.next⟩, ⟨?_⟩, ⟨p5⟩⟩
                          have hm := HM.out
                          exact hm
                  · have c5b : ((lastE out).f0.toList == x.f0.toList) = false := beq_eq_false_iff_ne.mpr c5
                    have C5 := Aside0.mk c5
                    have hlim : out.length < 5864062014805 := by
                      have hm := HM.out
                      rw [mergeL, if_pos rfl, if_neg (fun h => c5 h.2)] at hm
                      by_cases hl : out.length < 5864062014805
                      · exact hl
                      · rw [if_neg hl] at hm; simp at hm
                    have HLIM := Aside0.mk hlim
                    clear c5 hlim
                    go_wp2
                    go_region
                    clear hs0 hs1 hf1 hx0 hx1
                    have hrd : Kd.R k37 37 wr.drew W0.heap.size (fun k => k ≠ bx) (.slice (some ⟨g8, 0, none⟩) out.length c) out := Kd.R_step HR.out (fun _ _ _ => rfl)
                    have htd : TreeIs W0 wr.drew g go gl ls lost := HT.out.move rfl rfl rfl (HT.out.low.drew)
                    have hxd : wr.drew.heap[bx]? = some (.cells #[.string x.f0, .int .u64 x.f1] 37 (0, 0)) := HX.out
                    generalize wr.drew = W5 at hrd htd hxd ⊢
                    have HRD := Aside0.mk hrd
                    have HTD := Aside0.mk htd
                    have HXD := Aside0.mk hxd
                    have hx0 : W5.cell? ⟨bx, 0, none⟩ = some (.string x.f0) := blk_cell hxd 0
                    have hx1 : W5.cell? ⟨bx, 1, none⟩ = some (.int .u64 x.f1) := blk_cell hxd 1
                    clear hrd htd hxd
                    clear HR HT HX HB
                    go_wp2_with ((with_reducible refine gate_builtin (b := .append) (xs := #[.tmp 78, .tmp 80]) rfl ?_); at_builtin; refine Kd.R_append k37 (w0 := W0) W0.heap.size rfl (.tmp 78) (.tmp 80) 25 37 (.agg #[.string ⟨#[]⟩, .int .u64 0]) 24 rfl Try.underlying25 info37 rfl (by decide) (by omega) (.slice (some ⟨g8, 0, none⟩) out.length c) out x [.string x.f0, .int .u64 x.f1] (fun k => k ≠ bx) (fun _ => False) rfl rfl ?aP (fun _ hk => hk.elim) ?aF ?aO ?aB ?aS ?aL ?_)
                    case aP => exact k37_mkM _ _ _ x
                    case aF => intro k hk e; have := blk_lt HXD.out; omega
                    case aO => exact HRD.out
                    case aB => exact HTD.out.low
                    case aS => exact HTD.out.low.size
                    case aL => have := HLIM.out; omega
                    intro v1 w1 ho hb hg hat
                    obtain ⟨ht1, hxw⟩ := grown_tree HTD.out HRD.out hg hb HXD.out
                    clear hg hat HRD HTD HXD hx0 hx1
                    have hbw := below_then HW0B.out HW0S.out hb
                    obtain ⟨A1, c1, rfl⟩ := Kd.R_slice ho
                    have HT1 := Aside0.mk ht1
                    have HR1 := Aside0.mk ho
                    have HBW := Aside0.mk hbw
                    have hx0 : w1.cell? ⟨bx, 0, none⟩ = some (.string x.f0) := blk_cell hxw 0
                    have hx1 : w1.cell? ⟨bx, 1, none⟩ = some (.int .u64 x.f1) := blk_cell hxw 1
                    clear hb hbw ht1 ho hxw
                    have HTa := Aside0.mk (merge_after x HT1.out).1
                    go_wp2_with (go_at_call 16; refine (loser_tree_next.calls W0 _ g go gl ls lost HTa.out HF.out).mono ?_; rintro e_ W6 ⟨rfl, hT6, hB6⟩; have HT6 := Aside0.mk hT6; have HB6 := Aside0.mk hB6; have hk6 := merge_blk x HT1.out hB6; have hz0 : W6.cell? ⟨w1.heap.size, 0, none⟩ = some (.string x.f0) := blk_cell hk6 0; have hz1 : W6.cell? ⟨w1.heap.size, 1, none⟩ = some (.int .u64 x.f1) := blk_cell hk6 1; have hq0 := blk_frozen hk6 0; have hq1 := blk_frozen hk6 1; clear hT6 hB6 hk6)
                    go_roundg d
                    case measure => omega
                    case rel =>
                      obtain ⟨p1, p2, p3, p4, p5⟩ := merge_post x (nextG ls lost).2.2.1 HT1.out HR1.out HT6.out HB6.out HBW.out HW0S.out _ rfl
                      refine ⟨(out ++ [x]), _, (nextG ls lost).2.2.1, (nextG ls lost).2.2.2, (nextG ls lost).1, (nextG ls lost).2.1, rfl, rfl, ⟨p1⟩, ⟨p2⟩, ⟨by first | exact p3 | (rw [List.length_append, List.length_singleton] at p3; exact p3)⟩, ⟨p4⟩, ⟨HF.out.next⟩, ⟨?_⟩, ⟨p5⟩⟩
                      have hm := HM.out
                      rw [mergeL, if_pos rfl, if_neg (fun h => C5.out h.2), if_pos HLIM.out] at hm
                      exact hm
      | succ k1 =>
        have hil : i < l0.length := by have := HI.out; omega
        have i1 : (i < l0.length) = True := eq_true hil
        obtain ⟨ad, A, c, e0, hx, hl, hC⟩ := at_L3 HR0.out i (by omega) (by omega)
        rw [Int.toNat_natCast] at hx
        have hx := pw_cell_below HB.out hx
        have hm := HM'.out
        have ex : rd_L3 l0 i = l0[i] := by
          unfold rd_L3
          rw [Int.toNat_natCast, List.getD_eq_getElem?_getD, List.getElem?_eq_getElem hil]
          rfl
        rw [List.drop_eq_getElem_cons hil, mays, ← ex] at hm
        replace hm := Option.bind_eq_some_iff.mp hm
        obtain ⟨e1, hm1, hm2⟩ := hm
        have HC := Aside0.mk hC
        have HL := Aside0.mk hl
        have HM1 := Aside0.mk hm1
        have HM2 := Aside0.mk hm2
        have hw2 : wrap64 ((i : Int) + 1) = ((i + 1 : Nat) : Int) := by have := HN.out; unfold wrap64; omega
        have HW := Aside0.mk hw2
        clear hC hl hm1 hm2 ex HM HM' hil hw2
        subst e0
        by_cases c2 : e1 = 0
        · have c2b : (e1 != 0) = false := bne_eq_false_iff_eq.mpr c2
          have HE := Aside0.mk c2
          clear c2
          go_wp2_with (go_at_call 13; refine (run_May.calls k A c (rd_L3 l0 i) e1 _ (Kd.C_below HC.out HB.out) HL.out HM1.out).mono ?_; rintro e_ w1 ⟨rfl, hb⟩; have HB1 := Aside0.mk (below_step HB.out hb); clear hb)
          go_roundg k1
          case measure => omega
          case rel => exact ⟨i + 1, by rw [HW.out], ⟨by have := HI.out; omega⟩, ⟨by have := HM2.out; rwa [if_pos HE.out] at this⟩, HB1⟩
        · have c2b : (e1 != 0) = true := bne_iff_ne.mpr c2
          have HE := Aside0.mk c2
          clear c2
          go_wp2_with (go_at_call 13; refine (run_May.calls k A c (rd_L3 l0 i) e1 _ (Kd.C_below HC.out HB.out) HL.out HM1.out).mono ?_; rintro e_ w1 ⟨rfl, hb⟩; have HB1 := Aside0.mk (below_step HB.out hb); clear hb)
          go_ret2
          have he : e1 = e := by have := HM2.out; rw [if_neg HE.out] at this; exact Option.some.inj this
          subst he
          have h := H.out
          rw [if_neg HE.out] at h
          simp only [Option.some.injEq, Prod.mk.injEq] at h
          obtain ⟨rfl, rfl⟩ := h
          exact ⟨_, rfl, Kd.R_nil _ _ _ _ _, HB1.out⟩

end Go.Proofs.Ytlngljddjlmkfaa.PLs
