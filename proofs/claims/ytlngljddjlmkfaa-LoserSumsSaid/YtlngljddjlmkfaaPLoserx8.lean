/- Contracts of Go functions: called with what reads as these lists and numbers, a function returns what its plain Lean function says, and leaves what was there. Written by a program of this session. -/
import Derived.Test.YtlngljddjlmkfaaPLoserx0
import Derived.Test.YtlngljddjlmkfaaPLoserx3
import Derived.Test.YtlngljddjlmkfaaPLoserx4
import Derived.Test.YtlngljddjlmkfaaPLoserx5
namespace Go.Proofs.Ytlngljddjlmkfaa.PLoser
open Go.RowKit Go.Proofs.YtlngljddjlmkfaaW.PrintWords Go.Proofs.YtlngljddjlmkfaaW.PrintLast Go.Proofs.YtlngljddjlmkfaaW.PrintMore
attribute [local go_sem] max2_int min2_int max_two min_two max_three min_three max_four min_four   -- for this text's walks alone
attribute [local go_sem] Go.Proofs.Ytlngljddjlmkfaa.MoreWords.str_leq Go.Proofs.Ytlngljddjlmkfaa.MoreWords.str_gtr Go.Proofs.Ytlngljddjlmkfaa.MoreWords.str_geq
set_option linter.unusedVariables false
set_option linter.unusedSimpArgs false

/-! ### manteletlaw11_LoserSums: function 6 -/
mutual
def manteletlaw11_LoserSums.l0 : Nat → List (List (S37)) → Bool → List (S37) → Int → Option (Bool)
  | 0, _, _, _, _ => none
  | k + 1, x0, x3, x4, x6 => if x6 < (x4.length : Int) then (manteletlaw11_LoserSums.l1 k x0 x3 x4 x6 0 0) else (manteletlaw11_LoserSums.l2 k x0 x3 x4 0)
def manteletlaw11_LoserSums.l1 : Nat → List (List (S37)) → Bool → List (S37) → Int → Int → Int → Option (Bool)
  | 0, _, _, _, _, _, _ => none
  | k + 1, x0, x3, x4, x6, x7, x8 => if x8 < (x0.length : Int) then (if 0 ≤ x8 then (if 0 ≤ x6 then (if x6 < (x4.length : Int) then ((manteletref08_Get.f k (rd_L3 x0 x8) ((rd_T37 x4 x6).f0)).bind fun t253 => (manteletlaw11_LoserSums.l1 k x0 x3 x4 x6 (IntKind.u64.wrap (x7 + t253)) (wrap64 (x8 + 1)))) else (none)) else (none)) else (none)) else (if 0 ≤ x6 then (if x6 < (x4.length : Int) then (if x7 = ((rd_T37 x4 x6).f1) then (manteletlaw11_LoserSums.l0 k x0 x3 x4 (wrap64 (x6 + 1))) else (none)) else (none)) else (none))
def manteletlaw11_LoserSums.l2 : Nat → List (List (S37)) → Bool → List (S37) → Int → Option (Bool)
  | 0, _, _, _, _ => none
  | k + 1, x0, x3, x4, x9 => if x9 < (x0.length : Int) then (manteletlaw11_LoserSums.l3 k x0 x3 x4 x9 0) else (some x3)
def manteletlaw11_LoserSums.l3 : Nat → List (List (S37)) → Bool → List (S37) → Int → Int → Option (Bool)
  | 0, _, _, _, _, _ => none
  | k + 1, x0, x3, x4, x9, x10 => if 0 ≤ x9 then (if x9 < (x0.length : Int) then (if x10 < ((rd_L3 x0 x9).length : Int) then (if 0 ≤ x10 then ((manteletref08_Get.f k x4 ((rd_T37 (rd_L3 x0 x9) x10).f0)).bind fun t258 => (if t258 = 0 then (none) else (manteletlaw11_LoserSums.l3 k x0 x3 x4 x9 (wrap64 (x10 + 1))))) else (none)) else (manteletlaw11_LoserSums.l2 k x0 x3 x4 (wrap64 (x9 + 1)))) else (none)) else (none)
end
def manteletlaw11_LoserSums.f (k : Nat) (l0 : List (List (S37))) : Option (Bool) := (manteletlaw11_shown.f k).bind fun t245 => ((manteletlaw11_few.f k l0).bind fun t246 => (if t246 = true then ((loser_Merge.f k l0).bind fun bt247 => (if bt247.2 = 0 then (manteletlaw11_LoserSums.l0 k l0 t245 bt247.1 0) else (some t245))) else (some t245)))
theorem manteletlaw11_LoserSums.mono_l : ∀ k, (∀ y0 y1 y2 y3, LeO (manteletlaw11_LoserSums.l0 k y0 y1 y2 y3) (manteletlaw11_LoserSums.l0 (k + 1) y0 y1 y2 y3)) ∧ (∀ y0 y1 y2 y3 y4 y5, LeO (manteletlaw11_LoserSums.l1 k y0 y1 y2 y3 y4 y5) (manteletlaw11_LoserSums.l1 (k + 1) y0 y1 y2 y3 y4 y5)) ∧ (∀ y0 y1 y2 y3, LeO (manteletlaw11_LoserSums.l2 k y0 y1 y2 y3) (manteletlaw11_LoserSums.l2 (k + 1) y0 y1 y2 y3)) ∧ (∀ y0 y1 y2 y3 y4, LeO (manteletlaw11_LoserSums.l3 k y0 y1 y2 y3 y4) (manteletlaw11_LoserSums.l3 (k + 1) y0 y1 y2 y3 y4))
  | 0 => ⟨fun _ _ _ _ r h => by simp [manteletlaw11_LoserSums.l0] at h, fun _ _ _ _ _ _ r h => by simp [manteletlaw11_LoserSums.l1] at h, fun _ _ _ _ r h => by simp [manteletlaw11_LoserSums.l2] at h, fun _ _ _ _ _ r h => by simp [manteletlaw11_LoserSums.l3] at h⟩
  | k + 1 => by
    obtain ⟨ih0, ih1, ih2, ih3⟩ := manteletlaw11_LoserSums.mono_l k
    refine ⟨?_, ?_, ?_, ?_⟩
    · intro y0 y1 y2 y3
      unfold manteletlaw11_LoserSums.l0
      repeat' first
      | (with_reducible exact ih0 _ _ _ _)
      | (with_reducible exact ih1 _ _ _ _ _ _)
      | (with_reducible exact ih2 _ _ _ _)
      | (with_reducible exact ih3 _ _ _ _ _)
      | (with_reducible exact loser_Merge.mono _ _)
      | (with_reducible exact manteletlaw11_few.mono _ _)
      | (with_reducible exact manteletlaw11_shown.mono _)
      | (with_reducible exact manteletref08_Get.mono _ _ _)
      | (with_reducible exact LeO.refl _)
      | (with_reducible exact LeO.none _)
      | (with_reducible refine LeO.ite ?_ ?_)
      | (with_reducible refine LeO.bind ?_ (fun _ => ?_))
      | exact ih0 _ _ _ _
      | exact ih1 _ _ _ _ _ _
      | exact ih2 _ _ _ _
      | exact ih3 _ _ _ _ _
      | exact loser_Merge.mono _ _
      | exact manteletlaw11_few.mono _ _
      | exact manteletlaw11_shown.mono _
      | exact manteletref08_Get.mono _ _ _
      | exact LeO.none _
      | refine LeO.ite ?_ ?_
      | refine LeO.bind ?_ (fun _ => ?_)
    · intro y0 y1 y2 y3 y4 y5
      unfold manteletlaw11_LoserSums.l1
      repeat' first
      | (with_reducible exact ih0 _ _ _ _)
      | (with_reducible exact ih1 _ _ _ _ _ _)
      | (with_reducible exact ih2 _ _ _ _)
      | (with_reducible exact ih3 _ _ _ _ _)
      | (with_reducible exact loser_Merge.mono _ _)
      | (with_reducible exact manteletlaw11_few.mono _ _)
      | (with_reducible exact manteletlaw11_shown.mono _)
      | (with_reducible exact manteletref08_Get.mono _ _ _)
      | (with_reducible exact LeO.refl _)
      | (with_reducible exact LeO.none _)
      | (with_reducible refine LeO.ite ?_ ?_)
      | (with_reducible refine LeO.bind ?_ (fun _ => ?_))
      | exact ih0 _ _ _ _
      | exact ih1 _ _ _ _ _ _
      | exact ih2 _ _ _ _
      | exact ih3 _ _ _ _ _
      | exact loser_Merge.mono _ _
      | exact manteletlaw11_few.mono _ _
      | exact manteletlaw11_shown.mono _
      | exact manteletref08_Get.mono _ _ _
      | exact LeO.none _
      | refine LeO.ite ?_ ?_
      | refine LeO.bind ?_ (fun _ => ?_)
    · intro y0 y1 y2 y3
      unfold manteletlaw11_LoserSums.l2
      repeat' first
      | (with_reducible exact ih0 _ _ _ _)
      | (with_reducible exact ih1 _ _ _ _ _ _)
      | (with_reducible exact ih2 _ _ _ _)
      | (with_reducible exact ih3 _ _ _ _ _)
      | (with_reducible exact loser_Merge.mono _ _)
      | (with_reducible exact manteletlaw11_few.mono _ _)
      | (with_reducible exact manteletlaw11_shown.mono _)
      | (with_reducible exact manteletref08_Get.mono _ _ _)
      | (with_reducible exact LeO.refl _)
      | (with_reducible exact LeO.none _)
      | (with_reducible refine LeO.ite ?_ ?_)
      | (with_reducible refine LeO.bind ?_ (fun _ => ?_))
      | exact ih0 _ _ _ _
      | exact ih1 _ _ _ _ _ _
      | exact ih2 _ _ _ _
      | exact ih3 _ _ _ _ _
      | exact loser_Merge.mono _ _
      | exact manteletlaw11_few.mono _ _
      | exact manteletlaw11_shown.mono _
      | exact manteletref08_Get.mono _ _ _
      | exact LeO.none _
      | refine LeO.ite ?_ ?_
      | refine LeO.bind ?_ (fun _ => ?_)
    · intro y0 y1 y2 y3 y4
      unfold manteletlaw11_LoserSums.l3
      repeat' first
      | (with_reducible exact ih0 _ _ _ _)
      | (with_reducible exact ih1 _ _ _ _ _ _)
      | (with_reducible exact ih2 _ _ _ _)
      | (with_reducible exact ih3 _ _ _ _ _)
      | (with_reducible exact loser_Merge.mono _ _)
      | (with_reducible exact manteletlaw11_few.mono _ _)
      | (with_reducible exact manteletlaw11_shown.mono _)
      | (with_reducible exact manteletref08_Get.mono _ _ _)
      | (with_reducible exact LeO.refl _)
      | (with_reducible exact LeO.none _)
      | (with_reducible refine LeO.ite ?_ ?_)
      | (with_reducible refine LeO.bind ?_ (fun _ => ?_))
      | exact ih0 _ _ _ _
      | exact ih1 _ _ _ _ _ _
      | exact ih2 _ _ _ _
      | exact ih3 _ _ _ _ _
      | exact loser_Merge.mono _ _
      | exact manteletlaw11_few.mono _ _
      | exact manteletlaw11_shown.mono _
      | exact manteletref08_Get.mono _ _ _
      | exact LeO.none _
      | refine LeO.ite ?_ ?_
      | refine LeO.bind ?_ (fun _ => ?_)
theorem manteletlaw11_LoserSums.mono : ∀ a0 k, LeO (manteletlaw11_LoserSums.f k a0) (manteletlaw11_LoserSums.f (k + 1) a0) := by
  intro a0 k
  obtain ⟨ih0, ih1, ih2, ih3⟩ := manteletlaw11_LoserSums.mono_l k
  unfold manteletlaw11_LoserSums.f
  repeat' first
      | (with_reducible exact ih0 _ _ _ _)
      | (with_reducible exact ih1 _ _ _ _ _ _)
      | (with_reducible exact ih2 _ _ _ _)
      | (with_reducible exact ih3 _ _ _ _ _)
      | (with_reducible exact loser_Merge.mono _ _)
      | (with_reducible exact manteletlaw11_few.mono _ _)
      | (with_reducible exact manteletlaw11_shown.mono _)
      | (with_reducible exact manteletref08_Get.mono _ _ _)
      | (with_reducible exact LeO.refl _)
      | (with_reducible exact LeO.none _)
      | (with_reducible refine LeO.ite ?_ ?_)
      | (with_reducible refine LeO.bind ?_ (fun _ => ?_))
      | exact ih0 _ _ _ _
      | exact ih1 _ _ _ _ _ _
      | exact ih2 _ _ _ _
      | exact ih3 _ _ _ _ _
      | exact loser_Merge.mono _ _
      | exact manteletlaw11_few.mono _ _
      | exact manteletlaw11_shown.mono _
      | exact manteletref08_Get.mono _ _ _
      | exact LeO.none _
      | refine LeO.ite ?_ ?_
      | refine LeO.bind ?_ (fun _ => ?_)
set_option maxHeartbeats 8000000 in
set_option maxRecDepth 100000 in
theorem manteletlaw11_LoserSums.calls (k : Nat) (A0 : Option Addr) (c0 : Nat) (l0 : List (List (S37))) (r : Bool) (w : World) (hr0 : Kd.C (Kd.slice 37 k37) w A0 l0.length l0) (hc0 : l0.length ≤ c0) (h : manteletlaw11_LoserSums.f k l0 = some r) :
    Calls Try.prog 6 #[.slice A0 l0.length c0] w fun e w' => e = .returned (.bool r) ∧ Below w.heap.size w w' := by
  have HR0 := Aside0.mk hr0
  have HC0 := Aside0.mk hc0
  clear hr0 hc0
  have HB := Aside0.mk (Below.refl w.heap.size w)
  have H : ((manteletlaw11_shown.f k).bind fun t245 => ((manteletlaw11_few.f k l0).bind fun t246 => (if t246 = true then ((loser_Merge.f k l0).bind fun bt247 => (if bt247.2 = 0 then (manteletlaw11_LoserSums.l0 k l0 t245 bt247.1 0) else (some t245))) else (some t245)))) = some r := h
  clear h
  replace H := Option.bind_eq_some_iff.mp H
  obtain ⟨t245, A20, H⟩ := H
  replace H : ((manteletlaw11_few.f k l0).bind fun t246 => (if t246 = true then ((loser_Merge.f k l0).bind fun bt247 => (if bt247.2 = 0 then (manteletlaw11_LoserSums.l0 k l0 t245 bt247.1 0) else (some t245))) else (some t245))) = some r := H
  have A2 := Aside0.mk A20
  clear A20
  replace H := Option.bind_eq_some_iff.mp H
  obtain ⟨t246, A30, H⟩ := H
  replace H : (if t246 = true then ((loser_Merge.f k l0).bind fun bt247 => (if bt247.2 = 0 then (manteletlaw11_LoserSums.l0 k l0 t245 bt247.1 0) else (some t245))) else (some t245)) = some r := H
  have A3 := Aside0.mk A30
  clear A30
  by_cases c4 : t246 = true
  · subst c4
    have H1 : ((loser_Merge.f k l0).bind fun bt247 => (if bt247.2 = 0 then (manteletlaw11_LoserSums.l0 k l0 t245 bt247.1 0) else (some t245))) = some r := by rw [if_pos rfl] at H; exact H
    clear H
    have H := H1
    clear H1
    replace H := Option.bind_eq_some_iff.mp H
    obtain ⟨⟨t247, t248⟩, A50, H⟩ := H
    replace H : (if t248 = 0 then (manteletlaw11_LoserSums.l0 k l0 t245 t247 0) else (some t245)) = some r := H
    have A5 := Aside0.mk A50
    clear A50
    by_cases c6 : t248 = 0
    · rw [if_pos c6] at H
      have c6b0 : (t248 == 0) = true := beq_iff_eq.mpr c6
      have c6b1 : (t248 != 0) = false := bne_eq_false_iff_eq.mpr c6
      clear c6
      have H' := Aside0.mk H
      clear H
      go_enter Try.func6, Try.ntmps6
      go_wp2_with (first | (go_at_call 8; (with_reducible refine (manteletlaw11_shown.calls k  t245 _ A2.out).mono ?_); rintro e w7 ⟨rfl, hb⟩; have n0_ := Aside0.mk (below_step (by repeat (first | (with_reducible first | exact HB.out | apply below_alloc | apply pw_below_drewN | apply below_drew1) | exact HB.out)) hb); clear HB; have HB := n0_; clear n0_; (try clear hb); (try clear hb2); (try clear hk); (try clear hi)) | (go_at_call 9; (with_reducible refine (manteletlaw11_few.calls k _ _ l0 true _ ?side1 ?side2 A3.out).mono ?_); (case side1 => repeat (first | exact (Kd.C_below HR0.out HB.out) | (with_reducible refine Kd.C_alloc ?_ _) | (with_reducible refine Kd.C_drewN ?_ _) | (with_reducible refine Kd.C_drew ?_))); (case side2 => exact HC0.out); rintro e w' ⟨rfl, ⟨nd, rfl⟩⟩; (try first | exact ⟨rfl, _, World.drewN_drewN _ _ _⟩ | exact ⟨rfl, _, Eq.trans (World.drewN_drewN _ _ _) (congrArg (World.drewN _) (Nat.add_assoc _ _ _))⟩)) | (go_at_call 10; (with_reducible refine (loser_Merge.calls k _ _ l0 t247 t248 _ ?side1 ?side2 A5.out).mono ?_); (case side1 => repeat (first | exact (Kd.C_below HR0.out (by repeat (first | (with_reducible first | exact HB.out | apply below_alloc | apply pw_below_drewN | apply below_drew1) | exact HB.out))) | (with_reducible refine Kd.C_alloc ?_ _) | (with_reducible refine Kd.C_drewN ?_ _) | (with_reducible refine Kd.C_drew ?_))); (case side2 => exact HC0.out); rintro e w8 ⟨v249, rfl, ho0, hb⟩; have n0_ := Aside0.mk (Kd.R_lower ho0 (below_size (by repeat (first | (with_reducible first | exact HB.out | apply below_alloc | apply pw_below_drewN | apply below_drew1) | exact HB.out)))); have n1_ := Aside0.mk (below_step (by repeat (first | (with_reducible first | exact HB.out | apply below_alloc | apply pw_below_drewN | apply below_drew1) | exact HB.out)) hb); clear HB; have HO250 := n0_; have HB := n1_; clear n0_ n1_; (try clear hb); (try clear hb2); (try clear hk); (try clear hi); (try clear ho0)))
      repeat (go_quiet (first | (go_at_call 8; (with_reducible refine (manteletlaw11_shown.calls k  t245 _ A2.out).mono ?_); rintro e w7 ⟨rfl, hb⟩; have n0_ := Aside0.mk (below_step (by repeat (first | (with_reducible first | exact HB.out | apply below_alloc | apply pw_below_drewN | apply below_drew1) | exact HB.out)) hb); clear HB; have HB := n0_; clear n0_; (try clear hb); (try clear hb2); (try clear hk); (try clear hi)) | (go_at_call 9; (with_reducible refine (manteletlaw11_few.calls k _ _ l0 true _ ?side1 ?side2 A3.out).mono ?_); (case side1 => repeat (first | exact (Kd.C_below HR0.out HB.out) | (with_reducible refine Kd.C_alloc ?_ _) | (with_reducible refine Kd.C_drewN ?_ _) | (with_reducible refine Kd.C_drew ?_))); (case side2 => exact HC0.out); rintro e w' ⟨rfl, ⟨nd, rfl⟩⟩; (try first | exact ⟨rfl, _, World.drewN_drewN _ _ _⟩ | exact ⟨rfl, _, Eq.trans (World.drewN_drewN _ _ _) (congrArg (World.drewN _) (Nat.add_assoc _ _ _))⟩)) | (go_at_call 10; (with_reducible refine (loser_Merge.calls k _ _ l0 t247 t248 _ ?side1 ?side2 A5.out).mono ?_); (case side1 => repeat (first | exact (Kd.C_below HR0.out (by repeat (first | (with_reducible first | exact HB.out | apply below_alloc | apply pw_below_drewN | apply below_drew1) | exact HB.out))) | (with_reducible refine Kd.C_alloc ?_ _) | (with_reducible refine Kd.C_drewN ?_ _) | (with_reducible refine Kd.C_drew ?_))); (case side2 => exact HC0.out); rintro e w8 ⟨v249, rfl, ho0, hb⟩; have n0_ := Aside0.mk (Kd.R_lower ho0 (below_size (by repeat (first | (with_reducible first | exact HB.out | apply below_alloc | apply pw_below_drewN | apply below_drew1) | exact HB.out)))); have n1_ := Aside0.mk (below_step (by repeat (first | (with_reducible first | exact HB.out | apply below_alloc | apply pw_below_drewN | apply below_drew1) | exact HB.out)) hb); clear HB; have HO250 := n0_; have HB := n1_; clear n0_ n1_; (try clear hb); (try clear hb2); (try clear hk); (try clear hi); (try clear ho0))); try go_wp2_with (first | (go_at_call 8; (with_reducible refine (manteletlaw11_shown.calls k  t245 _ A2.out).mono ?_); rintro e w7 ⟨rfl, hb⟩; have n0_ := Aside0.mk (below_step (by repeat (first | (with_reducible first | exact HB.out | apply below_alloc | apply pw_below_drewN | apply below_drew1) | exact HB.out)) hb); clear HB; have HB := n0_; clear n0_; (try clear hb); (try clear hb2); (try clear hk); (try clear hi)) | (go_at_call 9; (with_reducible refine (manteletlaw11_few.calls k _ _ l0 true _ ?side1 ?side2 A3.out).mono ?_); (case side1 => repeat (first | exact (Kd.C_below HR0.out HB.out) | (with_reducible refine Kd.C_alloc ?_ _) | (with_reducible refine Kd.C_drewN ?_ _) | (with_reducible refine Kd.C_drew ?_))); (case side2 => exact HC0.out); rintro e w' ⟨rfl, ⟨nd, rfl⟩⟩; (try first | exact ⟨rfl, _, World.drewN_drewN _ _ _⟩ | exact ⟨rfl, _, Eq.trans (World.drewN_drewN _ _ _) (congrArg (World.drewN _) (Nat.add_assoc _ _ _))⟩)) | (go_at_call 10; (with_reducible refine (loser_Merge.calls k _ _ l0 t247 t248 _ ?side1 ?side2 A5.out).mono ?_); (case side1 => repeat (first | exact (Kd.C_below HR0.out (by repeat (first | (with_reducible first | exact HB.out | apply below_alloc | apply pw_below_drewN | apply below_drew1) | exact HB.out))) | (with_reducible refine Kd.C_alloc ?_ _) | (with_reducible refine Kd.C_drewN ?_ _) | (with_reducible refine Kd.C_drew ?_))); (case side2 => exact HC0.out); rintro e w8 ⟨v249, rfl, ho0, hb⟩; have n0_ := Aside0.mk (Kd.R_lower ho0 (below_size (by repeat (first | (with_reducible first | exact HB.out | apply below_alloc | apply pw_below_drewN | apply below_drew1) | exact HB.out)))); have n1_ := Aside0.mk (below_step (by repeat (first | (with_reducible first | exact HB.out | apply below_alloc | apply pw_below_drewN | apply below_drew1) | exact HB.out)) hb); clear HB; have HO250 := n0_; have HB := n1_; clear n0_ n1_; (try clear hb); (try clear hb2); (try clear hk); (try clear hi); (try clear ho0))))
      go_loopg [6] k (fun kq v6 w' => ∃ (x6_1 : Int), v6 = .int .i64 x6_1 ∧ Aside0 (manteletlaw11_LoserSums.l0 kq l0 t245 t247 x6_1 = some r) ∧ Aside0 (kq ≤ k) ∧ Aside0 (Kd.R k37 37 w' w.heap.size (fun _ => True) v249 t247) ∧ Aside0 (Below w.heap.size w w'))
      case atStart => exact ⟨(0), (by first | rfl | (simp; done) | (simp [*]; done)), H', ⟨Nat.le_refl _⟩, ⟨by (with_reducible repeat (first | apply Kd.R_alloc | apply Kd.R_drewN | apply Kd.R_drew)); exact HO250.out⟩, ⟨by repeat (first | (with_reducible first | exact HB.out | apply below_alloc | apply pw_below_drewN | apply below_drew1) | exact HB.out)⟩⟩
      case round =>
        clear H'
        try clear p2
        try clear c4
        try clear c6
        try clear c6b0
        try clear c6b1
        obtain ⟨x6_1, rfl, HA, HK1, HO_4, HB⟩ := hrel
        cases gk with
        | zero => exact absurd HA.out (by simp [manteletlaw11_LoserSums.l0])
        | succ k1 =>
          have H := HA.out
          clear HA
          simp only [manteletlaw11_LoserSums.l0] at H
          by_cases c9 : x6_1 < (t247.length : Int)
          · rw [if_pos c9] at H
            have c9b0 : decide (x6_1 < (t247.length : Int)) = true := decide_eq_true c9
            clear c9
            have H' := Aside0.mk H
            clear H
            obtain ⟨Ao10, co10, eo10⟩ := Kd.R_slice HO_4.out
            subst eo10
            go_wp2
            repeat (go_quiet (fail); try go_wp2)
            go_loopg [7, 8] k1 (fun kq v7 v8 w' => ∃ (x7_2 : Int) (x8_2 : Int), v7 = .int .u64 x7_2 ∧ v8 = .int .i64 x8_2 ∧ Aside0 (manteletlaw11_LoserSums.l1 kq l0 t245 t247 x6_1 x7_2 x8_2 = some r) ∧ Aside0 (kq ≤ k1) ∧ Aside0 (Kd.R k37 37 w' w.heap.size (fun _ => True) (.slice Ao10 t247.length co10) t247) ∧ Aside0 (Below w.heap.size w w'))
            case atStart => exact ⟨(0), (0), (by first | rfl | (simp; done) | (simp [*]; done)), (by first | rfl | (simp; done) | (simp [*]; done)), H', ⟨Nat.le_refl _⟩, ⟨by (with_reducible repeat (first | apply Kd.R_alloc | apply Kd.R_drewN | apply Kd.R_drew)); exact HO_4.out⟩, ⟨by repeat (first | (with_reducible first | exact HB.out | apply below_alloc | apply pw_below_drewN | apply below_drew1) | exact HB.out)⟩⟩
            case round =>
              clear H'
              try clear p2
              try clear c4
              try clear c6
              try clear c6b0
              try clear c6b1
              try clear c9
              try clear c9b0
              try clear p2
              obtain ⟨x7_2, x8_2, rfl, rfl, HA, HK2, HO_4, HB⟩ := hrel
              cases gk with
              | zero => exact absurd HA.out (by simp [manteletlaw11_LoserSums.l1])
              | succ k2 =>
                have H := HA.out
                clear HA
                simp only [manteletlaw11_LoserSums.l1] at H
                by_cases c11 : x8_2 < (l0.length : Int)
                · rw [if_pos c11] at H
                  have c11b0 : decide (x8_2 < (l0.length : Int)) = true := decide_eq_true c11
                  clear c11
                  by_cases c12 : 0 ≤ x8_2
                  · rw [if_pos c12] at H
                    have c12b0 : decide (0 ≤ x8_2) = true := decide_eq_true c12
                    clear c12
                    by_cases c13 : 0 ≤ x6_1
                    · rw [if_pos c13] at H
                      have c13b0 : decide (0 ≤ x6_1) = true := decide_eq_true c13
                      clear c13
                      by_cases c14 : x6_1 < (t247.length : Int)
                      · rw [if_pos c14] at H
                        have c14b0 : decide (x6_1 < (t247.length : Int)) = true := decide_eq_true c14
                        clear c14
                        replace H := Option.bind_eq_some_iff.mp H
                        obtain ⟨t253, A150, H⟩ := H
                        replace H : (manteletlaw11_LoserSums.l1 k2 l0 t245 t247 x6_1 (IntKind.u64.wrap (x7_2 + t253)) (wrap64 (x8_2 + 1))) = some r := H
                        have A15 := Aside0.mk A150
                        clear A150
                        have H' := Aside0.mk H
                        clear H
                        have p251 : 0 ≤ (x8_2 : Int) := of_decide_eq_true (by first | (with_reducible assumption) | assumption)
                        have q251 : x8_2 < (l0.length : Int) := of_decide_eq_true (by first | (with_reducible assumption) | assumption)
                        obtain ⟨ad251, A251_0, c251_0, e251, hx251_0, hl251_0, hi251_0⟩ := at_L3 HR0.out x8_2 p251 q251
                        cases e251
                        replace hx251_0 := (HB.out.cell (World.block_lt_of_cell? w _ hx251_0)).trans hx251_0
                        have HR251_0 := Aside0.mk hi251_0
                        have HC251_0 := Aside0.mk hl251_0
                        clear hi251_0 hl251_0
                        replace p251 := eq_true p251
                        replace q251 := eq_true q251
                        have p252 : 0 ≤ (x6_1 : Int) := of_decide_eq_true (by first | (with_reducible assumption) | assumption)
                        have q252 : x6_1 < (t247.length : Int) := of_decide_eq_true (by first | (with_reducible assumption) | assumption)
                        obtain ⟨ad252, e252, hx252_0, hx252_1⟩ := at_T37 (Kd.R_reads' HO_4.out).2.2 x6_1 p252 q252
                        cases e252
                        replace p252 := eq_true p252
                        replace q252 := eq_true q252
                        go_wp2_with (first | (go_at_call 14; (with_reducible refine (manteletref08_Get.calls k2 _ _ (rd_L3 l0 x8_2) ((rd_T37 t247 x6_1).f0) t253 _ ?side1 ?side2 A15.out).mono ?_); (case side1 => repeat (first | exact (Kd.C_below HR251_0.out HB.out) | (with_reducible refine Kd.C_alloc ?_ _) | (with_reducible refine Kd.C_drewN ?_ _) | (with_reducible refine Kd.C_drew ?_))); (case side2 => exact HC251_0.out); rintro e w' ⟨rfl, ⟨nd, rfl⟩⟩; (try first | exact ⟨rfl, _, World.drewN_drewN _ _ _⟩ | exact ⟨rfl, _, Eq.trans (World.drewN_drewN _ _ _) (congrArg (World.drewN _) (Nat.add_assoc _ _ _))⟩)))
                        repeat (go_quiet (first | (go_at_call 14; (with_reducible refine (manteletref08_Get.calls k2 _ _ (rd_L3 l0 x8_2) ((rd_T37 t247 x6_1).f0) t253 _ ?side1 ?side2 A15.out).mono ?_); (case side1 => repeat (first | exact (Kd.C_below HR251_0.out HB.out) | (with_reducible refine Kd.C_alloc ?_ _) | (with_reducible refine Kd.C_drewN ?_ _) | (with_reducible refine Kd.C_drew ?_))); (case side2 => exact HC251_0.out); rintro e w' ⟨rfl, ⟨nd, rfl⟩⟩; (try first | exact ⟨rfl, _, World.drewN_drewN _ _ _⟩ | exact ⟨rfl, _, Eq.trans (World.drewN_drewN _ _ _) (congrArg (World.drewN _) (Nat.add_assoc _ _ _))⟩))); try go_wp2_with (first | (go_at_call 14; (with_reducible refine (manteletref08_Get.calls k2 _ _ (rd_L3 l0 x8_2) ((rd_T37 t247 x6_1).f0) t253 _ ?side1 ?side2 A15.out).mono ?_); (case side1 => repeat (first | exact (Kd.C_below HR251_0.out HB.out) | (with_reducible refine Kd.C_alloc ?_ _) | (with_reducible refine Kd.C_drewN ?_ _) | (with_reducible refine Kd.C_drew ?_))); (case side2 => exact HC251_0.out); rintro e w' ⟨rfl, ⟨nd, rfl⟩⟩; (try first | exact ⟨rfl, _, World.drewN_drewN _ _ _⟩ | exact ⟨rfl, _, Eq.trans (World.drewN_drewN _ _ _) (congrArg (World.drewN _) (Nat.add_assoc _ _ _))⟩))))
                        go_roundg k2
                        case measure => have := HK1.out; have := HK2.out; omega
                        case rel => exact ⟨(IntKind.u64.wrap (x7_2 + t253)), (wrap64 (x8_2 + 1)), (by first | rfl | (simp; done) | (simp [*]; done)), (by first | rfl | (simp; done) | (simp [*]; done)), H', ⟨by have := HK1.out; have := HK2.out; omega⟩, ⟨by (with_reducible repeat (first | apply Kd.R_alloc | apply Kd.R_drewN | apply Kd.R_drew)); exact HO_4.out⟩, ⟨by repeat (first | (with_reducible first | exact HB.out | apply below_alloc | apply pw_below_drewN | apply below_drew1) | exact HB.out)⟩⟩
                      · rw [if_neg c14] at H
                        exact absurd H (by simp)
                    · rw [if_neg c13] at H
                      exact absurd H (by simp)
                  · rw [if_neg c12] at H
                    exact absurd H (by simp)
                · rw [if_neg c11] at H
                  have c11b0 : decide (x8_2 < (l0.length : Int)) = false := decide_eq_false c11
                  clear c11
                  by_cases c16 : 0 ≤ x6_1
                  · rw [if_pos c16] at H
                    have c16b0 : decide (0 ≤ x6_1) = true := decide_eq_true c16
                    clear c16
                    by_cases c17 : x6_1 < (t247.length : Int)
                    · rw [if_pos c17] at H
                      have c17b0 : decide (x6_1 < (t247.length : Int)) = true := decide_eq_true c17
                      clear c17
                      by_cases c18 : x7_2 = ((rd_T37 t247 x6_1).f1)
                      · rw [if_pos c18] at H
                        have c18b0 : (x7_2 == ((rd_T37 t247 x6_1).f1)) = true := beq_iff_eq.mpr c18
                        have c18b1 : (x7_2 != ((rd_T37 t247 x6_1).f1)) = false := bne_eq_false_iff_eq.mpr c18
                        clear c18
                        have H' := Aside0.mk H
                        clear H
                        have p254 : 0 ≤ (x6_1 : Int) := of_decide_eq_true (by first | (with_reducible assumption) | assumption)
                        have q254 : x6_1 < (t247.length : Int) := of_decide_eq_true (by first | (with_reducible assumption) | assumption)
                        obtain ⟨ad254, e254, hx254_0, hx254_1⟩ := at_T37 (Kd.R_reads' HO_4.out).2.2 x6_1 p254 q254
                        cases e254
                        replace p254 := eq_true p254
                        replace q254 := eq_true q254
                        go_wp2
                        repeat (go_quiet (fail); try go_wp2)
                        go_roundg k2
                        case measure => have := HK1.out; have := HK2.out; omega
                        case rel => exact ⟨(wrap64 (x6_1 + 1)), (by first | rfl | (simp; done) | (simp [*]; done)), H', ⟨by have := HK1.out; have := HK2.out; omega⟩, ⟨by (with_reducible repeat (first | apply Kd.R_alloc | apply Kd.R_drewN | apply Kd.R_drew)); exact HO_4.out⟩, ⟨by repeat (first | (with_reducible first | exact HB.out | apply below_alloc | apply pw_below_drewN | apply below_drew1) | exact HB.out)⟩⟩
                      · rw [if_neg c18] at H
                        exact absurd H (by simp)
                    · rw [if_neg c17] at H
                      exact absurd H (by simp)
                  · rw [if_neg c16] at H
                    exact absurd H (by simp)
          · rw [if_neg c9] at H
            have c9b0 : decide (x6_1 < (t247.length : Int)) = false := decide_eq_false c9
            clear c9
            have H' := Aside0.mk H
            clear H
            obtain ⟨Ao19, co19, eo19⟩ := Kd.R_slice HO_4.out
            subst eo19
            go_wp2
            repeat (go_quiet (fail); try go_wp2)
            go_loopg [9] k1 (fun kq v9 w' => ∃ (x9_2 : Int), v9 = .int .i64 x9_2 ∧ Aside0 (manteletlaw11_LoserSums.l2 kq l0 t245 t247 x9_2 = some r) ∧ Aside0 (kq ≤ k1) ∧ Aside0 (Kd.R k37 37 w' w.heap.size (fun _ => True) (.slice Ao19 t247.length co19) t247) ∧ Aside0 (Below w.heap.size w w'))
            case atStart => exact ⟨(0), (by first | rfl | (simp; done) | (simp [*]; done)), H', ⟨Nat.le_refl _⟩, ⟨by (with_reducible repeat (first | apply Kd.R_alloc | apply Kd.R_drewN | apply Kd.R_drew)); exact HO_4.out⟩, ⟨by repeat (first | (with_reducible first | exact HB.out | apply below_alloc | apply pw_below_drewN | apply below_drew1) | exact HB.out)⟩⟩
            case round =>
              clear H'
              try clear c1
              try clear c2
              try clear p2
              try clear q2
              try clear hx2
              try clear c4
              try clear c6
              try clear c6b0
              try clear c6b1
              try clear p6
              try clear c9
              try clear c9b0
              try clear c11
              try clear c11b0
              try clear c12
              try clear c12b0
              try clear c13
              try clear c13b0
              try clear c14
              try clear c14b0
              try clear c16
              try clear c16b0
              try clear c17
              try clear c17b0
              try clear c18
              try clear c18b0
              try clear c18b1
              try clear hx251_0
              try clear hx252_0
              try clear hx252_1
              try clear hx254_0
              try clear hx254_1
              try clear p2
              try clear p251
              try clear p252
              try clear p254
              try clear q251
              try clear q252
              try clear q254
              obtain ⟨x9_2, rfl, HA, HK2, HO_4, HB⟩ := hrel
              cases gk with
              | zero => exact absurd HA.out (by simp [manteletlaw11_LoserSums.l2])
              | succ k2 =>
                have H := HA.out
                clear HA
                simp only [manteletlaw11_LoserSums.l2] at H
                by_cases c20 : x9_2 < (l0.length : Int)
                · rw [if_pos c20] at H
                  have c20b0 : decide (x9_2 < (l0.length : Int)) = true := decide_eq_true c20
                  clear c20
                  have H' := Aside0.mk H
                  clear H
                  go_wp2
                  repeat (go_quiet (fail); try go_wp2)
                  go_loopg [10] k2 (fun kq v10 w' => ∃ (x10_3 : Int), v10 = .int .i64 x10_3 ∧ Aside0 (manteletlaw11_LoserSums.l3 kq l0 t245 t247 x9_2 x10_3 = some r) ∧ Aside0 (kq ≤ k2) ∧ Aside0 (Kd.R k37 37 w' w.heap.size (fun _ => True) (.slice Ao19 t247.length co19) t247) ∧ Aside0 (Below w.heap.size w w'))
                  case atStart => exact ⟨(0), (by first | rfl | (simp; done) | (simp [*]; done)), H', ⟨Nat.le_refl _⟩, ⟨by (with_reducible repeat (first | apply Kd.R_alloc | apply Kd.R_drewN | apply Kd.R_drew)); exact HO_4.out⟩, ⟨by repeat (first | (with_reducible first | exact HB.out | apply below_alloc | apply pw_below_drewN | apply below_drew1) | exact HB.out)⟩⟩
                  case round =>
                    clear H'
                    try clear c1
                    try clear c2
                    try clear p2
                    try clear q2
                    try clear hx2
                    try clear c4
                    try clear c6
                    try clear c6b0
                    try clear c6b1
                    try clear p6
                    try clear c9
                    try clear c9b0
                    try clear c11
                    try clear c11b0
                    try clear c12
                    try clear c12b0
                    try clear c13
                    try clear c13b0
                    try clear c14
                    try clear c14b0
                    try clear c16
                    try clear c16b0
                    try clear c17
                    try clear c17b0
                    try clear c18
                    try clear c18b0
                    try clear c18b1
                    try clear c20
                    try clear c20b0
                    try clear hx251_0
                    try clear hx252_0
                    try clear hx252_1
                    try clear hx254_0
                    try clear hx254_1
                    try clear p2
                    try clear p251
                    try clear p252
                    try clear p254
                    try clear p6
                    try clear q2
                    try clear q251
                    try clear q252
                    try clear q254
                    obtain ⟨x10_3, rfl, HA, HK3, HO_4, HB⟩ := hrel
                    cases gk with
                    | zero => exact absurd HA.out (by simp [manteletlaw11_LoserSums.l3])
                    | succ k3 =>
                      have H := HA.out
                      clear HA
                      simp only [manteletlaw11_LoserSums.l3] at H
                      by_cases c21 : 0 ≤ x9_2
                      · rw [if_pos c21] at H
                        have c21b0 : decide (0 ≤ x9_2) = true := decide_eq_true c21
                        clear c21
                        by_cases c22 : x9_2 < (l0.length : Int)
                        · rw [if_pos c22] at H
                          have c22b0 : decide (x9_2 < (l0.length : Int)) = true := decide_eq_true c22
                          clear c22
                          by_cases c23 : x10_3 < ((rd_L3 l0 x9_2).length : Int)
                          · rw [if_pos c23] at H
                            have c23b0 : decide (x10_3 < ((rd_L3 l0 x9_2).length : Int)) = true := decide_eq_true c23
                            clear c23
                            by_cases c24 : 0 ≤ x10_3
                            · rw [if_pos c24] at H
                              have c24b0 : decide (0 ≤ x10_3) = true := decide_eq_true c24
                              clear c24
                              replace H := Option.bind_eq_some_iff.mp H
                              obtain ⟨t258, A250, H⟩ := H
                              replace H : (if t258 = 0 then (none) else (manteletlaw11_LoserSums.l3 k3 l0 t245 t247 x9_2 (wrap64 (x10_3 + 1)))) = some r := H
                              have A25 := Aside0.mk A250
                              clear A250
                              by_cases c26 : t258 = 0
                              · rw [if_pos c26] at H
                                exact absurd H (by simp)
                              · rw [if_neg c26] at H
                                have c26b0 : (t258 == 0) = false := beq_eq_false_iff_ne.mpr c26
                                have c26b1 : (t258 != 0) = true := bne_iff_ne.mpr c26
                                have H' := Aside0.mk H
                                clear H
                                have p255 : 0 ≤ (x9_2 : Int) := of_decide_eq_true (by first | (with_reducible assumption) | assumption)
                                have q255 : x9_2 < (l0.length : Int) := of_decide_eq_true (by first | (with_reducible assumption) | assumption)
                                obtain ⟨ad255, A255_0, c255_0, e255, hx255_0, hl255_0, hi255_0⟩ := at_L3 HR0.out x9_2 p255 q255
                                cases e255
                                replace hx255_0 := (HB.out.cell (World.block_lt_of_cell? w _ hx255_0)).trans hx255_0
                                have HR255_0 := Aside0.mk hi255_0
                                have HC255_0 := Aside0.mk hl255_0
                                clear hi255_0 hl255_0
                                replace p255 := eq_true p255
                                replace q255 := eq_true q255
                                have p256 : 0 ≤ (x9_2 : Int) := of_decide_eq_true (by first | (with_reducible assumption) | assumption)
                                have q256 : x9_2 < (l0.length : Int) := of_decide_eq_true (by first | (with_reducible assumption) | assumption)
                                obtain ⟨ad256, A256_0, c256_0, e256, hx256_0, hl256_0, hi256_0⟩ := at_L3 HR0.out x9_2 p256 q256
                                obtain rfl : ad255 = ad256 := (by injection e256)
                                replace hx256_0 := (HB.out.cell (World.block_lt_of_cell? w _ hx256_0)).trans hx256_0
                                have HR256_0 := Aside0.mk hi256_0
                                have HC256_0 := Aside0.mk hl256_0
                                clear hi256_0 hl256_0
                                replace p256 := eq_true p256
                                replace q256 := eq_true q256
                                have ea_ := Option.some.inj (hx255_0.symm.trans hx256_0)
                                injection ea_ with ea_ en_ ec_
                                subst ea_
                                subst ec_
                                clear en_
                                have p257 : 0 ≤ (x10_3 : Int) := of_decide_eq_true (by first | (with_reducible assumption) | assumption)
                                have q257 : x10_3 < ((rd_L3 l0 x9_2).length : Int) := of_decide_eq_true (by first | (with_reducible assumption) | assumption)
                                obtain ⟨ad257, e257, hx257_0, hx257_1⟩ := at_T37 HR256_0.out x10_3 p257 q257
                                cases e257
                                replace hx257_0 := (HB.out.cell (World.block_lt_of_cell? w _ hx257_0)).trans hx257_0
                                replace hx257_1 := (HB.out.cell (World.block_lt_of_cell? w _ hx257_1)).trans hx257_1
                                replace p257 := eq_true p257
                                replace q257 := eq_true q257
                                go_wp2_with (first | (go_at_call 14; (with_reducible refine (manteletref08_Get.calls k3 _ _ t247 ((rd_T37 (rd_L3 l0 x9_2) x10_3).f0) t258 _ ?side1 ?side2 A25.out).mono ?_); (case side1 => repeat (first | exact (Kd.R_reads' HO_4.out).2.2 | (with_reducible refine Kd.C_alloc ?_ _) | (with_reducible refine Kd.C_drewN ?_ _) | (with_reducible refine Kd.C_drew ?_))); (case side2 => exact (Kd.R_reads' HO_4.out).2.1); rintro e w' ⟨rfl, ⟨nd, rfl⟩⟩; (try first | exact ⟨rfl, _, World.drewN_drewN _ _ _⟩ | exact ⟨rfl, _, Eq.trans (World.drewN_drewN _ _ _) (congrArg (World.drewN _) (Nat.add_assoc _ _ _))⟩)))
                                repeat (go_quiet (first | (go_at_call 14; (with_reducible refine (manteletref08_Get.calls k3 _ _ t247 ((rd_T37 (rd_L3 l0 x9_2) x10_3).f0) t258 _ ?side1 ?side2 A25.out).mono ?_); (case side1 => repeat (first | exact (Kd.R_reads' HO_4.out).2.2 | (with_reducible refine Kd.C_alloc ?_ _) | (with_reducible refine Kd.C_drewN ?_ _) | (with_reducible refine Kd.C_drew ?_))); (case side2 => exact (Kd.R_reads' HO_4.out).2.1); rintro e w' ⟨rfl, ⟨nd, rfl⟩⟩; (try first | exact ⟨rfl, _, World.drewN_drewN _ _ _⟩ | exact ⟨rfl, _, Eq.trans (World.drewN_drewN _ _ _) (congrArg (World.drewN _) (Nat.add_assoc _ _ _))⟩))); try go_wp2_with (first | (go_at_call 14; (with_reducible refine (manteletref08_Get.calls k3 _ _ t247 ((rd_T37 (rd_L3 l0 x9_2) x10_3).f0) t258 _ ?side1 ?side2 A25.out).mono ?_); (case side1 => repeat (first | exact (Kd.R_reads' HO_4.out).2.2 | (with_reducible refine Kd.C_alloc ?_ _) | (with_reducible refine Kd.C_drewN ?_ _) | (with_reducible refine Kd.C_drew ?_))); (case side2 => exact (Kd.R_reads' HO_4.out).2.1); rintro e w' ⟨rfl, ⟨nd, rfl⟩⟩; (try first | exact ⟨rfl, _, World.drewN_drewN _ _ _⟩ | exact ⟨rfl, _, Eq.trans (World.drewN_drewN _ _ _) (congrArg (World.drewN _) (Nat.add_assoc _ _ _))⟩))))
                                go_roundg k3
                                case measure => have := HK1.out; have := HK2.out; have := HK3.out; omega
                                case rel => exact ⟨(wrap64 (x10_3 + 1)), (by first | rfl | (simp; done) | (simp [*]; done)), H', ⟨by have := HK1.out; have := HK2.out; have := HK3.out; omega⟩, ⟨by (with_reducible repeat (first | apply Kd.R_alloc | apply Kd.R_drewN | apply Kd.R_drew)); exact HO_4.out⟩, ⟨by repeat (first | (with_reducible first | exact HB.out | apply below_alloc | apply pw_below_drewN | apply below_drew1) | exact HB.out)⟩⟩
                            · rw [if_neg c24] at H
                              exact absurd H (by simp)
                          · rw [if_neg c23] at H
                            have c23b0 : decide (x10_3 < ((rd_L3 l0 x9_2).length : Int)) = false := decide_eq_false c23
                            clear c23
                            have H' := Aside0.mk H
                            clear H
                            have p255 : 0 ≤ (x9_2 : Int) := of_decide_eq_true (by first | (with_reducible assumption) | assumption)
                            have q255 : x9_2 < (l0.length : Int) := of_decide_eq_true (by first | (with_reducible assumption) | assumption)
                            obtain ⟨ad255, A255_0, c255_0, e255, hx255_0, hl255_0, hi255_0⟩ := at_L3 HR0.out x9_2 p255 q255
                            cases e255
                            replace hx255_0 := (HB.out.cell (World.block_lt_of_cell? w _ hx255_0)).trans hx255_0
                            have HR255_0 := Aside0.mk hi255_0
                            have HC255_0 := Aside0.mk hl255_0
                            clear hi255_0 hl255_0
                            replace p255 := eq_true p255
                            replace q255 := eq_true q255
                            go_wp2
                            repeat (go_quiet (fail); try go_wp2)
                            go_roundg k3
                            case measure => have := HK1.out; have := HK2.out; have := HK3.out; omega
                            case rel => exact ⟨(wrap64 (x9_2 + 1)), (by first | rfl | (simp; done) | (simp [*]; done)), H', ⟨by have := HK1.out; have := HK2.out; have := HK3.out; omega⟩, ⟨by (with_reducible repeat (first | apply Kd.R_alloc | apply Kd.R_drewN | apply Kd.R_drew)); exact HO_4.out⟩, ⟨by repeat (first | (with_reducible first | exact HB.out | apply below_alloc | apply pw_below_drewN | apply below_drew1) | exact HB.out)⟩⟩
                        · rw [if_neg c22] at H
                          exact absurd H (by simp)
                      · rw [if_neg c21] at H
                        exact absurd H (by simp)
                · rw [if_neg c20] at H
                  have c20b0 : decide (x9_2 < (l0.length : Int)) = false := decide_eq_false c20
                  clear c20
                  obtain rfl := Option.some.inj H
                  go_wp2
                  repeat (go_quiet (fail); try go_wp2)
                  go_ret
                  exact ⟨by first | rfl | (simp [errW_none, errW_some] <;> rfl) | (have e_ := Option.some.inj (A2.out.symm.trans A3.out); subst e_; rfl) | (have e_ := Option.some.inj (A2.out.symm.trans A5.out); subst e_; rfl) | (have e_ := Option.some.inj (A3.out.symm.trans A5.out); subst e_; rfl) | (have e_ := Option.some.inj (A2.out.symm.trans A15.out); subst e_; rfl) | (have e_ := Option.some.inj (A3.out.symm.trans A15.out); subst e_; rfl) | (have e_ := Option.some.inj (A5.out.symm.trans A15.out); subst e_; rfl) | (have e_ := Option.some.inj (A2.out.symm.trans A25.out); subst e_; rfl) | (have e_ := Option.some.inj (A3.out.symm.trans A25.out); subst e_; rfl) | (have e_ := Option.some.inj (A5.out.symm.trans A25.out); subst e_; rfl) | (have e_ := Option.some.inj (A15.out.symm.trans A25.out); subst e_; rfl) | (simp [*, errW_none, errW_some] <;> rfl), by repeat (first | (with_reducible first | exact HB.out | apply below_alloc | apply pw_below_drewN | apply below_drew1) | exact HB.out)⟩
    · rw [if_neg c6] at H
      have c6b0 : (t248 == 0) = false := beq_eq_false_iff_ne.mpr c6
      have c6b1 : (t248 != 0) = true := bne_iff_ne.mpr c6
      obtain rfl := Option.some.inj H
      go_enter Try.func6, Try.ntmps6
      go_wp2_with (first | (go_at_call 8; (with_reducible refine (manteletlaw11_shown.calls k  t245 _ A2.out).mono ?_); rintro e w27 ⟨rfl, hb⟩; have n0_ := Aside0.mk (below_step (by repeat (first | (with_reducible first | exact HB.out | apply below_alloc | apply pw_below_drewN | apply below_drew1) | exact HB.out)) hb); clear HB; have HB := n0_; clear n0_; (try clear hb); (try clear hb2); (try clear hk); (try clear hi)) | (go_at_call 9; (with_reducible refine (manteletlaw11_few.calls k _ _ l0 true _ ?side1 ?side2 A3.out).mono ?_); (case side1 => repeat (first | exact (Kd.C_below HR0.out HB.out) | (with_reducible refine Kd.C_alloc ?_ _) | (with_reducible refine Kd.C_drewN ?_ _) | (with_reducible refine Kd.C_drew ?_))); (case side2 => exact HC0.out); rintro e w' ⟨rfl, ⟨nd, rfl⟩⟩; (try first | exact ⟨rfl, _, World.drewN_drewN _ _ _⟩ | exact ⟨rfl, _, Eq.trans (World.drewN_drewN _ _ _) (congrArg (World.drewN _) (Nat.add_assoc _ _ _))⟩)) | (go_at_call 10; (with_reducible refine (loser_Merge.calls k _ _ l0 t247 t248 _ ?side1 ?side2 A5.out).mono ?_); (case side1 => repeat (first | exact (Kd.C_below HR0.out (by repeat (first | (with_reducible first | exact HB.out | apply below_alloc | apply pw_below_drewN | apply below_drew1) | exact HB.out))) | (with_reducible refine Kd.C_alloc ?_ _) | (with_reducible refine Kd.C_drewN ?_ _) | (with_reducible refine Kd.C_drew ?_))); (case side2 => exact HC0.out); rintro e w28 ⟨v249, rfl, ho0, hb⟩; have n0_ := Aside0.mk (Kd.R_lower ho0 (below_size (by repeat (first | (with_reducible first | exact HB.out | apply below_alloc | apply pw_below_drewN | apply below_drew1) | exact HB.out)))); have n1_ := Aside0.mk (below_step (by repeat (first | (with_reducible first | exact HB.out | apply below_alloc | apply pw_below_drewN | apply below_drew1) | exact HB.out)) hb); clear HB; have HO250 := n0_; have HB := n1_; clear n0_ n1_; (try clear hb); (try clear hb2); (try clear hk); (try clear hi); (try clear ho0)))
      repeat (go_quiet (first | (go_at_call 8; (with_reducible refine (manteletlaw11_shown.calls k  t245 _ A2.out).mono ?_); rintro e w27 ⟨rfl, hb⟩; have n0_ := Aside0.mk (below_step (by repeat (first | (with_reducible first | exact HB.out | apply below_alloc | apply pw_below_drewN | apply below_drew1) | exact HB.out)) hb); clear HB; have HB := n0_; clear n0_; (try clear hb); (try clear hb2); (try clear hk); (try clear hi)) | (go_at_call 9; (with_reducible refine (manteletlaw11_few.calls k _ _ l0 true _ ?side1 ?side2 A3.out).mono ?_); (case side1 => repeat (first | exact (Kd.C_below HR0.out HB.out) | (with_reducible refine Kd.C_alloc ?_ _) | (with_reducible refine Kd.C_drewN ?_ _) | (with_reducible refine Kd.C_drew ?_))); (case side2 => exact HC0.out); rintro e w' ⟨rfl, ⟨nd, rfl⟩⟩; (try first | exact ⟨rfl, _, World.drewN_drewN _ _ _⟩ | exact ⟨rfl, _, Eq.trans (World.drewN_drewN _ _ _) (congrArg (World.drewN _) (Nat.add_assoc _ _ _))⟩)) | (go_at_call 10; (with_reducible refine (loser_Merge.calls k _ _ l0 t247 t248 _ ?side1 ?side2 A5.out).mono ?_); (case side1 => repeat (first | exact (Kd.C_below HR0.out (by repeat (first | (with_reducible first | exact HB.out | apply below_alloc | apply pw_below_drewN | apply below_drew1) | exact HB.out))) | (with_reducible refine Kd.C_alloc ?_ _) | (with_reducible refine Kd.C_drewN ?_ _) | (with_reducible refine Kd.C_drew ?_))); (case side2 => exact HC0.out); rintro e w28 ⟨v249, rfl, ho0, hb⟩; have n0_ := Aside0.mk (Kd.R_lower ho0 (below_size (by repeat (first | (with_reducible first | exact HB.out | apply below_alloc | apply pw_below_drewN | apply below_drew1) | exact HB.out)))); have n1_ := Aside0.mk (below_step (by repeat (first | (with_reducible first | exact HB.out | apply below_alloc | apply pw_below_drewN | apply below_drew1) | exact HB.out)) hb); clear HB; have HO250 := n0_; have HB := n1_; clear n0_ n1_; (try clear hb); (try clear hb2); (try clear hk); (try clear hi); (try clear ho0))); try go_wp2_with (first | (go_at_call 8; (with_reducible refine (manteletlaw11_shown.calls k  t245 _ A2.out).mono ?_); rintro e w27 ⟨rfl, hb⟩; have n0_ := Aside0.mk (below_step (by repeat (first | (with_reducible first | exact HB.out | apply below_alloc | apply pw_below_drewN | apply below_drew1) | exact HB.out)) hb); clear HB; have HB := n0_; clear n0_; (try clear hb); (try clear hb2); (try clear hk); (try clear hi)) | (go_at_call 9; (with_reducible refine (manteletlaw11_few.calls k _ _ l0 true _ ?side1 ?side2 A3.out).mono ?_); (case side1 => repeat (first | exact (Kd.C_below HR0.out HB.out) | (with_reducible refine Kd.C_alloc ?_ _) | (with_reducible refine Kd.C_drewN ?_ _) | (with_reducible refine Kd.C_drew ?_))); (case side2 => exact HC0.out); rintro e w' ⟨rfl, ⟨nd, rfl⟩⟩; (try first | exact ⟨rfl, _, World.drewN_drewN _ _ _⟩ | exact ⟨rfl, _, Eq.trans (World.drewN_drewN _ _ _) (congrArg (World.drewN _) (Nat.add_assoc _ _ _))⟩)) | (go_at_call 10; (with_reducible refine (loser_Merge.calls k _ _ l0 t247 t248 _ ?side1 ?side2 A5.out).mono ?_); (case side1 => repeat (first | exact (Kd.C_below HR0.out (by repeat (first | (with_reducible first | exact HB.out | apply below_alloc | apply pw_below_drewN | apply below_drew1) | exact HB.out))) | (with_reducible refine Kd.C_alloc ?_ _) | (with_reducible refine Kd.C_drewN ?_ _) | (with_reducible refine Kd.C_drew ?_))); (case side2 => exact HC0.out); rintro e w28 ⟨v249, rfl, ho0, hb⟩; have n0_ := Aside0.mk (Kd.R_lower ho0 (below_size (by repeat (first | (with_reducible first | exact HB.out | apply below_alloc | apply pw_below_drewN | apply below_drew1) | exact HB.out)))); have n1_ := Aside0.mk (below_step (by repeat (first | (with_reducible first | exact HB.out | apply below_alloc | apply pw_below_drewN | apply below_drew1) | exact HB.out)) hb); clear HB; have HO250 := n0_; have HB := n1_; clear n0_ n1_; (try clear hb); (try clear hb2); (try clear hk); (try clear hi); (try clear ho0))))
      go_ret
      exact ⟨by first | rfl | (simp [errW_none, errW_some] <;> rfl) | (have e_ := Option.some.inj (A2.out.symm.trans A3.out); subst e_; rfl) | (have e_ := Option.some.inj (A2.out.symm.trans A5.out); subst e_; rfl) | (have e_ := Option.some.inj (A3.out.symm.trans A5.out); subst e_; rfl) | (have e_ := Option.some.inj (A2.out.symm.trans A15.out); subst e_; rfl) | (have e_ := Option.some.inj (A3.out.symm.trans A15.out); subst e_; rfl) | (have e_ := Option.some.inj (A5.out.symm.trans A15.out); subst e_; rfl) | (have e_ := Option.some.inj (A2.out.symm.trans A25.out); subst e_; rfl) | (have e_ := Option.some.inj (A3.out.symm.trans A25.out); subst e_; rfl) | (have e_ := Option.some.inj (A5.out.symm.trans A25.out); subst e_; rfl) | (have e_ := Option.some.inj (A15.out.symm.trans A25.out); subst e_; rfl) | (simp [*, errW_none, errW_some] <;> rfl), by repeat (first | (with_reducible first | exact HB.out | apply below_alloc | apply pw_below_drewN | apply below_drew1) | exact HB.out)⟩
  · replace c4 := Bool.eq_false_iff.mpr c4
    subst c4
    have H1 : (some t245) = some r := by rw [if_neg (show ¬ (false = true) by decide)] at H; exact H
    clear H
    have H := H1
    clear H1
    obtain rfl := Option.some.inj H
    go_enter Try.func6, Try.ntmps6
    go_wp2_with (first | (go_at_call 8; (with_reducible refine (manteletlaw11_shown.calls k  t245 _ A2.out).mono ?_); rintro e w29 ⟨rfl, hb⟩; have n0_ := Aside0.mk (below_step (by repeat (first | (with_reducible first | exact HB.out | apply below_alloc | apply pw_below_drewN | apply below_drew1) | exact HB.out)) hb); clear HB; have HB := n0_; clear n0_; (try clear hb); (try clear hb2); (try clear hk); (try clear hi)) | (go_at_call 9; (with_reducible refine (manteletlaw11_few.calls k _ _ l0 false _ ?side1 ?side2 A3.out).mono ?_); (case side1 => repeat (first | exact (Kd.C_below HR0.out HB.out) | (with_reducible refine Kd.C_alloc ?_ _) | (with_reducible refine Kd.C_drewN ?_ _) | (with_reducible refine Kd.C_drew ?_))); (case side2 => exact HC0.out); rintro e w' ⟨rfl, ⟨nd, rfl⟩⟩; (try first | exact ⟨rfl, _, World.drewN_drewN _ _ _⟩ | exact ⟨rfl, _, Eq.trans (World.drewN_drewN _ _ _) (congrArg (World.drewN _) (Nat.add_assoc _ _ _))⟩)))
    repeat (go_quiet (first | (go_at_call 8; (with_reducible refine (manteletlaw11_shown.calls k  t245 _ A2.out).mono ?_); rintro e w29 ⟨rfl, hb⟩; have n0_ := Aside0.mk (below_step (by repeat (first | (with_reducible first | exact HB.out | apply below_alloc | apply pw_below_drewN | apply below_drew1) | exact HB.out)) hb); clear HB; have HB := n0_; clear n0_; (try clear hb); (try clear hb2); (try clear hk); (try clear hi)) | (go_at_call 9; (with_reducible refine (manteletlaw11_few.calls k _ _ l0 false _ ?side1 ?side2 A3.out).mono ?_); (case side1 => repeat (first | exact (Kd.C_below HR0.out HB.out) | (with_reducible refine Kd.C_alloc ?_ _) | (with_reducible refine Kd.C_drewN ?_ _) | (with_reducible refine Kd.C_drew ?_))); (case side2 => exact HC0.out); rintro e w' ⟨rfl, ⟨nd, rfl⟩⟩; (try first | exact ⟨rfl, _, World.drewN_drewN _ _ _⟩ | exact ⟨rfl, _, Eq.trans (World.drewN_drewN _ _ _) (congrArg (World.drewN _) (Nat.add_assoc _ _ _))⟩))); try go_wp2_with (first | (go_at_call 8; (with_reducible refine (manteletlaw11_shown.calls k  t245 _ A2.out).mono ?_); rintro e w29 ⟨rfl, hb⟩; have n0_ := Aside0.mk (below_step (by repeat (first | (with_reducible first | exact HB.out | apply below_alloc | apply pw_below_drewN | apply below_drew1) | exact HB.out)) hb); clear HB; have HB := n0_; clear n0_; (try clear hb); (try clear hb2); (try clear hk); (try clear hi)) | (go_at_call 9; (with_reducible refine (manteletlaw11_few.calls k _ _ l0 false _ ?side1 ?side2 A3.out).mono ?_); (case side1 => repeat (first | exact (Kd.C_below HR0.out HB.out) | (with_reducible refine Kd.C_alloc ?_ _) | (with_reducible refine Kd.C_drewN ?_ _) | (with_reducible refine Kd.C_drew ?_))); (case side2 => exact HC0.out); rintro e w' ⟨rfl, ⟨nd, rfl⟩⟩; (try first | exact ⟨rfl, _, World.drewN_drewN _ _ _⟩ | exact ⟨rfl, _, Eq.trans (World.drewN_drewN _ _ _) (congrArg (World.drewN _) (Nat.add_assoc _ _ _))⟩))))
    go_ret
    exact ⟨by first | rfl | (simp [errW_none, errW_some] <;> rfl) | (have e_ := Option.some.inj (A2.out.symm.trans A3.out); subst e_; rfl) | (have e_ := Option.some.inj (A2.out.symm.trans A5.out); subst e_; rfl) | (have e_ := Option.some.inj (A3.out.symm.trans A5.out); subst e_; rfl) | (have e_ := Option.some.inj (A2.out.symm.trans A15.out); subst e_; rfl) | (have e_ := Option.some.inj (A3.out.symm.trans A15.out); subst e_; rfl) | (have e_ := Option.some.inj (A5.out.symm.trans A15.out); subst e_; rfl) | (have e_ := Option.some.inj (A2.out.symm.trans A25.out); subst e_; rfl) | (have e_ := Option.some.inj (A3.out.symm.trans A25.out); subst e_; rfl) | (have e_ := Option.some.inj (A5.out.symm.trans A25.out); subst e_; rfl) | (have e_ := Option.some.inj (A15.out.symm.trans A25.out); subst e_; rfl) | (simp [*, errW_none, errW_some] <;> rfl), by repeat (first | (with_reducible first | exact HB.out | apply below_alloc | apply pw_below_drewN | apply below_drew1) | exact HB.out)⟩

-- NOT PRINTED: function 7 (manteletlaw11_LoserCopies)

end Go.Proofs.Ytlngljddjlmkfaa.PLoser
