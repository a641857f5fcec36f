/- Contracts of Go functions: called with what reads as these lists and numbers, a function returns what its plain Lean function says, and leaves what was there. Written by a program of this session. -/
import Derived.Test.YtlngljddjlmkfaaPLsx0
import Derived.Test.YtlngljddjlmkfaaPLsx2
import Derived.Test.YtlngljddjlmkfaaPLsx3
import Derived.Test.YtlngljddjlmkfaaPLsx4
namespace Go.Proofs.Ytlngljddjlmkfaa.PLs
open Go.RowKit Go.Proofs.YtlngljddjlmkfaaW.PrintWords Go.Proofs.YtlngljddjlmkfaaW.PrintLast Go.Proofs.YtlngljddjlmkfaaW.PrintMore
attribute [local go_sem] max2_int min2_int max_two min_two max_three min_three max_four min_four   -- for this text's walks alone
attribute [local go_sem] Go.Proofs.Ytlngljddjlmkfaa.MoreWords.str_leq Go.Proofs.Ytlngljddjlmkfaa.MoreWords.str_gtr Go.Proofs.Ytlngljddjlmkfaa.MoreWords.str_geq
set_option linter.unusedVariables false
set_option linter.unusedSimpArgs false

/-! ### manteletlaw11_LoserCopies: function 7 -/
mutual
def manteletlaw11_LoserCopies.j0 : Nat → List (S37) → Int → Bool → Bool → Option (Bool)
  | 0, _, _, _, _ => none
  | k + 1, x0, x1, x5, x22 => if x22 = true then (some x5) else (manteletlaw11_LoserCopies.l0 k x0 x5 (wrap64 (Int.tmod x1 20)) ([] : List (List (S37))) 0)
def manteletlaw11_LoserCopies.l0 : Nat → List (S37) → Bool → Int → List (List (S37)) → Int → Option (Bool)
  | 0, _, _, _, _, _ => none
  | k + 1, x0, x5, x6, x7, x8 => if x8 < x6 then (if x7.length < 5864062014805 then (manteletlaw11_LoserCopies.l0 k x0 x5 x6 (x7 ++ [x0]) (wrap64 (x8 + 1))) else (none)) else ((loser_Merge.f k x7).bind fun bt161 => (manteletlaw11_LoserCopies.l1 k x0 x5 x6 bt161.1 bt161.2 true 0))
def manteletlaw11_LoserCopies.l1 : Nat → List (S37) → Bool → Int → List (S37) → Int → Bool → Int → Option (Bool)
  | 0, _, _, _, _, _, _, _ => none
  | k + 1, x0, x5, x6, x9, x10, x11, x12 => if x12 < (x0.length : Int) then (if x11 = true then (if x6 = 0 then (manteletlaw11_LoserCopies.l1 k x0 x5 x6 x9 x10 true (wrap64 (x12 + 1))) else (if 0 ≤ x12 then (if (IntKind.u64.wrap (x6)) = 0 then (none) else (manteletlaw11_LoserCopies.l1 k x0 x5 x6 x9 x10 (decide (((rd_T37 x0 x12).f1) ≤ (IntKind.u64.wrap ((4611686018427387904 : Int) / (IntKind.u64.wrap (x6)))))) (wrap64 (x12 + 1)))) else (none))) else (manteletlaw11_LoserCopies.l1 k x0 x5 x6 x9 x10 false (wrap64 (x12 + 1)))) else (if x11 = true then (if x6 = 0 then (if x5 = true then (if x10 = 0 then (some ((x9.length : Int) == 0)) else (none)) else (none)) else (if x10 = 0 then (manteletlaw11_LoserCopies.j3 k x0 x5 x6 x9 ((x9.length : Int) != (x0.length : Int))) else (manteletlaw11_LoserCopies.j3 k x0 x5 x6 x9 true))) else (if x5 = true then (if x10 = 5 then (some ((x9.length : Int) == 0)) else (none)) else (none)))
def manteletlaw11_LoserCopies.j3 : Nat → List (S37) → Bool → Int → List (S37) → Bool → Option (Bool)
  | 0, _, _, _, _, _ => none
  | k + 1, x0, x5, x6, x9, x95 => if x95 = true then (none) else (manteletlaw11_LoserCopies.l2 k x0 x5 x6 x9 0)
def manteletlaw11_LoserCopies.l2 : Nat → List (S37) → Bool → Int → List (S37) → Int → Option (Bool)
  | 0, _, _, _, _, _ => none
  | k + 1, x0, x5, x6, x9, x13 => if x13 < (x0.length : Int) then (if 0 ≤ x13 then (if x13 < (x9.length : Int) then (if ((rd_T37 x9 x13).f0).toList = ((rd_T37 x0 x13).f0).toList then (if ((rd_T37 x9 x13).f1) = (IntKind.u64.wrap ((IntKind.u64.wrap (x6)) * ((rd_T37 x0 x13).f1))) then (manteletlaw11_LoserCopies.l2 k x0 x5 x6 x9 (wrap64 (x13 + 1))) else (none)) else (none)) else (none)) else (none)) else (some x5)
end
def manteletlaw11_LoserCopies.f (k : Nat) (l0 : List (S37)) (a1 : Int) : Option (Bool) := (manteletlaw11_shown.f k).bind fun t156 => (if (l0.length : Int) > 60 then (manteletlaw11_LoserCopies.j0 k l0 a1 t156 true) else ((run_May.f k l0).bind fun t157 => (manteletlaw11_LoserCopies.j0 k l0 a1 t156 (t157 != 0))))
theorem manteletlaw11_LoserCopies.mono_l : ∀ k, (∀ y0 y1 y2 y3, LeO (manteletlaw11_LoserCopies.j0 k y0 y1 y2 y3) (manteletlaw11_LoserCopies.j0 (k + 1) y0 y1 y2 y3)) ∧ (∀ y0 y1 y2 y3 y4, LeO (manteletlaw11_LoserCopies.l0 k y0 y1 y2 y3 y4) (manteletlaw11_LoserCopies.l0 (k + 1) y0 y1 y2 y3 y4)) ∧ (∀ y0 y1 y2 y3 y4 y5 y6, LeO (manteletlaw11_LoserCopies.l1 k y0 y1 y2 y3 y4 y5 y6) (manteletlaw11_LoserCopies.l1 (k + 1) y0 y1 y2 y3 y4 y5 y6)) ∧ (∀ y0 y1 y2 y3 y4, LeO (manteletlaw11_LoserCopies.j3 k y0 y1 y2 y3 y4) (manteletlaw11_LoserCopies.j3 (k + 1) y0 y1 y2 y3 y4)) ∧ (∀ y0 y1 y2 y3 y4, LeO (manteletlaw11_LoserCopies.l2 k y0 y1 y2 y3 y4) (manteletlaw11_LoserCopies.l2 (k + 1) y0 y1 y2 y3 y4))
  | 0 => ⟨fun _ _ _ _ r h => by simp [manteletlaw11_LoserCopies.j0] at h, fun _ _ _ _ _ r h => by simp [manteletlaw11_LoserCopies.l0] at h, fun _ _ _ _ _ _ _ r h => by simp [manteletlaw11_LoserCopies.l1] at h, fun _ _ _ _ _ r h => by simp [manteletlaw11_LoserCopies.j3] at h, fun _ _ _ _ _ r h => by simp [manteletlaw11_LoserCopies.l2] at h⟩
  | k + 1 => by
    obtain ⟨ih0, ih1, ih2, ih3, ih4⟩ := manteletlaw11_LoserCopies.mono_l k
    refine ⟨?_, ?_, ?_, ?_, ?_⟩
    · intro y0 y1 y2 y3
      unfold manteletlaw11_LoserCopies.j0
      repeat' first
      | (with_reducible exact ih0 _ _ _ _)
      | (with_reducible exact ih1 _ _ _ _ _)
      | (with_reducible exact ih2 _ _ _ _ _ _ _)
      | (with_reducible exact ih3 _ _ _ _ _)
      | (with_reducible exact ih4 _ _ _ _ _)
      | (with_reducible exact loser_Merge.mono _ _)
      | (with_reducible exact manteletlaw11_shown.mono _)
      | (with_reducible exact run_May.mono _ _)
      | (with_reducible exact LeO.refl _)
      | (with_reducible exact LeO.none _)
      | (with_reducible refine LeO.ite ?_ ?_)
      | (with_reducible refine LeO.bind ?_ (fun _ => ?_))
      | exact ih0 _ _ _ _
      | exact ih1 _ _ _ _ _
      | exact ih2 _ _ _ _ _ _ _
      | exact ih3 _ _ _ _ _
      | exact ih4 _ _ _ _ _
      | exact loser_Merge.mono _ _
      | exact manteletlaw11_shown.mono _
      | exact run_May.mono _ _
      | exact LeO.none _
      | refine LeO.ite ?_ ?_
      | refine LeO.bind ?_ (fun _ => ?_)
    · intro y0 y1 y2 y3 y4
      unfold manteletlaw11_LoserCopies.l0
      repeat' first
      | (with_reducible exact ih0 _ _ _ _)
      | (with_reducible exact ih1 _ _ _ _ _)
      | (with_reducible exact ih2 _ _ _ _ _ _ _)
      | (with_reducible exact ih3 _ _ _ _ _)
      | (with_reducible exact ih4 _ _ _ _ _)
      | (with_reducible exact loser_Merge.mono _ _)
      | (with_reducible exact manteletlaw11_shown.mono _)
      | (with_reducible exact run_May.mono _ _)
      | (with_reducible exact LeO.refl _)
      | (with_reducible exact LeO.none _)
      | (with_reducible refine LeO.ite ?_ ?_)
      | (with_reducible refine LeO.bind ?_ (fun _ => ?_))
      | exact ih0 _ _ _ _
      | exact ih1 _ _ _ _ _
      | exact ih2 _ _ _ _ _ _ _
      | exact ih3 _ _ _ _ _
      | exact ih4 _ _ _ _ _
      | exact loser_Merge.mono _ _
      | exact manteletlaw11_shown.mono _
      | exact run_May.mono _ _
      | exact LeO.none _
      | refine LeO.ite ?_ ?_
      | refine LeO.bind ?_ (fun _ => ?_)
    · intro y0 y1 y2 y3 y4 y5 y6
      unfold manteletlaw11_LoserCopies.l1
      repeat' first
      | (with_reducible exact ih0 _ _ _ _)
      | (with_reducible exact ih1 _ _ _ _ _)
      | (with_reducible exact ih2 _ _ _ _ _ _ _)
      | (with_reducible exact ih3 _ _ _ _ _)
      | (with_reducible exact ih4 _ _ _ _ _)
      | (with_reducible exact loser_Merge.mono _ _)
      | (with_reducible exact manteletlaw11_shown.mono _)
      | (with_reducible exact run_May.mono _ _)
      | (with_reducible exact LeO.refl _)
      | (with_reducible exact LeO.none _)
      | (with_reducible refine LeO.ite ?_ ?_)
      | (with_reducible refine LeO.bind ?_ (fun _ => ?_))
      | exact ih0 _ _ _ _
      | exact ih1 _ _ _ _ _
      | exact ih2 _ _ _ _ _ _ _
      | exact ih3 _ _ _ _ _
      | exact ih4 _ _ _ _ _
      | exact loser_Merge.mono _ _
      | exact manteletlaw11_shown.mono _
      | exact run_May.mono _ _
      | exact LeO.none _
      | refine LeO.ite ?_ ?_
      | refine LeO.bind ?_ (fun _ => ?_)
    · intro y0 y1 y2 y3 y4
      unfold manteletlaw11_LoserCopies.j3
      repeat' first
      | (with_reducible exact ih0 _ _ _ _)
      | (with_reducible exact ih1 _ _ _ _ _)
      | (with_reducible exact ih2 _ _ _ _ _ _ _)
      | (with_reducible exact ih3 _ _ _ _ _)
      | (with_reducible exact ih4 _ _ _ _ _)
      | (with_reducible exact loser_Merge.mono _ _)
      | (with_reducible exact manteletlaw11_shown.mono _)
      | (with_reducible exact run_May.mono _ _)
      | (with_reducible exact LeO.refl _)
      | (with_reducible exact LeO.none _)
      | (with_reducible refine LeO.ite ?_ ?_)
      | (with_reducible refine LeO.bind ?_ (fun _ => ?_))
      | exact ih0 _ _ _ _
      | exact ih1 _ _ _ _ _
      | exact ih2 _ _ _ _ _ _ _
      | exact ih3 _ _ _ _ _
      | exact ih4 _ _ _ _ _
      | exact loser_Merge.mono _ _
      | exact manteletlaw11_shown.mono _
      | exact run_May.mono _ _
      | exact LeO.none _
      | refine LeO.ite ?_ ?_
      | refine LeO.bind ?_ (fun _ => ?_)
    · intro y0 y1 y2 y3 y4
      unfold manteletlaw11_LoserCopies.l2
      repeat' first
      | (with_reducible exact ih0 _ _ _ _)
      | (with_reducible exact ih1 _ _ _ _ _)
      | (with_reducible exact ih2 _ _ _ _ _ _ _)
      | (with_reducible exact ih3 _ _ _ _ _)
      | (with_reducible exact ih4 _ _ _ _ _)
      | (with_reducible exact loser_Merge.mono _ _)
      | (with_reducible exact manteletlaw11_shown.mono _)
      | (with_reducible exact run_May.mono _ _)
      | (with_reducible exact LeO.refl _)
      | (with_reducible exact LeO.none _)
      | (with_reducible refine LeO.ite ?_ ?_)
      | (with_reducible refine LeO.bind ?_ (fun _ => ?_))
      | exact ih0 _ _ _ _
      | exact ih1 _ _ _ _ _
      | exact ih2 _ _ _ _ _ _ _
      | exact ih3 _ _ _ _ _
      | exact ih4 _ _ _ _ _
      | exact loser_Merge.mono _ _
      | exact manteletlaw11_shown.mono _
      | exact run_May.mono _ _
      | exact LeO.none _
      | refine LeO.ite ?_ ?_
      | refine LeO.bind ?_ (fun _ => ?_)
theorem manteletlaw11_LoserCopies.mono : ∀ a0 a1 k, LeO (manteletlaw11_LoserCopies.f k a0 a1) (manteletlaw11_LoserCopies.f (k + 1) a0 a1) := by
  intro a0 a1 k
  obtain ⟨ih0, ih1, ih2, ih3, ih4⟩ := manteletlaw11_LoserCopies.mono_l k
  unfold manteletlaw11_LoserCopies.f
  repeat' first
      | (with_reducible exact ih0 _ _ _ _)
      | (with_reducible exact ih1 _ _ _ _ _)
      | (with_reducible exact ih2 _ _ _ _ _ _ _)
      | (with_reducible exact ih3 _ _ _ _ _)
      | (with_reducible exact ih4 _ _ _ _ _)
      | (with_reducible exact loser_Merge.mono _ _)
      | (with_reducible exact manteletlaw11_shown.mono _)
      | (with_reducible exact run_May.mono _ _)
      | (with_reducible exact LeO.refl _)
      | (with_reducible exact LeO.none _)
      | (with_reducible refine LeO.ite ?_ ?_)
      | (with_reducible refine LeO.bind ?_ (fun _ => ?_))
      | exact ih0 _ _ _ _
      | exact ih1 _ _ _ _ _
      | exact ih2 _ _ _ _ _ _ _
      | exact ih3 _ _ _ _ _
      | exact ih4 _ _ _ _ _
      | exact loser_Merge.mono _ _
      | exact manteletlaw11_shown.mono _
      | exact run_May.mono _ _
      | exact LeO.none _
      | refine LeO.ite ?_ ?_
      | refine LeO.bind ?_ (fun _ => ?_)
set_option maxHeartbeats 8000000 in
set_option maxRecDepth 100000 in
theorem manteletlaw11_LoserCopies.calls (k : Nat) (P0_ : Nat → Prop) (A0 : Option Addr) (c0 : Nat) (l0 : List (S37)) (a1 : Int) (r : Bool) (w : World) (hs0 : Kd.V k37 37 w w.heap.size (fun k_ => P0_ k_) (.slice A0 l0.length c0) l0) (h : manteletlaw11_LoserCopies.f k l0 a1 = some r) :
    Calls Try.prog 7 #[.slice A0 l0.length c0, .int .u8 a1] w fun e w' => e = .returned (.bool r) ∧ Below w.heap.size w w' := by
  have HO0 := Aside0.mk (show Kd.V k37 37 w w.heap.size (fun k_ => (P0_ k_ ∨ w.heap.size ≤ k_)) (.slice A0 l0.length c0) l0 from Kd.V_mono hs0 (fun k_ hk => .inl hk))
  have HB := Aside0.mk (Below.refl w.heap.size w)
  have H : ((manteletlaw11_shown.f k).bind fun t156 => (if (l0.length : Int) > 60 then (manteletlaw11_LoserCopies.j0 k l0 a1 t156 true) else ((run_May.f k l0).bind fun t157 => (manteletlaw11_LoserCopies.j0 k l0 a1 t156 (t157 != 0))))) = some r := h
  clear h
  replace H := Option.bind_eq_some_iff.mp H
  obtain ⟨t156, A30, H⟩ := H
  replace H : (if (l0.length : Int) > 60 then (manteletlaw11_LoserCopies.j0 k l0 a1 t156 true) else ((run_May.f k l0).bind fun t157 => (manteletlaw11_LoserCopies.j0 k l0 a1 t156 (t157 != 0)))) = some r := H
  have A3 := Aside0.mk A30
  clear A30
  have HC4 := Aside0.mk H
  clear H
  go_enter Try.func7, Try.ntmps7
  go_upto_region 2 with (first | (go_at_call 8; (with_reducible refine (manteletlaw11_shown.calls k  t156 _ A3.out).mono ?_); rintro e w5 ⟨rfl, hb⟩; have n0_ := Aside0.mk (Kd.V_below (by (with_reducible repeat (first | apply Kd.V_alloc | apply Kd.V_drewN | apply Kd.V_drew)); exact HO0.out) hb); have n1_ := Aside0.mk (below_step (by repeat (first | (with_reducible first | exact HB.out | apply below_alloc | apply pw_below_drewN | apply below_drew1) | exact HB.out)) hb); clear HO0; clear HB; have HO0 := n0_; have HB := n1_; clear n0_ n1_; (try clear hb); (try clear hb2); (try clear hk); (try clear hi)))
  repeat (go_quiet (first | (go_at_call 8; (with_reducible refine (manteletlaw11_shown.calls k  t156 _ A3.out).mono ?_); rintro e w5 ⟨rfl, hb⟩; have n0_ := Aside0.mk (Kd.V_below (by (with_reducible repeat (first | apply Kd.V_alloc | apply Kd.V_drewN | apply Kd.V_drew)); exact HO0.out) hb); have n1_ := Aside0.mk (below_step (by repeat (first | (with_reducible first | exact HB.out | apply below_alloc | apply pw_below_drewN | apply below_drew1) | exact HB.out)) hb); clear HO0; clear HB; have HO0 := n0_; have HB := n1_; clear n0_ n1_; (try clear hb); (try clear hb2); (try clear hk); (try clear hi))); go_upto_region 2 with (first | (go_at_call 8; (with_reducible refine (manteletlaw11_shown.calls k  t156 _ A3.out).mono ?_); rintro e w5 ⟨rfl, hb⟩; have n0_ := Aside0.mk (Kd.V_below (by (with_reducible repeat (first | apply Kd.V_alloc | apply Kd.V_drewN | apply Kd.V_drew)); exact HO0.out) hb); have n1_ := Aside0.mk (below_step (by repeat (first | (with_reducible first | exact HB.out | apply below_alloc | apply pw_below_drewN | apply below_drew1) | exact HB.out)) hb); clear HO0; clear HB; have HO0 := n0_; have HB := n1_; clear n0_ n1_; (try clear hb); (try clear hb2); (try clear hk); (try clear hi))))
  (try simp only [Act.put, List.setIfInBounds_toArray, List.set_cons_zero, List.set_cons_succ])
  go_cut [22] (fun v22 wc => ∃ (kq : Nat) (x22_3 : Bool), v22 = .bool x22_3 ∧ Aside0 (manteletlaw11_LoserCopies.j0 kq l0 a1 t156 x22_3 = some r) ∧ Aside0 (kq ≤ k) ∧ Aside0 (Kd.V k37 37 wc w.heap.size (fun k_ => (P0_ k_ ∨ w.heap.size ≤ k_)) (.slice A0 l0.length c0) l0) ∧ Aside0 (Below w.heap.size w wc))
  case first =>
    have H := HC4.out
    clear HC4
    by_cases c6 : (l0.length : Int) > 60
    · rw [if_pos c6] at H
      have c6b0 : decide (60 < (l0.length : Int)) = true := decide_eq_true c6
      have c6b1 : decide (60 < l0.length) = true := decide_eq_true (by omega)
      clear c6
      (first | rw [c6b0] | (simp only [i64_w, i32_w]; rw [c6b0]) | skip)
      have H' := Aside0.mk H
      clear H
      go_wp2
      repeat (go_quiet (fail); try go_wp2)
      go_meet
      case rel => exact ⟨_, (true), (by first | rfl | (simp; done) | (simp [*]; done) | (simp [show ∀ b : Int, Int.tdiv 4611686018427387904 b = 4611686018427387904 / b from fun b => Int.tdiv_eq_ediv_of_nonneg (by decide)]; done)), H', ⟨by first | omega | exact Nat.le_refl _⟩, ⟨by (with_reducible repeat (first | apply Kd.V_alloc | apply Kd.V_drewN | apply Kd.V_drew)); exact HO0.out⟩, ⟨by repeat (first | (with_reducible first | exact HB.out | apply below_alloc | apply pw_below_drewN | apply below_drew1) | exact HB.out)⟩⟩
    · rw [if_neg c6] at H
      have c6b0 : decide (60 < (l0.length : Int)) = false := decide_eq_false c6
      have c6b1 : decide (60 < l0.length) = false := decide_eq_false (by omega)
      clear c6
      (first | rw [c6b0] | (simp only [i64_w, i32_w]; rw [c6b0]) | skip)
      replace H := Option.bind_eq_some_iff.mp H
      obtain ⟨t157, A70, H⟩ := H
      replace H : (manteletlaw11_LoserCopies.j0 k l0 a1 t156 (t157 != 0)) = some r := H
      have A7 := Aside0.mk A70
      clear A70
      have H' := Aside0.mk H
      clear H
      go_wp2_with (first | (go_at_call 13; (with_reducible refine (run_May.calls k _ _ l0 t157 _ ?side1 ?side2 A7.out).mono ?_); (case side1 => repeat (first | exact (Kd.V_reads' HO0.out).2.2 | (with_reducible refine Kd.C_alloc ?_ _) | (with_reducible refine Kd.C_drewN ?_ _) | (with_reducible refine Kd.C_drew ?_))); (case side2 => exact (Kd.V_reads' HO0.out).2.1); rintro e w8 ⟨rfl, hb⟩; have n0_ := Aside0.mk (Kd.V_below (by (with_reducible repeat (first | apply Kd.V_alloc | apply Kd.V_drewN | apply Kd.V_drew)); exact HO0.out) hb); have n1_ := Aside0.mk (below_step (by repeat (first | (with_reducible first | exact HB.out | apply below_alloc | apply pw_below_drewN | apply below_drew1) | exact HB.out)) hb); clear HO0; clear HB; have HO0 := n0_; have HB := n1_; clear n0_ n1_; (try clear hb); (try clear hb2); (try clear hk); (try clear hi)))
      repeat (go_quiet (first | (go_at_call 13; (with_reducible refine (run_May.calls k _ _ l0 t157 _ ?side1 ?side2 A7.out).mono ?_); (case side1 => repeat (first | exact (Kd.V_reads' HO0.out).2.2 | (with_reducible refine Kd.C_alloc ?_ _) | (with_reducible refine Kd.C_drewN ?_ _) | (with_reducible refine Kd.C_drew ?_))); (case side2 => exact (Kd.V_reads' HO0.out).2.1); rintro e w8 ⟨rfl, hb⟩; have n0_ := Aside0.mk (Kd.V_below (by (with_reducible repeat (first | apply Kd.V_alloc | apply Kd.V_drewN | apply Kd.V_drew)); exact HO0.out) hb); have n1_ := Aside0.mk (below_step (by repeat (first | (with_reducible first | exact HB.out | apply below_alloc | apply pw_below_drewN | apply below_drew1) | exact HB.out)) hb); clear HO0; clear HB; have HO0 := n0_; have HB := n1_; clear n0_ n1_; (try clear hb); (try clear hb2); (try clear hk); (try clear hi))); try go_wp2_with (first | (go_at_call 13; (with_reducible refine (run_May.calls k _ _ l0 t157 _ ?side1 ?side2 A7.out).mono ?_); (case side1 => repeat (first | exact (Kd.V_reads' HO0.out).2.2 | (with_reducible refine Kd.C_alloc ?_ _) | (with_reducible refine Kd.C_drewN ?_ _) | (with_reducible refine Kd.C_drew ?_))); (case side2 => exact (Kd.V_reads' HO0.out).2.1); rintro e w8 ⟨rfl, hb⟩; have n0_ := Aside0.mk (Kd.V_below (by (with_reducible repeat (first | apply Kd.V_alloc | apply Kd.V_drewN | apply Kd.V_drew)); exact HO0.out) hb); have n1_ := Aside0.mk (below_step (by repeat (first | (with_reducible first | exact HB.out | apply below_alloc | apply pw_below_drewN | apply below_drew1) | exact HB.out)) hb); clear HO0; clear HB; have HO0 := n0_; have HB := n1_; clear n0_ n1_; (try clear hb); (try clear hb2); (try clear hk); (try clear hi))))
      go_meet
      case rel => exact ⟨_, ((t157 != 0)), (by first | rfl | (simp; done) | (simp [*]; done) | (simp [show ∀ b : Int, Int.tdiv 4611686018427387904 b = 4611686018427387904 / b from fun b => Int.tdiv_eq_ediv_of_nonneg (by decide)]; done)), H', ⟨by first | omega | exact Nat.le_refl _⟩, ⟨by (with_reducible repeat (first | apply Kd.V_alloc | apply Kd.V_drewN | apply Kd.V_drew)); exact HO0.out⟩, ⟨by repeat (first | (with_reducible first | exact HB.out | apply below_alloc | apply pw_below_drewN | apply below_drew1) | exact HB.out)⟩⟩
  case rest =>
    clear HC4
    try clear p2
    try clear c6
    try clear c6b0
    try clear c6b1
    try clear c7
    obtain ⟨kq, x22_3, rfl, HA, HJ3, HO_0, HB⟩ := hcut
    cases kq with
    | zero => exact absurd HA.out (by simp [manteletlaw11_LoserCopies.j0])
    | succ kj3 =>
      have H := HA.out
      clear HA
      simp only [manteletlaw11_LoserCopies.j0] at H
      by_cases c9 : x22_3 = true
      · subst c9
        have H1 : (some t156) = some r := by rw [if_pos rfl] at H; exact H
        clear H
        have H := H1
        clear H1
        obtain rfl := Option.some.inj H
        go_wp2
        repeat (go_quiet (fail); try go_wp2)
        go_ret
        exact ⟨by first | rfl | (simp [errW_none, errW_some] <;> rfl) | (have e_ := Option.some.inj (A3.out.symm.trans A7.out); subst e_; rfl) | (simp [*, errW_none, errW_some] <;> rfl), by repeat (first | (with_reducible first | exact HB.out | apply below_alloc | apply pw_below_drewN | apply below_drew1) | exact HB.out)⟩
      · replace c9 := Bool.eq_false_iff.mpr c9
        subst c9
        have H1 : (manteletlaw11_LoserCopies.l0 kj3 l0 t156 (wrap64 (Int.tmod a1 20)) ([] : List (List (S37))) 0) = some r := by rw [if_neg (show ¬ (false = true) by decide)] at H; exact H
        clear H
        have H := H1
        clear H1
        have H' := Aside0.mk H
        clear H
        go_wp2
        repeat (go_quiet (fail); try go_wp2)
        go_loopg [7, 8] kj3 (fun kq v7 v8 w' => ∃ (x7_2 : List (List (S37))) (x8_2 : Int), v8 = .int .i64 x8_2 ∧ Aside0 (manteletlaw11_LoserCopies.l0 kq l0 t156 (wrap64 (Int.tmod a1 20)) x7_2 x8_2 = some r) ∧ Aside0 (kq ≤ kj3) ∧ Aside0 (Kd.V k37 37 w' w.heap.size (fun k_ => (P0_ k_ ∨ w.heap.size ≤ k_) ∧ some k_ ≠ (v7 : Value).ownBlock) (.slice A0 l0.length c0) l0) ∧ Aside0 (Kd.N (Kd.slice 37 k37) 25 w' w.heap.size (fun k_ => (P0_ k_ ∨ w.heap.size ≤ k_)) v7 x7_2) ∧ Aside0 (Below w.heap.size w w'))
        case atStart => exact ⟨(([] : List (List (S37)))), (0), (by first | rfl | (simp; done) | (simp [*]; done) | (simp [show ∀ b : Int, Int.tdiv 4611686018427387904 b = 4611686018427387904 / b from fun b => Int.tdiv_eq_ediv_of_nonneg (by decide)]; done)), H', ⟨Nat.le_refl _⟩, ⟨by (with_reducible repeat (first | apply Kd.V_alloc | apply Kd.V_drewN | apply Kd.V_drew)); exact Kd.V_mono HO_0.out (fun _ hk => ⟨hk, (by simp [Value.ownBlock])⟩)⟩, ⟨by first | exact Kd.S_nil _ _ _ _ _ | exact Kd.N_nil _ _ _ _ _ | exact Kd.V_nil _ _ _ _ _ | exact Kd.Q_nil _ _ _ _ _ | exact Kd.R_nil _ _ _ _ _⟩, ⟨by repeat (first | (with_reducible first | exact HB.out | apply below_alloc | apply pw_below_drewN | apply below_drew1) | exact HB.out)⟩⟩
        case round =>
          clear H'
          try clear p2
          try clear c6
          try clear c6b0
          try clear c6b1
          try clear p6
          try clear c7
          try clear c9
          try clear p2
          obtain ⟨x7_2, x8_2, rfl, HA, HK2, HO_0, HO_7, HB⟩ := hrel
          cases gk with
          | zero => exact absurd HA.out (by simp [manteletlaw11_LoserCopies.l0])
          | succ k2 =>
            have H := HA.out
            clear HA
            simp only [manteletlaw11_LoserCopies.l0] at H
            by_cases c10 : x8_2 < (wrap64 (Int.tmod a1 20))
            · rw [if_pos c10] at H
              have c10b0 : decide (x8_2 < (wrap64 (Int.tmod a1 20))) = true := decide_eq_true c10
              clear c10
              by_cases c11 : x7_2.length < 5864062014805
              · rw [if_pos c11] at H
                have LMc11 := Aside0.mk c11
                clear c11
                obtain ⟨y158, hy158⟩ : ∃ y_ : List (List (S37)), y_ = (x7_2 ++ [l0]) := ⟨_, rfl⟩
                replace H : (manteletlaw11_LoserCopies.l0 k2 l0 t156 (wrap64 (Int.tmod a1 20)) y158 (wrap64 (x8_2 + 1))) = some r := by first | (rw [hy158]; with_reducible exact H) | (have H2_ := (Option.bind_some _ _).symm.trans H; rw [hy158]; with_reducible exact H2_) | (have H2_ := (Option.bind_some _ _).symm.trans H; with_reducible exact H2_) | with_reducible exact H | (rw [hy158]; exact H) | exact H
                have Ny158 := Aside0.mk hy158
                clear hy158
                have H' := Aside0.mk H
                clear H
                go_wp2_with (first | ((with_reducible refine gate_builtin (b := .append) (xs := #[.tmp 32, .tmp 34]) rfl ?_); (try (refine gate_guard (by rfl) ?_; dsimp only)); at_builtin; refine Kd.N_append (Kd.slice 37 k37) (w0 := w) w.heap.size rfl (.tmp 32) (.tmp 34) 22 25 (.slice none 0 0) 24 rfl Try.underlying22 info25 rfl (by decide) (by omega) u7 x7_2 l0 [.slice A0 l0.length c0] (fun k_ => (P0_ k_ ∨ w.heap.size ≤ k_)) (fun k_ => ((fun k_ => (P0_ k_ ∨ w.heap.size ≤ k_))) k_ ∧ some k_ ≠ (u7 : Value).ownBlock) rfl rfl ?aP (fun _ hk => hk) ?aF ?aO ?aB ?aS ?aL ?_; (case aP => exact (Kd.FK_slice_mk (Kd.V_reads' (Kd.V_mono (ok' := (fun k_ => ((fun k_ => (P0_ k_ ∨ w.heap.size ≤ k_))) k_ ∧ some k_ ≠ (u7 : Value).ownBlock)) (HO_0.out) (fun k_ hk => ⟨hk.1, hk.2⟩))).2.1 (Kd.V_F (Kd.V_mono (ok' := (fun k_ => ((fun k_ => (P0_ k_ ∨ w.heap.size ≤ k_))) k_ ∧ some k_ ≠ (u7 : Value).ownBlock)) (HO_0.out) (fun k_ hk => ⟨hk.1, hk.2⟩))))); (case aB => exact (by repeat (first | (with_reducible first | exact HB.out | apply below_alloc | apply pw_below_drewN | apply below_drew1) | exact HB.out))); (case aF => exact (fun k_ hk => (.inr (Nat.le_trans (below_size (by repeat (first | (with_reducible first | exact HB.out | apply below_alloc | apply pw_below_drewN | apply below_drew1) | exact HB.out))) hk)))); (case aO => exact (by (with_reducible repeat (first | apply Kd.N_alloc | apply Kd.N_drewN | apply Kd.N_drew)); exact HO_7.out)); (case aS => exact (below_size (by repeat (first | (with_reducible first | exact HB.out | apply below_alloc | apply pw_below_drewN | apply below_drew1) | exact HB.out)))); (case aL => have := LMc11.out; omega); intro v159 w12 ho hb hg hat; rw [← Ny158.out] at ho; have n0_ := Aside0.mk (Kd.V_afterv (ok := (fun k_ => (P0_ k_ ∨ w.heap.size ≤ k_))) (by (with_reducible repeat (first | apply Kd.V_alloc | apply Kd.V_drewN | apply Kd.V_drew)); exact HO_0.out) hg hat); have n1_ := Aside0.mk (hb); have n2_ := Aside0.mk (ho); clear HO_0; clear HB; clear HO_7; have HO_0 := n0_; have HB := n1_; have HO160 := n2_; clear n0_ n1_ n2_; clear ho hb hg hat))
                repeat (go_quiet (first | ((with_reducible refine gate_builtin (b := .append) (xs := #[.tmp 32, .tmp 34]) rfl ?_); (try (refine gate_guard (by rfl) ?_; dsimp only)); at_builtin; refine Kd.N_append (Kd.slice 37 k37) (w0 := w) w.heap.size rfl (.tmp 32) (.tmp 34) 22 25 (.slice none 0 0) 24 rfl Try.underlying22 info25 rfl (by decide) (by omega) u7 x7_2 l0 [.slice A0 l0.length c0] (fun k_ => (P0_ k_ ∨ w.heap.size ≤ k_)) (fun k_ => ((fun k_ => (P0_ k_ ∨ w.heap.size ≤ k_))) k_ ∧ some k_ ≠ (u7 : Value).ownBlock) rfl rfl ?aP (fun _ hk => hk) ?aF ?aO ?aB ?aS ?aL ?_; (case aP => exact (Kd.FK_slice_mk (Kd.V_reads' (Kd.V_mono (ok' := (fun k_ => ((fun k_ => (P0_ k_ ∨ w.heap.size ≤ k_))) k_ ∧ some k_ ≠ (u7 : Value).ownBlock)) (HO_0.out) (fun k_ hk => ⟨hk.1, hk.2⟩))).2.1 (Kd.V_F (Kd.V_mono (ok' := (fun k_ => ((fun k_ => (P0_ k_ ∨ w.heap.size ≤ k_))) k_ ∧ some k_ ≠ (u7 : Value).ownBlock)) (HO_0.out) (fun k_ hk => ⟨hk.1, hk.2⟩))))); (case aB => exact (by repeat (first | (with_reducible first | exact HB.out | apply below_alloc | apply pw_below_drewN | apply below_drew1) | exact HB.out))); (case aF => exact (fun k_ hk => (.inr (Nat.le_trans (below_size (by repeat (first | (with_reducible first | exact HB.out | apply below_alloc | apply pw_below_drewN | apply below_drew1) | exact HB.out))) hk)))); (case aO => exact (by (with_reducible repeat (first | apply Kd.N_alloc | apply Kd.N_drewN | apply Kd.N_drew)); exact HO_7.out)); (case aS => exact (below_size (by repeat (first | (with_reducible first | exact HB.out | apply below_alloc | apply pw_below_drewN | apply below_drew1) | exact HB.out)))); (case aL => have := LMc11.out; omega); intro v159 w12 ho hb hg hat; rw [← Ny158.out] at ho; have n0_ := Aside0.mk (Kd.V_afterv (ok := (fun k_ => (P0_ k_ ∨ w.heap.size ≤ k_))) (by (with_reducible repeat (first | apply Kd.V_alloc | apply Kd.V_drewN | apply Kd.V_drew)); exact HO_0.out) hg hat); have n1_ := Aside0.mk (hb); have n2_ := Aside0.mk (ho); clear HO_0; clear HB; clear HO_7; have HO_0 := n0_; have HB := n1_; have HO160 := n2_; clear n0_ n1_ n2_; clear ho hb hg hat)); try go_wp2_with (first | ((with_reducible refine gate_builtin (b := .append) (xs := #[.tmp 32, .tmp 34]) rfl ?_); (try (refine gate_guard (by rfl) ?_; dsimp only)); at_builtin; refine Kd.N_append (Kd.slice 37 k37) (w0 := w) w.heap.size rfl (.tmp 32) (.tmp 34) 22 25 (.slice none 0 0) 24 rfl Try.underlying22 info25 rfl (by decide) (by omega) u7 x7_2 l0 [.slice A0 l0.length c0] (fun k_ => (P0_ k_ ∨ w.heap.size ≤ k_)) (fun k_ => ((fun k_ => (P0_ k_ ∨ w.heap.size ≤ k_))) k_ ∧ some k_ ≠ (u7 : Value).ownBlock) rfl rfl ?aP (fun _ hk => hk) ?aF ?aO ?aB ?aS ?aL ?_; (case aP => exact (Kd.FK_slice_mk (Kd.V_reads' (Kd.V_mono (ok' := (fun k_ => ((fun k_ => (P0_ k_ ∨ w.heap.size ≤ k_))) k_ ∧ some k_ ≠ (u7 : Value).ownBlock)) (HO_0.out) (fun k_ hk => ⟨hk.1, hk.2⟩))).2.1 (Kd.V_F (Kd.V_mono (ok' := (fun k_ => ((fun k_ => (P0_ k_ ∨ w.heap.size ≤ k_))) k_ ∧ some k_ ≠ (u7 : Value).ownBlock)) (HO_0.out) (fun k_ hk => ⟨hk.1, hk.2⟩))))); (case aB => exact (by repeat (first | (with_reducible first | exact HB.out | apply below_alloc | apply pw_below_drewN | apply below_drew1) | exact HB.out))); (case aF => exact (fun k_ hk => (.inr (Nat.le_trans (below_size (by repeat (first | (with_reducible first | exact HB.out | apply below_alloc | apply pw_below_drewN | apply below_drew1) | exact HB.out))) hk)))); (case aO => exact (by (with_reducible repeat (first | apply Kd.N_alloc | apply Kd.N_drewN | apply Kd.N_drew)); exact HO_7.out)); (case aS => exact (below_size (by repeat (first | (with_reducible first | exact HB.out | apply below_alloc | apply pw_below_drewN | apply below_drew1) | exact HB.out)))); (case aL => have := LMc11.out; omega); intro v159 w12 ho hb hg hat; rw [← Ny158.out] at ho; have n0_ := Aside0.mk (Kd.V_afterv (ok := (fun k_ => (P0_ k_ ∨ w.heap.size ≤ k_))) (by (with_reducible repeat (first | apply Kd.V_alloc | apply Kd.V_drewN | apply Kd.V_drew)); exact HO_0.out) hg hat); have n1_ := Aside0.mk (hb); have n2_ := Aside0.mk (ho); clear HO_0; clear HB; clear HO_7; have HO_0 := n0_; have HB := n1_; have HO160 := n2_; clear n0_ n1_ n2_; clear ho hb hg hat)))
                go_roundg k2
                case measure => have := HJ3.out; have := HK2.out; omega
                case rel => exact ⟨(y158), (wrap64 (x8_2 + 1)), (by first | rfl | (simp; done) | (simp [*]; done) | (simp [show ∀ b : Int, Int.tdiv 4611686018427387904 b = 4611686018427387904 / b from fun b => Int.tdiv_eq_ediv_of_nonneg (by decide)]; done)), H', ⟨by have := HJ3.out; have := HK2.out; omega⟩, ⟨by (with_reducible repeat (first | apply Kd.V_alloc | apply Kd.V_drewN | apply Kd.V_drew)); exact HO_0.out⟩, ⟨by (with_reducible repeat (first | apply Kd.N_alloc | apply Kd.N_drewN | apply Kd.N_drew)); exact HO160.out⟩, ⟨by repeat (first | (with_reducible first | exact HB.out | apply below_alloc | apply pw_below_drewN | apply below_drew1) | exact HB.out)⟩⟩
              · rw [if_neg c11] at H
                exact absurd H (by simp)
            · rw [if_neg c10] at H
              have c10b0 : decide (x8_2 < (wrap64 (Int.tmod a1 20))) = false := decide_eq_false c10
              clear c10
              replace H := Option.bind_eq_some_iff.mp H
              obtain ⟨⟨t161, t162⟩, A130, H⟩ := H
              replace H : (manteletlaw11_LoserCopies.l1 k2 l0 t156 (wrap64 (Int.tmod a1 20)) t161 t162 true 0) = some r := H
              have A13 := Aside0.mk A130
              clear A130
              have H' := Aside0.mk H
              clear H
              obtain ⟨Ao14, co14, eo14⟩ := Kd.N_slice HO_7.out
              subst eo14
              go_wp2_with (first | (go_at_call 10; (with_reducible refine (loser_Merge.calls k2 _ _ x7_2 t161 t162 _ ?side1 ?side2 A13.out).mono ?_); (case side1 => repeat (first | exact (Kd.N_reads' HO_7.out).2.2 | (with_reducible refine Kd.C_alloc ?_ _) | (with_reducible refine Kd.C_drewN ?_ _) | (with_reducible refine Kd.C_drew ?_))); (case side2 => exact (Kd.N_reads' HO_7.out).2.1); rintro e w15 ⟨v163, rfl, ho0, hb⟩; have n0_ := Aside0.mk (Kd.V_elder' (by (with_reducible repeat (first | apply Kd.V_alloc | apply Kd.V_drewN | apply Kd.V_drew)); exact HO_0.out) (Kd.R_base ho0) hb); have n1_ := Aside0.mk (Kd.N_elder' (by (with_reducible repeat (first | apply Kd.N_alloc | apply Kd.N_drewN | apply Kd.N_drew)); exact HO_7.out) (Kd.R_base ho0) hb); have n2_ := Aside0.mk (Kd.R_lower (Kd.R_newM (M := fun k_ => (w.heap.size ≤ k_)) ho0 (below_size (by repeat (first | (with_reducible first | exact HB.out | apply below_alloc | apply pw_below_drewN | apply below_drew1) | exact HB.out))) (fun k_ h_ => h_)) (below_size (by repeat (first | (with_reducible first | exact HB.out | apply below_alloc | apply pw_below_drewN | apply below_drew1) | exact HB.out)))); have n3_ := Aside0.mk (below_step (by repeat (first | (with_reducible first | exact HB.out | apply below_alloc | apply pw_below_drewN | apply below_drew1) | exact HB.out)) hb); clear HO_0; clear HO_7; clear HB; have HO_0 := n0_; have HO_7 := n1_; have HO164 := n2_; have HB := n3_; clear n0_ n1_ n2_ n3_; (try clear hb); (try clear hb2); (try clear hk); (try clear hi); (try clear ho0)))
              repeat (go_quiet (first | (go_at_call 10; (with_reducible refine (loser_Merge.calls k2 _ _ x7_2 t161 t162 _ ?side1 ?side2 A13.out).mono ?_); (case side1 => repeat (first | exact (Kd.N_reads' HO_7.out).2.2 | (with_reducible refine Kd.C_alloc ?_ _) | (with_reducible refine Kd.C_drewN ?_ _) | (with_reducible refine Kd.C_drew ?_))); (case side2 => exact (Kd.N_reads' HO_7.out).2.1); rintro e w15 ⟨v163, rfl, ho0, hb⟩; have n0_ := Aside0.mk (Kd.V_elder' (by (with_reducible repeat (first | apply Kd.V_alloc | apply Kd.V_drewN | apply Kd.V_drew)); exact HO_0.out) (Kd.R_base ho0) hb); have n1_ := Aside0.mk (Kd.N_elder' (by (with_reducible repeat (first | apply Kd.N_alloc | apply Kd.N_drewN | apply Kd.N_drew)); exact HO_7.out) (Kd.R_base ho0) hb); have n2_ := Aside0.mk (Kd.R_lower (Kd.R_newM (M := fun k_ => (w.heap.size ≤ k_)) ho0 (below_size (by repeat (first | (with_reducible first | exact HB.out | apply below_alloc | apply pw_below_drewN | apply below_drew1) | exact HB.out))) (fun k_ h_ => h_)) (below_size (by repeat (first | (with_reducible first | exact HB.out | apply below_alloc | apply pw_below_drewN | apply below_drew1) | exact HB.out)))); have n3_ := Aside0.mk (below_step (by repeat (first | (with_reducible first | exact HB.out | apply below_alloc | apply pw_below_drewN | apply below_drew1) | exact HB.out)) hb); clear HO_0; clear HO_7; clear HB; have HO_0 := n0_; have HO_7 := n1_; have HO164 := n2_; have HB := n3_; clear n0_ n1_ n2_ n3_; (try clear hb); (try clear hb2); (try clear hk); (try clear hi); (try clear ho0))); try go_wp2_with (first | (go_at_call 10; (with_reducible refine (loser_Merge.calls k2 _ _ x7_2 t161 t162 _ ?side1 ?side2 A13.out).mono ?_); (case side1 => repeat (first | exact (Kd.N_reads' HO_7.out).2.2 | (with_reducible refine Kd.C_alloc ?_ _) | (with_reducible refine Kd.C_drewN ?_ _) | (with_reducible refine Kd.C_drew ?_))); (case side2 => exact (Kd.N_reads' HO_7.out).2.1); rintro e w15 ⟨v163, rfl, ho0, hb⟩; have n0_ := Aside0.mk (Kd.V_elder' (by (with_reducible repeat (first | apply Kd.V_alloc | apply Kd.V_drewN | apply Kd.V_drew)); exact HO_0.out) (Kd.R_base ho0) hb); have n1_ := Aside0.mk (Kd.N_elder' (by (with_reducible repeat (first | apply Kd.N_alloc | apply Kd.N_drewN | apply Kd.N_drew)); exact HO_7.out) (Kd.R_base ho0) hb); have n2_ := Aside0.mk (Kd.R_lower (Kd.R_newM (M := fun k_ => (w.heap.size ≤ k_)) ho0 (below_size (by repeat (first | (with_reducible first | exact HB.out | apply below_alloc | apply pw_below_drewN | apply below_drew1) | exact HB.out))) (fun k_ h_ => h_)) (below_size (by repeat (first | (with_reducible first | exact HB.out | apply below_alloc | apply pw_below_drewN | apply below_drew1) | exact HB.out)))); have n3_ := Aside0.mk (below_step (by repeat (first | (with_reducible first | exact HB.out | apply below_alloc | apply pw_below_drewN | apply below_drew1) | exact HB.out)) hb); clear HO_0; clear HO_7; clear HB; have HO_0 := n0_; have HO_7 := n1_; have HO164 := n2_; have HB := n3_; clear n0_ n1_ n2_ n3_; (try clear hb); (try clear hb2); (try clear hk); (try clear hi); (try clear ho0))))
              go_loopg [11, 12] k2 (fun kq v11 v12 w' => ∃ (x11_3 : Bool) (x12_3 : Int), v11 = .bool x11_3 ∧ v12 = .int .i64 x12_3 ∧ Aside0 (manteletlaw11_LoserCopies.l1 kq l0 t156 (wrap64 (Int.tmod a1 20)) t161 t162 x11_3 x12_3 = some r) ∧ Aside0 (kq ≤ k2) ∧ Aside0 (Kd.V k37 37 w' w.heap.size (fun k_ => (P0_ k_ ∨ w.heap.size ≤ k_) ∧ some k_ ≠ (v163 : Value).ownBlock) (.slice A0 l0.length c0) l0) ∧ Aside0 (Kd.R k37 37 w' w.heap.size (fun k_ => (w.heap.size ≤ k_)) v163 t161) ∧ Aside0 (Below w.heap.size w w'))
              case atStart => exact ⟨(true), (0), (by first | rfl | (simp; done) | (simp [*]; done) | (simp [show ∀ b : Int, Int.tdiv 4611686018427387904 b = 4611686018427387904 / b from fun b => Int.tdiv_eq_ediv_of_nonneg (by decide)]; done)), (by first | rfl | (simp; done) | (simp [*]; done) | (simp [show ∀ b : Int, Int.tdiv 4611686018427387904 b = 4611686018427387904 / b from fun b => Int.tdiv_eq_ediv_of_nonneg (by decide)]; done)), H', ⟨Nat.le_refl _⟩, ⟨by (with_reducible repeat (first | apply Kd.V_alloc | apply Kd.V_drewN | apply Kd.V_drew)); exact Kd.V_mono HO_0.out (fun _ hk => ⟨hk.1.1, hk.2⟩)⟩, ⟨by (with_reducible repeat (first | apply Kd.R_alloc | apply Kd.R_drewN | apply Kd.R_drew)); exact Kd.R_mono HO164.out (fun _ hk => hk.1)⟩, ⟨by repeat (first | (with_reducible first | exact HB.out | apply below_alloc | apply pw_below_drewN | apply below_drew1) | exact HB.out)⟩⟩
              case round =>
                clear H'
                try clear c1
                try clear p2
                try clear c6
                try clear c6b0
                try clear c6b1
                try clear p6
                try clear c7
                try clear c9
                try clear c10
                try clear c10b0
                try clear c11
                try clear p2
                try clear p6
                obtain ⟨x11_3, x12_3, rfl, rfl, HA, HK3, HO_0, HO_9, HB⟩ := hrel
                cases gk with
                | zero => exact absurd HA.out (by simp [manteletlaw11_LoserCopies.l1])
                | succ k3 =>
                  have H := HA.out
                  clear HA
                  simp only [manteletlaw11_LoserCopies.l1] at H
                  by_cases c16 : x12_3 < (l0.length : Int)
                  · rw [if_pos c16] at H
                    have c16b0 : decide (x12_3 < (l0.length : Int)) = true := decide_eq_true c16
                    clear c16
                    by_cases c17 : x11_3 = true
                    · subst c17
                      have H1 : (if (wrap64 (Int.tmod a1 20)) = 0 then (manteletlaw11_LoserCopies.l1 k3 l0 t156 (wrap64 (Int.tmod a1 20)) t161 t162 true (wrap64 (x12_3 + 1))) else (if 0 ≤ x12_3 then (if (IntKind.u64.wrap ((wrap64 (Int.tmod a1 20)))) = 0 then (none) else (manteletlaw11_LoserCopies.l1 k3 l0 t156 (wrap64 (Int.tmod a1 20)) t161 t162 (decide (((rd_T37 l0 x12_3).f1) ≤ (IntKind.u64.wrap ((4611686018427387904 : Int) / (IntKind.u64.wrap ((wrap64 (Int.tmod a1 20)))))))) (wrap64 (x12_3 + 1)))) else (none))) = some r := by rw [if_pos rfl] at H; exact H
                      clear H
                      have H := H1
                      clear H1
                      by_cases c18 : (wrap64 (Int.tmod a1 20)) = 0
                      · rw [if_pos c18] at H
                        have c18b0 : ((wrap64 (Int.tmod a1 20)) == 0) = true := beq_iff_eq.mpr c18
                        have c18b1 : ((wrap64 (Int.tmod a1 20)) != 0) = false := bne_eq_false_iff_eq.mpr c18
                        clear c18
                        have H' := Aside0.mk H
                        clear H
                        go_wp2
                        repeat (go_quiet (fail); try go_wp2)
                        go_roundg k3
                        case measure => have := HJ3.out; have := HK2.out; have := HK3.out; omega
                        case rel => exact ⟨(true), (wrap64 (x12_3 + 1)), (by first | rfl | (simp; done) | (simp [*]; done) | (simp [show ∀ b : Int, Int.tdiv 4611686018427387904 b = 4611686018427387904 / b from fun b => Int.tdiv_eq_ediv_of_nonneg (by decide)]; done)), (by first | rfl | (simp; done) | (simp [*]; done) | (simp [show ∀ b : Int, Int.tdiv 4611686018427387904 b = 4611686018427387904 / b from fun b => Int.tdiv_eq_ediv_of_nonneg (by decide)]; done)), H', ⟨by have := HJ3.out; have := HK2.out; have := HK3.out; omega⟩, ⟨by (with_reducible repeat (first | apply Kd.V_alloc | apply Kd.V_drewN | apply Kd.V_drew)); exact HO_0.out⟩, ⟨by (with_reducible repeat (first | apply Kd.R_alloc | apply Kd.R_drewN | apply Kd.R_drew)); exact HO_9.out⟩, ⟨by repeat (first | (with_reducible first | exact HB.out | apply below_alloc | apply pw_below_drewN | apply below_drew1) | exact HB.out)⟩⟩
                      · rw [if_neg c18] at H
                        have c18b0 : ((wrap64 (Int.tmod a1 20)) == 0) = false := beq_eq_false_iff_ne.mpr c18
                        have c18b1 : ((wrap64 (Int.tmod a1 20)) != 0) = true := bne_iff_ne.mpr c18
                        by_cases c19 : 0 ≤ x12_3
                        · rw [if_pos c19] at H
                          have c19b0 : decide (0 ≤ x12_3) = true := decide_eq_true c19
                          clear c19
                          by_cases c20 : (IntKind.u64.wrap ((wrap64 (Int.tmod a1 20)))) = 0
                          · rw [if_pos c20] at H
                            exact absurd H (by simp)
                          · rw [if_neg c20] at H
                            have c20b0 : ((IntKind.u64.wrap ((wrap64 (Int.tmod a1 20)))) == 0) = false := beq_eq_false_iff_ne.mpr c20
                            have c20b1 : ((IntKind.u64.wrap ((wrap64 (Int.tmod a1 20)))) != 0) = true := bne_iff_ne.mpr c20
                            have H' := Aside0.mk H
                            clear H
                            have p165 : 0 ≤ (x12_3 : Int) := of_decide_eq_true (by first | (with_reducible assumption) | assumption)
                            have q165 : x12_3 < (l0.length : Int) := of_decide_eq_true (by first | (with_reducible assumption) | assumption)
                            obtain ⟨ad165, e165, hx165_0, hx165_1⟩ := at_T37 (Kd.V_reads' HO_0.out).2.2 x12_3 p165 q165
                            cases e165
                            replace p165 := eq_true p165
                            replace q165 := eq_true q165
                            go_wp2
                            repeat (go_quiet (fail); try go_wp2)
                            go_roundg k3
                            case measure => have := HJ3.out; have := HK2.out; have := HK3.out; omega
                            case rel => exact ⟨(decide (((rd_T37 l0 x12_3).f1) ≤ (IntKind.u64.wrap ((4611686018427387904 : Int) / (IntKind.u64.wrap ((wrap64 (Int.tmod a1 20)))))))), (wrap64 (x12_3 + 1)), (by first | rfl | (simp; done) | (simp [*]; done) | (simp [show ∀ b : Int, Int.tdiv 4611686018427387904 b = 4611686018427387904 / b from fun b => Int.tdiv_eq_ediv_of_nonneg (by decide)]; done)), (by first | rfl | (simp; done) | (simp [*]; done) | (simp [show ∀ b : Int, Int.tdiv 4611686018427387904 b = 4611686018427387904 / b from fun b => Int.tdiv_eq_ediv_of_nonneg (by decide)]; done)), H', ⟨by have := HJ3.out; have := HK2.out; have := HK3.out; omega⟩, ⟨by (with_reducible repeat (first | apply Kd.V_alloc | apply Kd.V_drewN | apply Kd.V_drew)); exact HO_0.out⟩, ⟨by (with_reducible repeat (first | apply Kd.R_alloc | apply Kd.R_drewN | apply Kd.R_drew)); exact HO_9.out⟩, ⟨by repeat (first | (with_reducible first | exact HB.out | apply below_alloc | apply pw_below_drewN | apply below_drew1) | exact HB.out)⟩⟩
                        · rw [if_neg c19] at H
                          exact absurd H (by simp)
                    · replace c17 := Bool.eq_false_iff.mpr c17
                      subst c17
                      have H1 : (manteletlaw11_LoserCopies.l1 k3 l0 t156 (wrap64 (Int.tmod a1 20)) t161 t162 false (wrap64 (x12_3 + 1))) = some r := by rw [if_neg (show ¬ (false = true) by decide)] at H; exact H
                      clear H
                      have H := H1
                      clear H1
                      have H' := Aside0.mk H
                      clear H
                      go_wp2
                      repeat (go_quiet (fail); try go_wp2)
                      go_roundg k3
                      case measure => have := HJ3.out; have := HK2.out; have := HK3.out; omega
                      case rel => exact ⟨(false), (wrap64 (x12_3 + 1)), (by first | rfl | (simp; done) | (simp [*]; done) | (simp [show ∀ b : Int, Int.tdiv 4611686018427387904 b = 4611686018427387904 / b from fun b => Int.tdiv_eq_ediv_of_nonneg (by decide)]; done)), (by first | rfl | (simp; done) | (simp [*]; done) | (simp [show ∀ b : Int, Int.tdiv 4611686018427387904 b = 4611686018427387904 / b from fun b => Int.tdiv_eq_ediv_of_nonneg (by decide)]; done)), H', ⟨by have := HJ3.out; have := HK2.out; have := HK3.out; omega⟩, ⟨by (with_reducible repeat (first | apply Kd.V_alloc | apply Kd.V_drewN | apply Kd.V_drew)); exact HO_0.out⟩, ⟨by (with_reducible repeat (first | apply Kd.R_alloc | apply Kd.R_drewN | apply Kd.R_drew)); exact HO_9.out⟩, ⟨by repeat (first | (with_reducible first | exact HB.out | apply below_alloc | apply pw_below_drewN | apply below_drew1) | exact HB.out)⟩⟩
                  · rw [if_neg c16] at H
                    have c16b0 : decide (x12_3 < (l0.length : Int)) = false := decide_eq_false c16
                    clear c16
                    by_cases c21 : x11_3 = true
                    · subst c21
                      have H1 : (if (wrap64 (Int.tmod a1 20)) = 0 then (if t156 = true then (if t162 = 0 then (some ((t161.length : Int) == 0)) else (none)) else (none)) else (if t162 = 0 then (manteletlaw11_LoserCopies.j3 k3 l0 t156 (wrap64 (Int.tmod a1 20)) t161 ((t161.length : Int) != (l0.length : Int))) else (manteletlaw11_LoserCopies.j3 k3 l0 t156 (wrap64 (Int.tmod a1 20)) t161 true))) = some r := by rw [if_pos rfl] at H; exact H
                      clear H
                      have H := H1
                      clear H1
                      by_cases c22 : (wrap64 (Int.tmod a1 20)) = 0
                      · rw [if_pos c22] at H
                        have c22b0 : ((wrap64 (Int.tmod a1 20)) == 0) = true := beq_iff_eq.mpr c22
                        have c22b1 : ((wrap64 (Int.tmod a1 20)) != 0) = false := bne_eq_false_iff_eq.mpr c22
                        clear c22
                        by_cases c23 : t156 = true
                        · subst c23
                          have H1 : (if t162 = 0 then (some ((t161.length : Int) == 0)) else (none)) = some r := by rw [if_pos rfl] at H; exact H
                          clear H
                          have H := H1
                          clear H1
                          by_cases c24 : t162 = 0
                          · rw [if_pos c24] at H
                            have c24b0 : (t162 == 0) = true := beq_iff_eq.mpr c24
                            have c24b1 : (t162 != 0) = false := bne_eq_false_iff_eq.mpr c24
                            clear c24
                            obtain rfl := Option.some.inj H
                            obtain ⟨Ao25, co25, eo25⟩ := Kd.R_slice HO_9.out
                            subst eo25
                            go_wp2
                            repeat (go_quiet (fail); try go_wp2)
                            go_ret
                            exact ⟨by first | rfl | (simp [errW_none, errW_some] <;> rfl) | (have e_ := Option.some.inj (A3.out.symm.trans A7.out); subst e_; rfl) | (have e_ := Option.some.inj (A3.out.symm.trans A13.out); subst e_; rfl) | (have e_ := Option.some.inj (A7.out.symm.trans A13.out); subst e_; rfl) | (simp [*, errW_none, errW_some] <;> rfl), by repeat (first | (with_reducible first | exact HB.out | apply below_alloc | apply pw_below_drewN | apply below_drew1) | exact HB.out)⟩
                          · rw [if_neg c24] at H
                            exact absurd H (by simp)
                        · replace c23 := Bool.eq_false_iff.mpr c23
                          subst c23
                          have H1 : (none) = some r := by rw [if_neg (show ¬ (false = true) by decide)] at H; exact H
                          clear H
                          have H := H1
                          clear H1
                          exact absurd H (by simp)
                      · rw [if_neg c22] at H
                        have c22b0 : ((wrap64 (Int.tmod a1 20)) == 0) = false := beq_eq_false_iff_ne.mpr c22
                        have c22b1 : ((wrap64 (Int.tmod a1 20)) != 0) = true := bne_iff_ne.mpr c22
                        have HC26 := Aside0.mk H
                        clear H
                        go_upto_region 20 with (fail)
                        repeat (go_quiet (fail); go_upto_region 20 with (fail))
                        go_cut [95] (fun v95 wc => ∃ (kq : Nat) (x95_25 : Bool), v95 = .bool x95_25 ∧ Aside0 (manteletlaw11_LoserCopies.j3 kq l0 t156 (wrap64 (Int.tmod a1 20)) t161 x95_25 = some r) ∧ Aside0 (kq ≤ k3) ∧ Aside0 (Kd.V k37 37 wc w.heap.size (fun k_ => (P0_ k_ ∨ w.heap.size ≤ k_) ∧ some k_ ≠ (v163 : Value).ownBlock) (.slice A0 l0.length c0) l0) ∧ Aside0 (Kd.R k37 37 wc w.heap.size (fun k_ => (w.heap.size ≤ k_)) v163 t161) ∧ Aside0 (Below w.heap.size w wc))
                        case first =>
                          have H := HC26.out
                          clear HC26
                          by_cases c27 : t162 = 0
                          · rw [if_pos c27] at H
                            have c27b0 : (t162 == 0) = true := beq_iff_eq.mpr c27
                            have c27b1 : (t162 != 0) = false := bne_eq_false_iff_eq.mpr c27
                            clear c27
                            (first | rw [c27b0] | (simp only [i64_w, i32_w]; rw [c27b0]) | skip)
                            have H' := Aside0.mk H
                            clear H
                            obtain ⟨Ao28, co28, eo28⟩ := Kd.R_slice HO_9.out
                            subst eo28
                            go_wp2
                            repeat (go_quiet (fail); try go_wp2)
                            go_meet
                            case rel => exact ⟨_, (((t161.length : Int) != (l0.length : Int))), (by first | rfl | (simp; done) | (simp [*]; done) | (simp [show ∀ b : Int, Int.tdiv 4611686018427387904 b = 4611686018427387904 / b from fun b => Int.tdiv_eq_ediv_of_nonneg (by decide)]; done)), H', ⟨by have := HJ3.out; have := HK2.out; have := HK3.out; first | omega | exact Nat.le_refl _⟩, ⟨by (with_reducible repeat (first | apply Kd.V_alloc | apply Kd.V_drewN | apply Kd.V_drew)); exact HO_0.out⟩, ⟨by (with_reducible repeat (first | apply Kd.R_alloc | apply Kd.R_drewN | apply Kd.R_drew)); exact HO_9.out⟩, ⟨by repeat (first | (with_reducible first | exact HB.out | apply below_alloc | apply pw_below_drewN | apply below_drew1) | exact HB.out)⟩⟩
                          · rw [if_neg c27] at H
                            have c27b0 : (t162 == 0) = false := beq_eq_false_iff_ne.mpr c27
                            have c27b1 : (t162 != 0) = true := bne_iff_ne.mpr c27
                            (first | rw [c27b0] | (simp only [i64_w, i32_w]; rw [c27b0]) | skip)
                            have H' := Aside0.mk H
                            clear H
                            go_wp2
                            repeat (go_quiet (fail); try go_wp2)
                            go_meet
                            case rel => exact ⟨_, (true), (by first | rfl | (simp; done) | (simp [*]; done) | (simp [show ∀ b : Int, Int.tdiv 4611686018427387904 b = 4611686018427387904 / b from fun b => Int.tdiv_eq_ediv_of_nonneg (by decide)]; done)), H', ⟨by have := HJ3.out; have := HK2.out; have := HK3.out; first | omega | exact Nat.le_refl _⟩, ⟨by (with_reducible repeat (first | apply Kd.V_alloc | apply Kd.V_drewN | apply Kd.V_drew)); exact HO_0.out⟩, ⟨by (with_reducible repeat (first | apply Kd.R_alloc | apply Kd.R_drewN | apply Kd.R_drew)); exact HO_9.out⟩, ⟨by repeat (first | (with_reducible first | exact HB.out | apply below_alloc | apply pw_below_drewN | apply below_drew1) | exact HB.out)⟩⟩
                        case rest =>
                          clear HC26
                          try clear c1
                          try clear p1
                          try clear q1
                          try clear hx1
                          try clear c2
                          try clear p2
                          try clear c6
                          try clear c6b0
                          try clear c6b1
                          try clear p6
                          try clear c7
                          try clear c9
                          try clear c10
                          try clear c10b0
                          try clear c11
                          try clear c16
                          try clear c16b0
                          try clear p16
                          try clear q16
                          try clear hx16
                          try clear c17
                          try clear c18
                          try clear c18b0
                          try clear c18b1
                          try clear c19
                          try clear c19b0
                          try clear c20
                          try clear c20b0
                          try clear c20b1
                          try clear c21
                          try clear c22
                          try clear c22b0
                          try clear c22b1
                          try clear c23
                          try clear c24
                          try clear c24b0
                          try clear c24b1
                          try clear c27
                          try clear c27b0
                          try clear c27b1
                          try clear hx165_0
                          try clear hx165_1
                          try clear p165
                          try clear p2
                          try clear p6
                          try clear q165
                          obtain ⟨kq, x95_25, rfl, HA, HJ25, HO_0, HO_9, HB⟩ := hcut
                          cases kq with
                          | zero => exact absurd HA.out (by simp [manteletlaw11_LoserCopies.j3])
                          | succ kj25 =>
                            have H := HA.out
                            clear HA
                            simp only [manteletlaw11_LoserCopies.j3] at H
                            by_cases c29 : x95_25 = true
                            · subst c29
                              have H1 : (none) = some r := by rw [if_pos rfl] at H; exact H
                              clear H
                              have H := H1
                              clear H1
                              exact absurd H (by simp)
                            · replace c29 := Bool.eq_false_iff.mpr c29
                              subst c29
                              have H1 : (manteletlaw11_LoserCopies.l2 kj25 l0 t156 (wrap64 (Int.tmod a1 20)) t161 0) = some r := by rw [if_neg (show ¬ (false = true) by decide)] at H; exact H
                              clear H
                              have H := H1
                              clear H1
                              have H' := Aside0.mk H
                              clear H
                              go_wp2
                              repeat (go_quiet (fail); try go_wp2)
                              go_loopg [13] kj25 (fun kq v13 w' => ∃ (x13_5 : Int), v13 = .int .i64 x13_5 ∧ Aside0 (manteletlaw11_LoserCopies.l2 kq l0 t156 (wrap64 (Int.tmod a1 20)) t161 x13_5 = some r) ∧ Aside0 (kq ≤ kj25) ∧ Aside0 (Kd.V k37 37 w' w.heap.size (fun k_ => (P0_ k_ ∨ w.heap.size ≤ k_) ∧ some k_ ≠ (v163 : Value).ownBlock) (.slice A0 l0.length c0) l0) ∧ Aside0 (Kd.R k37 37 w' w.heap.size (fun k_ => (w.heap.size ≤ k_)) v163 t161) ∧ Aside0 (Below w.heap.size w w'))
                              case atStart => exact ⟨(0), (by first | rfl | (simp; done) | (simp [*]; done) | (simp [show ∀ b : Int, Int.tdiv 4611686018427387904 b = 4611686018427387904 / b from fun b => Int.tdiv_eq_ediv_of_nonneg (by decide)]; done)), H', ⟨Nat.le_refl _⟩, ⟨by (with_reducible repeat (first | apply Kd.V_alloc | apply Kd.V_drewN | apply Kd.V_drew)); exact HO_0.out⟩, ⟨by (with_reducible repeat (first | apply Kd.R_alloc | apply Kd.R_drewN | apply Kd.R_drew)); exact HO_9.out⟩, ⟨by repeat (first | (with_reducible first | exact HB.out | apply below_alloc | apply pw_below_drewN | apply below_drew1) | exact HB.out)⟩⟩
                              case round =>
                                clear H'
                                try clear c1
                                try clear p1
                                try clear q1
                                try clear hx1
                                try clear c2
                                try clear p2
                                try clear c6
                                try clear c6b0
                                try clear c6b1
                                try clear p6
                                try clear c7
                                try clear c9
                                try clear c10
                                try clear c10b0
                                try clear c11
                                try clear c16
                                try clear c16b0
                                try clear p16
                                try clear q16
                                try clear hx16
                                try clear c17
                                try clear c18
                                try clear c18b0
                                try clear c18b1
                                try clear c19
                                try clear c19b0
                                try clear c20
                                try clear c20b0
                                try clear c20b1
                                try clear c21
                                try clear c22
                                try clear c22b0
                                try clear c22b1
                                try clear c23
                                try clear c24
                                try clear c24b0
                                try clear c24b1
                                try clear c27
                                try clear c27b0
                                try clear c27b1
                                try clear c29
                                try clear hx165_0
                                try clear hx165_1
                                try clear p1
                                try clear p16
                                try clear p165
                                try clear p2
                                try clear p6
                                try clear q1
                                try clear q16
                                try clear q165
                                obtain ⟨x13_5, rfl, HA, HK5, HO_0, HO_9, HB⟩ := hrel
                                cases gk with
                                | zero => exact absurd HA.out (by simp [manteletlaw11_LoserCopies.l2])
                                | succ k5 =>
                                  have H := HA.out
                                  clear HA
                                  simp only [manteletlaw11_LoserCopies.l2] at H
                                  by_cases c30 : x13_5 < (l0.length : Int)
                                  · rw [if_pos c30] at H
                                    have c30b0 : decide (x13_5 < (l0.length : Int)) = true := decide_eq_true c30
                                    clear c30
                                    by_cases c31 : 0 ≤ x13_5
                                    · rw [if_pos c31] at H
                                      have c31b0 : decide (0 ≤ x13_5) = true := decide_eq_true c31
                                      clear c31
                                      by_cases c32 : x13_5 < (t161.length : Int)
                                      · rw [if_pos c32] at H
                                        have c32b0 : decide (x13_5 < (t161.length : Int)) = true := decide_eq_true c32
                                        clear c32
                                        by_cases c33 : ((rd_T37 t161 x13_5).f0).toList = ((rd_T37 l0 x13_5).f0).toList
                                        · rw [if_pos c33] at H
                                          have c33b0 : (((rd_T37 t161 x13_5).f0).toList == ((rd_T37 l0 x13_5).f0).toList) = true := beq_iff_eq.mpr c33
                                          have c33b1 : (((rd_T37 t161 x13_5).f0).toList != ((rd_T37 l0 x13_5).f0).toList) = false := bne_eq_false_iff_eq.mpr c33
                                          clear c33
                                          by_cases c34 : ((rd_T37 t161 x13_5).f1) = (IntKind.u64.wrap ((IntKind.u64.wrap ((wrap64 (Int.tmod a1 20)))) * ((rd_T37 l0 x13_5).f1)))
                                          · rw [if_pos c34] at H
                                            have c34b0 : (((rd_T37 t161 x13_5).f1) == (IntKind.u64.wrap ((IntKind.u64.wrap ((wrap64 (Int.tmod a1 20)))) * ((rd_T37 l0 x13_5).f1)))) = true := beq_iff_eq.mpr c34
                                            have c34b1 : (((rd_T37 t161 x13_5).f1) != (IntKind.u64.wrap ((IntKind.u64.wrap ((wrap64 (Int.tmod a1 20)))) * ((rd_T37 l0 x13_5).f1)))) = false := bne_eq_false_iff_eq.mpr c34
                                            clear c34
                                            have H' := Aside0.mk H
                                            clear H
                                            obtain ⟨Ao35, co35, eo35⟩ := Kd.R_slice HO_9.out
                                            subst eo35
                                            have p166 : 0 ≤ (x13_5 : Int) := of_decide_eq_true (by first | (with_reducible assumption) | assumption)
                                            have q166 : x13_5 < (t161.length : Int) := of_decide_eq_true (by first | (with_reducible assumption) | assumption)
                                            obtain ⟨ad166, e166, hx166_0, hx166_1⟩ := at_T37 (Kd.R_reads' HO_9.out).2.2 x13_5 p166 q166
                                            cases e166
                                            replace p166 := eq_true p166
                                            replace q166 := eq_true q166
                                            have p167 : 0 ≤ (x13_5 : Int) := of_decide_eq_true (by first | (with_reducible assumption) | assumption)
                                            have q167 : x13_5 < (l0.length : Int) := of_decide_eq_true (by first | (with_reducible assumption) | assumption)
                                            obtain ⟨ad167, e167, hx167_0, hx167_1⟩ := at_T37 (Kd.V_reads' HO_0.out).2.2 x13_5 p167 q167
                                            cases e167
                                            replace p167 := eq_true p167
                                            replace q167 := eq_true q167
                                            have p168 : 0 ≤ (x13_5 : Int) := of_decide_eq_true (by first | (with_reducible assumption) | assumption)
                                            have q168 : x13_5 < (t161.length : Int) := of_decide_eq_true (by first | (with_reducible assumption) | assumption)
                                            obtain ⟨ad168, e168, hx168_0, hx168_1⟩ := at_T37 (Kd.R_reads' HO_9.out).2.2 x13_5 p168 q168
                                            obtain rfl : ad166 = ad168 := (by injection e168)
                                            replace p168 := eq_true p168
                                            replace q168 := eq_true q168
                                            have p169 : 0 ≤ (x13_5 : Int) := of_decide_eq_true (by first | (with_reducible assumption) | assumption)
                                            have q169 : x13_5 < (l0.length : Int) := of_decide_eq_true (by first | (with_reducible assumption) | assumption)
                                            obtain ⟨ad169, e169, hx169_0, hx169_1⟩ := at_T37 (Kd.V_reads' HO_0.out).2.2 x13_5 p169 q169
                                            obtain rfl : ad167 = ad169 := (by injection e169)
                                            replace p169 := eq_true p169
                                            replace q169 := eq_true q169
                                            go_wp2
                                            repeat (go_quiet (fail); try go_wp2)
                                            go_roundg k5
                                            case measure => have := HJ3.out; have := HK2.out; have := HK3.out; have := HJ25.out; have := HK5.out; omega
                                            case rel => exact ⟨(wrap64 (x13_5 + 1)), (by first | rfl | (simp; done) | (simp [*]; done) | (simp [show ∀ b : Int, Int.tdiv 4611686018427387904 b = 4611686018427387904 / b from fun b => Int.tdiv_eq_ediv_of_nonneg (by decide)]; done)), H', ⟨by have := HJ3.out; have := HK2.out; have := HK3.out; have := HJ25.out; have := HK5.out; omega⟩, ⟨by (with_reducible repeat (first | apply Kd.V_alloc | apply Kd.V_drewN | apply Kd.V_drew)); exact HO_0.out⟩, ⟨by (with_reducible repeat (first | apply Kd.R_alloc | apply Kd.R_drewN | apply Kd.R_drew)); exact HO_9.out⟩, ⟨by repeat (first | (with_reducible first | exact HB.out | apply below_alloc | apply pw_below_drewN | apply below_drew1) | exact HB.out)⟩⟩
                                          · rw [if_neg c34] at H
                                            exact absurd H (by simp)
                                        · rw [if_neg c33] at H
                                          exact absurd H (by simp)
                                      · rw [if_neg c32] at H
                                        exact absurd H (by simp)
                                    · rw [if_neg c31] at H
                                      exact absurd H (by simp)
                                  · rw [if_neg c30] at H
                                    have c30b0 : decide (x13_5 < (l0.length : Int)) = false := decide_eq_false c30
                                    clear c30
                                    obtain rfl := Option.some.inj H
                                    go_wp2
                                    repeat (go_quiet (fail); try go_wp2)
                                    go_ret
                                    exact ⟨by first | rfl | (simp [errW_none, errW_some] <;> rfl) | (have e_ := Option.some.inj (A3.out.symm.trans A7.out); subst e_; rfl) | (have e_ := Option.some.inj (A3.out.symm.trans A13.out); subst e_; rfl) | (have e_ := Option.some.inj (A7.out.symm.trans A13.out); subst e_; rfl) | (simp [*, errW_none, errW_some] <;> rfl), by repeat (first | (with_reducible first | exact HB.out | apply below_alloc | apply pw_below_drewN | apply below_drew1) | exact HB.out)⟩
                    · replace c21 := Bool.eq_false_iff.mpr c21
                      subst c21
                      have H1 : (if t156 = true then (if t162 = 5 then (some ((t161.length : Int) == 0)) else (none)) else (none)) = some r := by rw [if_neg (show ¬ (false = true) by decide)] at H; exact H
                      clear H
                      have H := H1
                      clear H1
                      by_cases c36 : t156 = true
                      · subst c36
                        have H1 : (if t162 = 5 then (some ((t161.length : Int) == 0)) else (none)) = some r := by rw [if_pos rfl] at H; exact H
                        clear H
                        have H := H1
                        clear H1
                        by_cases c37 : t162 = 5
                        · rw [if_pos c37] at H
                          have c37b0 : (t162 == 5) = true := beq_iff_eq.mpr c37
                          have c37b1 : (t162 != 5) = false := bne_eq_false_iff_eq.mpr c37
                          clear c37
                          obtain rfl := Option.some.inj H
                          obtain ⟨Ao38, co38, eo38⟩ := Kd.R_slice HO_9.out
                          subst eo38
                          go_wp2
                          repeat (go_quiet (fail); try go_wp2)
                          go_ret
                          exact ⟨by first | rfl | (simp [errW_none, errW_some] <;> rfl) | (have e_ := Option.some.inj (A3.out.symm.trans A7.out); subst e_; rfl) | (have e_ := Option.some.inj (A3.out.symm.trans A13.out); subst e_; rfl) | (have e_ := Option.some.inj (A7.out.symm.trans A13.out); subst e_; rfl) | (simp [*, errW_none, errW_some] <;> rfl), by repeat (first | (with_reducible first | exact HB.out | apply below_alloc | apply pw_below_drewN | apply below_drew1) | exact HB.out)⟩
                        · rw [if_neg c37] at H
                          exact absurd H (by simp)
                      · replace c36 := Bool.eq_false_iff.mpr c36
                        subst c36
                        have H1 : (none) = some r := by rw [if_neg (show ¬ (false = true) by decide)] at H; exact H
                        clear H
                        have H := H1
                        clear H1
                        exact absurd H (by simp)

end Go.Proofs.Ytlngljddjlmkfaa.PLs
