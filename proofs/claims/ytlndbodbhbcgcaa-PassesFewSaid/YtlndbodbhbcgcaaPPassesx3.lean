/- Contracts of Go functions: called with what reads as these lists and numbers, a function returns what its plain Lean function says, and leaves what was there. Written by a program of this session. -/
import Derived.Test.YtlndbodbhbcgcaaPPassesx0
import Derived.Test.YtlndbodbhbcgcaaPPassesx1
import Derived.Test.YtlndbodbhbcgcaaPPassesx2
namespace Go.Proofs.Ytlndbodbhbcgcaa.PPasses
open Go.RowKit Go.Proofs.YtlndbodbhbcgcaaW.PrintWords Go.Proofs.YtlndbodbhbcgcaaW.PrintLast Go.Proofs.YtlndbodbhbcgcaaW.PrintMore
attribute [local go_sem] max2_int min2_int max_two min_two max_three min_three max_four min_four   -- for this text's walks alone
set_option linter.unusedVariables false
set_option linter.unusedSimpArgs false

attribute [local go_sem high] eqA25
/-! ### manteletlaw12_PassesGroups: function 3 -/
def manteletlaw12_PassesGroups.l0 : Nat → Int → Int → Bool → List (S25) → List (S25) → Int → Option (Bool)
  | 0, _, _, _, _, _, _ => none
  | k + 1, x0, x1, x5, x6, x7, x8 => if x8 < (x6.length : Int) then (if 0 ≤ x8 then (if x8 < (x7.length : Int) then (if (!(((rd_T25 x6 x8).f0) == ((rd_T25 x7 x8).f0)) || (!(((rd_T25 x6 x8).f1) == ((rd_T25 x7 x8).f1)))) = true then (none) else (manteletlaw12_PassesGroups.l0 k x0 x1 x5 x6 x7 (wrap64 (x8 + 1)))) else (none)) else (none)) else (if x5 = true then ((passes_Passes.f x0 x1).bind fun t127 => ((manteletref12_Passes.f k x0 x1).bind fun t128 => (some (t127 == t128)))) else (none))
def manteletlaw12_PassesGroups.f (k : Nat) (a0 : Int) (a1 : Int) : Option (Bool) := (manteletlaw12_shown.f k).bind fun t118 => ((passes_Groups.f k a0 a1).bind fun t119 => ((manteletref12_Groups.f k a0 a1).bind fun t122 => (if (t119.length : Int) = (t122.length : Int) then (manteletlaw12_PassesGroups.l0 k a0 a1 t118 t119 t122 0) else (none))))
theorem manteletlaw12_PassesGroups.mono_l : ∀ k, (∀ y0 y1 y2 y3 y4 y5, LeO (manteletlaw12_PassesGroups.l0 k y0 y1 y2 y3 y4 y5) (manteletlaw12_PassesGroups.l0 (k + 1) y0 y1 y2 y3 y4 y5))
  | 0 => fun _ _ _ _ _ _ r h => by simp [manteletlaw12_PassesGroups.l0] at h
  | k + 1 => by
    have ih0 := manteletlaw12_PassesGroups.mono_l k
    · intro y0 y1 y2 y3 y4 y5
      unfold manteletlaw12_PassesGroups.l0
      repeat' first
      | (with_reducible exact ih0 _ _ _ _ _ _)
      | (with_reducible exact manteletlaw12_shown.mono _)
      | (with_reducible exact manteletref12_Groups.mono _ _ _)
      | (with_reducible exact manteletref12_Passes.mono _ _ _)
      | (with_reducible exact passes_Groups.mono _ _ _)
      | (with_reducible exact LeO.refl _)
      | (with_reducible exact LeO.none _)
      | (with_reducible refine LeO.ite ?_ ?_)
      | (with_reducible refine LeO.bind ?_ (fun _ => ?_))
      | exact ih0 _ _ _ _ _ _
      | exact manteletlaw12_shown.mono _
      | exact manteletref12_Groups.mono _ _ _
      | exact manteletref12_Passes.mono _ _ _
      | exact passes_Groups.mono _ _ _
      | exact LeO.none _
      | refine LeO.ite ?_ ?_
      | refine LeO.bind ?_ (fun _ => ?_)
theorem manteletlaw12_PassesGroups.mono : ∀ a0 a1 k, LeO (manteletlaw12_PassesGroups.f k a0 a1) (manteletlaw12_PassesGroups.f (k + 1) a0 a1) := by
  intro a0 a1 k
  have ih0 := manteletlaw12_PassesGroups.mono_l k
  unfold manteletlaw12_PassesGroups.f
  repeat' first
      | (with_reducible exact ih0 _ _ _ _ _ _)
      | (with_reducible exact manteletlaw12_shown.mono _)
      | (with_reducible exact manteletref12_Groups.mono _ _ _)
      | (with_reducible exact manteletref12_Passes.mono _ _ _)
      | (with_reducible exact passes_Groups.mono _ _ _)
      | (with_reducible exact LeO.refl _)
      | (with_reducible exact LeO.none _)
      | (with_reducible refine LeO.ite ?_ ?_)
      | (with_reducible refine LeO.bind ?_ (fun _ => ?_))
      | exact ih0 _ _ _ _ _ _
      | exact manteletlaw12_shown.mono _
      | exact manteletref12_Groups.mono _ _ _
      | exact manteletref12_Passes.mono _ _ _
      | exact passes_Groups.mono _ _ _
      | exact LeO.none _
      | refine LeO.ite ?_ ?_
      | refine LeO.bind ?_ (fun _ => ?_)
set_option maxHeartbeats 8000000 in
set_option maxRecDepth 100000 in
theorem manteletlaw12_PassesGroups.calls (k : Nat) (a0 : Int) (a1 : Int) (r : Bool) (w : World) (h : manteletlaw12_PassesGroups.f k a0 a1 = some r) :
    Calls Try.prog 3 #[.int .i64 a0, .int .i64 a1] w fun e w' => e = .returned (.bool r) ∧ Below w.heap.size w w' := by
  have hu25 := Try.underlying25
  have HB := Aside0.mk (Below.refl w.heap.size w)
  have H : ((manteletlaw12_shown.f k).bind fun t118 => ((passes_Groups.f k a0 a1).bind fun t119 => ((manteletref12_Groups.f k a0 a1).bind fun t122 => (if (t119.length : Int) = (t122.length : Int) then (manteletlaw12_PassesGroups.l0 k a0 a1 t118 t119 t122 0) else (none))))) = some r := h
  clear h
  replace H := Option.bind_eq_some_iff.mp H
  obtain ⟨t118, A30, H⟩ := H
  replace H : ((passes_Groups.f k a0 a1).bind fun t119 => ((manteletref12_Groups.f k a0 a1).bind fun t122 => (if (t119.length : Int) = (t122.length : Int) then (manteletlaw12_PassesGroups.l0 k a0 a1 t118 t119 t122 0) else (none)))) = some r := H
  have A3 := Aside0.mk A30
  clear A30
  replace H := Option.bind_eq_some_iff.mp H
  obtain ⟨t119, A40, H⟩ := H
  replace H : ((manteletref12_Groups.f k a0 a1).bind fun t122 => (if (t119.length : Int) = (t122.length : Int) then (manteletlaw12_PassesGroups.l0 k a0 a1 t118 t119 t122 0) else (none))) = some r := H
  have A4 := Aside0.mk A40
  clear A40
  replace H := Option.bind_eq_some_iff.mp H
  obtain ⟨t122, A50, H⟩ := H
  replace H : (if (t119.length : Int) = (t122.length : Int) then (manteletlaw12_PassesGroups.l0 k a0 a1 t118 t119 t122 0) else (none)) = some r := H
  have A5 := Aside0.mk A50
  clear A50
  by_cases c6 : (t119.length : Int) = (t122.length : Int)
  · rw [if_pos c6] at H
    have c6b0 : ((t119.length : Int) == (t122.length : Int)) = true := beq_iff_eq.mpr c6
    have c6b1 : ((t119.length : Int) != (t122.length : Int)) = false := bne_eq_false_iff_eq.mpr c6
    have c6b2 : (t119.length == t122.length) = true := by first | simpa using c6 | (simp at c6 ⊢; omega)
    clear c6
    have H' := Aside0.mk H
    clear H
    go_enter Try.func3, Try.ntmps3
    go_wp2_with (first | (go_at_call 13; (with_reducible refine (manteletlaw12_shown.calls k  t118 _ A3.out).mono ?_); rintro e w7 ⟨rfl, hb⟩; have n0_ := Aside0.mk (below_step (by repeat (first | (with_reducible first | exact HB.out | apply below_alloc | apply pw_below_drewN | apply below_drew1) | exact HB.out)) hb); clear HB; have HB := n0_; clear n0_; (try clear hb); (try clear hb2); (try clear hk); (try clear hi)) | (go_at_call 14; (with_reducible refine (passes_Groups.calls k a0 a1 t119 _ A4.out).mono ?_); rintro e w8 ⟨v120, rfl, ho0, hb⟩; have n0_ := Aside0.mk (Kd.R_lower ho0 (below_size (by repeat (first | (with_reducible first | exact HB.out | apply below_alloc | apply pw_below_drewN | apply below_drew1) | exact HB.out)))); have n1_ := Aside0.mk (below_step (by repeat (first | (with_reducible first | exact HB.out | apply below_alloc | apply pw_below_drewN | apply below_drew1) | exact HB.out)) hb); clear HB; have HO121 := n0_; have HB := n1_; clear n0_ n1_; (try clear hb); (try clear hb2); (try clear hk); (try clear hi); (try clear ho0)) | (go_at_call 15; (with_reducible refine (manteletref12_Groups.calls k a0 a1 t122 _ A5.out).mono ?_); rintro e w9 ⟨v123, rfl, ho0, hb⟩; have n0_ := Aside0.mk (Kd.R_elder' (by (with_reducible repeat (first | apply Kd.R_alloc | apply Kd.R_drewN | apply Kd.R_drew)); exact HO121.out) (Kd.R_base ho0) hb); have n1_ := Aside0.mk (Kd.R_lower (Kd.R_new' ho0 (Kd.R_lt (by (with_reducible repeat (first | apply Kd.R_alloc | apply Kd.R_drewN | apply Kd.R_drew)); exact HO121.out))) (below_size (by repeat (first | (with_reducible first | exact HB.out | apply below_alloc | apply pw_below_drewN | apply below_drew1) | exact HB.out)))); have n2_ := Aside0.mk (below_step (by repeat (first | (with_reducible first | exact HB.out | apply below_alloc | apply pw_below_drewN | apply below_drew1) | exact HB.out)) hb); clear HO121; clear HB; have HO121 := n0_; have HO124 := n1_; have HB := n2_; clear n0_ n1_ n2_; (try clear hb); (try clear hb2); (try clear hk); (try clear hi); (try clear ho0); obtain ⟨Ao10, co10, eo10⟩ := Kd.R_slice HO121.out; subst eo10; obtain ⟨Ao11, co11, eo11⟩ := Kd.R_slice HO124.out; subst eo11))
    repeat (go_quiet (first | (go_at_call 13; (with_reducible refine (manteletlaw12_shown.calls k  t118 _ A3.out).mono ?_); rintro e w7 ⟨rfl, hb⟩; have n0_ := Aside0.mk (below_step (by repeat (first | (with_reducible first | exact HB.out | apply below_alloc | apply pw_below_drewN | apply below_drew1) | exact HB.out)) hb); clear HB; have HB := n0_; clear n0_; (try clear hb); (try clear hb2); (try clear hk); (try clear hi)) | (go_at_call 14; (with_reducible refine (passes_Groups.calls k a0 a1 t119 _ A4.out).mono ?_); rintro e w8 ⟨v120, rfl, ho0, hb⟩; have n0_ := Aside0.mk (Kd.R_lower ho0 (below_size (by repeat (first | (with_reducible first | exact HB.out | apply below_alloc | apply pw_below_drewN | apply below_drew1) | exact HB.out)))); have n1_ := Aside0.mk (below_step (by repeat (first | (with_reducible first | exact HB.out | apply below_alloc | apply pw_below_drewN | apply below_drew1) | exact HB.out)) hb); clear HB; have HO121 := n0_; have HB := n1_; clear n0_ n1_; (try clear hb); (try clear hb2); (try clear hk); (try clear hi); (try clear ho0)) | (go_at_call 15; (with_reducible refine (manteletref12_Groups.calls k a0 a1 t122 _ A5.out).mono ?_); rintro e w9 ⟨v123, rfl, ho0, hb⟩; have n0_ := Aside0.mk (Kd.R_elder' (by (with_reducible repeat (first | apply Kd.R_alloc | apply Kd.R_drewN | apply Kd.R_drew)); exact HO121.out) (Kd.R_base ho0) hb); have n1_ := Aside0.mk (Kd.R_lower (Kd.R_new' ho0 (Kd.R_lt (by (with_reducible repeat (first | apply Kd.R_alloc | apply Kd.R_drewN | apply Kd.R_drew)); exact HO121.out))) (below_size (by repeat (first | (with_reducible first | exact HB.out | apply below_alloc | apply pw_below_drewN | apply below_drew1) | exact HB.out)))); have n2_ := Aside0.mk (below_step (by repeat (first | (with_reducible first | exact HB.out | apply below_alloc | apply pw_below_drewN | apply below_drew1) | exact HB.out)) hb); clear HO121; clear HB; have HO121 := n0_; have HO124 := n1_; have HB := n2_; clear n0_ n1_ n2_; (try clear hb); (try clear hb2); (try clear hk); (try clear hi); (try clear ho0); obtain ⟨Ao10, co10, eo10⟩ := Kd.R_slice HO121.out; subst eo10; obtain ⟨Ao11, co11, eo11⟩ := Kd.R_slice HO124.out; subst eo11)); try go_wp2_with (first | (go_at_call 13; (with_reducible refine (manteletlaw12_shown.calls k  t118 _ A3.out).mono ?_); rintro e w7 ⟨rfl, hb⟩; have n0_ := Aside0.mk (below_step (by repeat (first | (with_reducible first | exact HB.out | apply below_alloc | apply pw_below_drewN | apply below_drew1) | exact HB.out)) hb); clear HB; have HB := n0_; clear n0_; (try clear hb); (try clear hb2); (try clear hk); (try clear hi)) | (go_at_call 14; (with_reducible refine (passes_Groups.calls k a0 a1 t119 _ A4.out).mono ?_); rintro e w8 ⟨v120, rfl, ho0, hb⟩; have n0_ := Aside0.mk (Kd.R_lower ho0 (below_size (by repeat (first | (with_reducible first | exact HB.out | apply below_alloc | apply pw_below_drewN | apply below_drew1) | exact HB.out)))); have n1_ := Aside0.mk (below_step (by repeat (first | (with_reducible first | exact HB.out | apply below_alloc | apply pw_below_drewN | apply below_drew1) | exact HB.out)) hb); clear HB; have HO121 := n0_; have HB := n1_; clear n0_ n1_; (try clear hb); (try clear hb2); (try clear hk); (try clear hi); (try clear ho0)) | (go_at_call 15; (with_reducible refine (manteletref12_Groups.calls k a0 a1 t122 _ A5.out).mono ?_); rintro e w9 ⟨v123, rfl, ho0, hb⟩; have n0_ := Aside0.mk (Kd.R_elder' (by (with_reducible repeat (first | apply Kd.R_alloc | apply Kd.R_drewN | apply Kd.R_drew)); exact HO121.out) (Kd.R_base ho0) hb); have n1_ := Aside0.mk (Kd.R_lower (Kd.R_new' ho0 (Kd.R_lt (by (with_reducible repeat (first | apply Kd.R_alloc | apply Kd.R_drewN | apply Kd.R_drew)); exact HO121.out))) (below_size (by repeat (first | (with_reducible first | exact HB.out | apply below_alloc | apply pw_below_drewN | apply below_drew1) | exact HB.out)))); have n2_ := Aside0.mk (below_step (by repeat (first | (with_reducible first | exact HB.out | apply below_alloc | apply pw_below_drewN | apply below_drew1) | exact HB.out)) hb); clear HO121; clear HB; have HO121 := n0_; have HO124 := n1_; have HB := n2_; clear n0_ n1_ n2_; (try clear hb); (try clear hb2); (try clear hk); (try clear hi); (try clear ho0); obtain ⟨Ao10, co10, eo10⟩ := Kd.R_slice HO121.out; subst eo10; obtain ⟨Ao11, co11, eo11⟩ := Kd.R_slice HO124.out; subst eo11)))
    go_loopg [8] k (fun kq v8 w' => ∃ (x8_1 : Int), v8 = .int .i64 x8_1 ∧ Aside0 (manteletlaw12_PassesGroups.l0 kq a0 a1 t118 t119 t122 x8_1 = some r) ∧ Aside0 (kq ≤ k) ∧ Aside0 (Kd.R k25 25 w' w.heap.size (fun k_ => some k_ ≠ ((.slice Ao11 t122.length co11) : Value).ownBlock) (.slice Ao10 t119.length co10) t119) ∧ Aside0 (Kd.R k25 25 w' w.heap.size (fun k_ => some k_ ≠ ((.slice Ao10 t119.length co10) : Value).ownBlock) (.slice Ao11 t122.length co11) t122) ∧ Aside0 (Below w.heap.size w w'))
    case atStart => exact ⟨(0), (by first | rfl | (simp; done) | (simp [*]; done)), H', ⟨Nat.le_refl _⟩, ⟨by (with_reducible repeat (first | apply Kd.R_alloc | apply Kd.R_drewN | apply Kd.R_drew)); exact Kd.R_mono HO121.out (fun _ hk => hk.2)⟩, ⟨by (with_reducible repeat (first | apply Kd.R_alloc | apply Kd.R_drewN | apply Kd.R_drew)); exact Kd.R_mono HO124.out (fun _ hk => hk.2)⟩, ⟨by repeat (first | (with_reducible first | exact HB.out | apply below_alloc | apply pw_below_drewN | apply below_drew1) | exact HB.out)⟩⟩
    case round =>
      clear H'
      try clear p2
      try clear c3
      try clear c6
      try clear c6b0
      try clear c6b1
      try clear c6b2
      obtain ⟨x8_1, rfl, HA, HK1, HO_6, HO_7, HB⟩ := hrel
      cases gk with
      | zero => exact absurd HA.out (by simp [manteletlaw12_PassesGroups.l0])
      | succ k1 =>
        have H := HA.out
        clear HA
        simp only [manteletlaw12_PassesGroups.l0] at H
        by_cases c12 : x8_1 < (t119.length : Int)
        · rw [if_pos c12] at H
          have c12b0 : decide (x8_1 < (t119.length : Int)) = true := decide_eq_true c12
          clear c12
          by_cases c13 : 0 ≤ x8_1
          · rw [if_pos c13] at H
            have c13b0 : decide (0 ≤ x8_1) = true := decide_eq_true c13
            clear c13
            by_cases c14 : x8_1 < (t122.length : Int)
            · rw [if_pos c14] at H
              have c14b0 : decide (x8_1 < (t122.length : Int)) = true := decide_eq_true c14
              clear c14
              by_cases c15 : (!(((rd_T25 t119 x8_1).f0) == ((rd_T25 t122 x8_1).f0)) || (!(((rd_T25 t119 x8_1).f1) == ((rd_T25 t122 x8_1).f1)))) = true
              · rw [if_pos c15] at H
                exact absurd H (by simp)
              · rw [if_neg c15] at H
                have c15b0 : (!(((rd_T25 t119 x8_1).f0) == ((rd_T25 t122 x8_1).f0)) || (!(((rd_T25 t119 x8_1).f1) == ((rd_T25 t122 x8_1).f1)))) = false := by simpa using c15
                clear c15
                have H' := Aside0.mk H
                clear H
                have p125 : 0 ≤ (x8_1 : Int) := of_decide_eq_true (by first | (with_reducible assumption) | assumption)
                have q125 : x8_1 < (t119.length : Int) := of_decide_eq_true (by first | (with_reducible assumption) | assumption)
                obtain ⟨ad125, e125, hx125_0, hx125_1⟩ := at_T25 (Kd.R_reads' HO_6.out).2.2 x8_1 p125 q125
                cases e125
                replace p125 := eq_true p125
                replace q125 := eq_true q125
                have p126 : 0 ≤ (x8_1 : Int) := of_decide_eq_true (by first | (with_reducible assumption) | assumption)
                have q126 : x8_1 < (t122.length : Int) := of_decide_eq_true (by first | (with_reducible assumption) | assumption)
                obtain ⟨ad126, e126, hx126_0, hx126_1⟩ := at_T25 (Kd.R_reads' HO_7.out).2.2 x8_1 p126 q126
                cases e126
                replace p126 := eq_true p126
                replace q126 := eq_true q126
                go_wp2
                repeat (go_quiet (fail); try go_wp2)
                go_roundg k1
                case measure => have := HK1.out; omega
                case rel => exact ⟨(wrap64 (x8_1 + 1)), (by first | rfl | (simp; done) | (simp [*]; done)), H', ⟨by have := HK1.out; omega⟩, ⟨by (with_reducible repeat (first | apply Kd.R_alloc | apply Kd.R_drewN | apply Kd.R_drew)); exact HO_6.out⟩, ⟨by (with_reducible repeat (first | apply Kd.R_alloc | apply Kd.R_drewN | apply Kd.R_drew)); exact HO_7.out⟩, ⟨by repeat (first | (with_reducible first | exact HB.out | apply below_alloc | apply pw_below_drewN | apply below_drew1) | exact HB.out)⟩⟩
            · rw [if_neg c14] at H
              exact absurd H (by simp)
          · rw [if_neg c13] at H
            exact absurd H (by simp)
        · rw [if_neg c12] at H
          have c12b0 : decide (x8_1 < (t119.length : Int)) = false := decide_eq_false c12
          clear c12
          by_cases c16 : t118 = true
          · subst c16
            have H1 : ((passes_Passes.f a0 a1).bind fun t127 => ((manteletref12_Passes.f k1 a0 a1).bind fun t128 => (some (t127 == t128)))) = some r := by rw [if_pos rfl] at H; exact H
            clear H
            have H := H1
            clear H1
            replace H := Option.bind_eq_some_iff.mp H
            obtain ⟨t127, A170, H⟩ := H
            replace H : ((manteletref12_Passes.f k1 a0 a1).bind fun t128 => (some (t127 == t128))) = some r := H
            have A17 := Aside0.mk A170
            clear A170
            replace H := Option.bind_eq_some_iff.mp H
            obtain ⟨t128, A180, H⟩ := H
            replace H : (some (t127 == t128)) = some r := H
            have A18 := Aside0.mk A180
            clear A180
            obtain rfl := Option.some.inj H
            go_wp2_with (first | (go_at_call 16; (with_reducible refine (passes_Passes.calls a0 a1 t127 _ A17.out).mono ?_); rintro e w19 ⟨rfl, hb⟩; have n0_ := Aside0.mk (Kd.R_below (by (with_reducible repeat (first | apply Kd.R_alloc | apply Kd.R_drewN | apply Kd.R_drew)); exact HO_6.out) hb); have n1_ := Aside0.mk (Kd.R_below (by (with_reducible repeat (first | apply Kd.R_alloc | apply Kd.R_drewN | apply Kd.R_drew)); exact HO_7.out) hb); have n2_ := Aside0.mk (below_step (by repeat (first | (with_reducible first | exact HB.out | apply below_alloc | apply pw_below_drewN | apply below_drew1) | exact HB.out)) hb); clear HO_6; clear HO_7; clear HB; have HO_6 := n0_; have HO_7 := n1_; have HB := n2_; clear n0_ n1_ n2_; (try clear hb); (try clear hb2); (try clear hk); (try clear hi)) | (go_at_call 17; (with_reducible refine (manteletref12_Passes.calls k1 a0 a1 t128 _ A18.out).mono ?_); rintro e w' ⟨rfl, ⟨nd, rfl⟩⟩; (try first | exact ⟨rfl, _, World.drewN_drewN _ _ _⟩ | exact ⟨rfl, _, Eq.trans (World.drewN_drewN _ _ _) (congrArg (World.drewN _) (Nat.add_assoc _ _ _))⟩)))
            repeat (go_quiet (first | (go_at_call 16; (with_reducible refine (passes_Passes.calls a0 a1 t127 _ A17.out).mono ?_); rintro e w19 ⟨rfl, hb⟩; have n0_ := Aside0.mk (Kd.R_below (by (with_reducible repeat (first | apply Kd.R_alloc | apply Kd.R_drewN | apply Kd.R_drew)); exact HO_6.out) hb); have n1_ := Aside0.mk (Kd.R_below (by (with_reducible repeat (first | apply Kd.R_alloc | apply Kd.R_drewN | apply Kd.R_drew)); exact HO_7.out) hb); have n2_ := Aside0.mk (below_step (by repeat (first | (with_reducible first | exact HB.out | apply below_alloc | apply pw_below_drewN | apply below_drew1) | exact HB.out)) hb); clear HO_6; clear HO_7; clear HB; have HO_6 := n0_; have HO_7 := n1_; have HB := n2_; clear n0_ n1_ n2_; (try clear hb); (try clear hb2); (try clear hk); (try clear hi)) | (go_at_call 17; (with_reducible refine (manteletref12_Passes.calls k1 a0 a1 t128 _ A18.out).mono ?_); rintro e w' ⟨rfl, ⟨nd, rfl⟩⟩; (try first | exact ⟨rfl, _, World.drewN_drewN _ _ _⟩ | exact ⟨rfl, _, Eq.trans (World.drewN_drewN _ _ _) (congrArg (World.drewN _) (Nat.add_assoc _ _ _))⟩))); try go_wp2_with (first | (go_at_call 16; (with_reducible refine (passes_Passes.calls a0 a1 t127 _ A17.out).mono ?_); rintro e w19 ⟨rfl, hb⟩; have n0_ := Aside0.mk (Kd.R_below (by (with_reducible repeat (first | apply Kd.R_alloc | apply Kd.R_drewN | apply Kd.R_drew)); exact HO_6.out) hb); have n1_ := Aside0.mk (Kd.R_below (by (with_reducible repeat (first | apply Kd.R_alloc | apply Kd.R_drewN | apply Kd.R_drew)); exact HO_7.out) hb); have n2_ := Aside0.mk (below_step (by repeat (first | (with_reducible first | exact HB.out | apply below_alloc | apply pw_below_drewN | apply below_drew1) | exact HB.out)) hb); clear HO_6; clear HO_7; clear HB; have HO_6 := n0_; have HO_7 := n1_; have HB := n2_; clear n0_ n1_ n2_; (try clear hb); (try clear hb2); (try clear hk); (try clear hi)) | (go_at_call 17; (with_reducible refine (manteletref12_Passes.calls k1 a0 a1 t128 _ A18.out).mono ?_); rintro e w' ⟨rfl, ⟨nd, rfl⟩⟩; (try first | exact ⟨rfl, _, World.drewN_drewN _ _ _⟩ | exact ⟨rfl, _, Eq.trans (World.drewN_drewN _ _ _) (congrArg (World.drewN _) (Nat.add_assoc _ _ _))⟩))))
            go_ret
            exact ⟨by first | rfl | (simp [errW_none, errW_some] <;> rfl) | (have e_ := Option.some.inj (A3.out.symm.trans A4.out); subst e_; rfl) | (have e_ := Option.some.inj (A3.out.symm.trans A5.out); subst e_; rfl) | (have e_ := Option.some.inj (A4.out.symm.trans A5.out); subst e_; rfl) | (have e_ := Option.some.inj (A3.out.symm.trans A17.out); subst e_; rfl) | (have e_ := Option.some.inj (A4.out.symm.trans A17.out); subst e_; rfl) | (have e_ := Option.some.inj (A5.out.symm.trans A17.out); subst e_; rfl) | (have e_ := Option.some.inj (A3.out.symm.trans A18.out); subst e_; rfl) | (have e_ := Option.some.inj (A4.out.symm.trans A18.out); subst e_; rfl) | (have e_ := Option.some.inj (A5.out.symm.trans A18.out); subst e_; rfl) | (have e_ := Option.some.inj (A17.out.symm.trans A18.out); subst e_; rfl) | (simp [*, errW_none, errW_some] <;> rfl), by repeat (first | (with_reducible first | exact HB.out | apply below_alloc | apply pw_below_drewN | apply below_drew1) | exact HB.out)⟩
          · replace c16 := Bool.eq_false_iff.mpr c16
            subst c16
            have H1 : (none) = some r := by rw [if_neg (show ¬ (false = true) by decide)] at H; exact H
            clear H
            have H := H1
            clear H1
            exact absurd H (by simp)
  · rw [if_neg c6] at H
    exact absurd H (by simp)

/-- THE ONE PURE STATEMENT of manteletlaw12_PassesGroups: yours. -/
def manteletlaw12_PassesGroups.Pure : Prop := ∀ (a0 : Int) (a1 : Int), (Lit.int .i64 a0).wf = true → (Lit.int .i64 a1).wf = true → ∃ k, manteletlaw12_PassesGroups.f k a0 a1 = some true
theorem manteletlaw12_PassesGroups.walk (P : manteletlaw12_PassesGroups.Pure) (a0 : Int) (a1 : Int) (w : World) (w0 : (Lit.int .i64 a0).wf = true) (w1 : (Lit.int .i64 a1).wf = true) :
    Calls Try.prog 3 #[.int .i64 a0, .int .i64 a1] w fun e w' => e = .returned (.bool true) ∧ Below w.heap.size w w' := by
  obtain ⟨k, h⟩ := P a0 a1 w0 w1
  refine (manteletlaw12_PassesGroups.calls k a0 a1 true w h).mono ?_
  rintro e w' ⟨rfl, hd⟩
  exact ⟨rfl, hd⟩

/-! ### manteletlaw12_PassesFew: function 4 -/
mutual
def manteletlaw12_PassesFew.l0 : Nat → Bool → Int → Int → List (S25) → Int → Int → Option (Bool)
  | 0, _, _, _, _, _, _ => none
  | k + 1, x5, x6, x7, x8, x9, x10 => if x10 < (x8.length : Int) then (if 0 ≤ x10 then (if ((rd_T25 x8 x10).f0) = x9 then (if ((rd_T25 x8 x10).f1) ≤ x9 then (none) else (if (wrap64 (((rd_T25 x8 x10).f1) - x9)) > x7 then (none) else (if x10 < (wrap64 ((x8.length : Int) - 1)) then (if (wrap64 (((rd_T25 x8 x10).f1) - x9)) = x7 then (manteletlaw12_PassesFew.l0 k x5 x6 x7 x8 ((rd_T25 x8 x10).f1) (wrap64 (x10 + 1))) else (none)) else (manteletlaw12_PassesFew.l0 k x5 x6 x7 x8 ((rd_T25 x8 x10).f1) (wrap64 (x10 + 1)))))) else (none)) else (none)) else ((passes_Passes.f x6 x7).bind fun t139 => (manteletlaw12_PassesFew.l1 k x5 x6 x7 x9 t139 1 1 0))
def manteletlaw12_PassesFew.l1 : Nat → Bool → Int → Int → Int → Int → Int → Int → Int → Option (Bool)
  | 0, _, _, _, _, _, _, _, _ => none
  | k + 1, x5, x6, x7, x9, x11, x12, x13, x14 => if x14 < x11 then (if x14 < 20 then (manteletlaw12_PassesFew.l1 k x5 x6 x7 x9 x11 (wrap64 (x12 * x7)) x12 (wrap64 (x14 + 1))) else (if x5 = true then (if x9 = x6 then (if x12 ≥ x6 then (if x11 = 0 then (some true) else (some (decide (x13 < x6)))) else (none)) else (none)) else (none))) else (if x5 = true then (if x9 = x6 then (if x12 ≥ x6 then (if x11 = 0 then (some true) else (some (decide (x13 < x6)))) else (none)) else (none)) else (none))
end
def manteletlaw12_PassesFew.f (k : Nat) (a0 : Int) (a1 : Int) : Option (Bool) := (manteletlaw12_shown.f k).bind fun t129 => ((passes_Groups.f k (wrap64 (1 + (wrap64 (a0)))) (wrap64 (2 + (wrap64 (Int.tmod a1 7))))).bind fun t130 => (manteletlaw12_PassesFew.l0 k t129 (wrap64 (1 + (wrap64 (a0)))) (wrap64 (2 + (wrap64 (Int.tmod a1 7)))) t130 0 0))
theorem manteletlaw12_PassesFew.mono_l : ∀ k, (∀ y0 y1 y2 y3 y4 y5, LeO (manteletlaw12_PassesFew.l0 k y0 y1 y2 y3 y4 y5) (manteletlaw12_PassesFew.l0 (k + 1) y0 y1 y2 y3 y4 y5)) ∧ (∀ y0 y1 y2 y3 y4 y5 y6 y7, LeO (manteletlaw12_PassesFew.l1 k y0 y1 y2 y3 y4 y5 y6 y7) (manteletlaw12_PassesFew.l1 (k + 1) y0 y1 y2 y3 y4 y5 y6 y7))
  | 0 => ⟨fun _ _ _ _ _ _ r h => by simp [manteletlaw12_PassesFew.l0] at h, fun _ _ _ _ _ _ _ _ r h => by simp [manteletlaw12_PassesFew.l1] at h⟩
  | k + 1 => by
    obtain ⟨ih0, ih1⟩ := manteletlaw12_PassesFew.mono_l k
    refine ⟨?_, ?_⟩
    · intro y0 y1 y2 y3 y4 y5
      unfold manteletlaw12_PassesFew.l0
      repeat' first
      | (with_reducible exact ih0 _ _ _ _ _ _)
      | (with_reducible exact ih1 _ _ _ _ _ _ _ _)
      | (with_reducible exact manteletlaw12_shown.mono _)
      | (with_reducible exact passes_Groups.mono _ _ _)
      | (with_reducible exact LeO.refl _)
      | (with_reducible exact LeO.none _)
      | (with_reducible refine LeO.ite ?_ ?_)
      | (with_reducible refine LeO.bind ?_ (fun _ => ?_))
      | exact ih0 _ _ _ _ _ _
      | exact ih1 _ _ _ _ _ _ _ _
      | exact manteletlaw12_shown.mono _
      | exact passes_Groups.mono _ _ _
      | exact LeO.none _
      | refine LeO.ite ?_ ?_
      | refine LeO.bind ?_ (fun _ => ?_)
    · intro y0 y1 y2 y3 y4 y5 y6 y7
      unfold manteletlaw12_PassesFew.l1
      repeat' first
      | (with_reducible exact ih0 _ _ _ _ _ _)
      | (with_reducible exact ih1 _ _ _ _ _ _ _ _)
      | (with_reducible exact manteletlaw12_shown.mono _)
      | (with_reducible exact passes_Groups.mono _ _ _)
      | (with_reducible exact LeO.refl _)
      | (with_reducible exact LeO.none _)
      | (with_reducible refine LeO.ite ?_ ?_)
      | (with_reducible refine LeO.bind ?_ (fun _ => ?_))
      | exact ih0 _ _ _ _ _ _
      | exact ih1 _ _ _ _ _ _ _ _
      | exact manteletlaw12_shown.mono _
      | exact passes_Groups.mono _ _ _
      | exact LeO.none _
      | refine LeO.ite ?_ ?_
      | refine LeO.bind ?_ (fun _ => ?_)
theorem manteletlaw12_PassesFew.mono : ∀ a0 a1 k, LeO (manteletlaw12_PassesFew.f k a0 a1) (manteletlaw12_PassesFew.f (k + 1) a0 a1) := by
  intro a0 a1 k
  obtain ⟨ih0, ih1⟩ := manteletlaw12_PassesFew.mono_l k
  unfold manteletlaw12_PassesFew.f
  repeat' first
      | (with_reducible exact ih0 _ _ _ _ _ _)
      | (with_reducible exact ih1 _ _ _ _ _ _ _ _)
      | (with_reducible exact manteletlaw12_shown.mono _)
      | (with_reducible exact passes_Groups.mono _ _ _)
      | (with_reducible exact LeO.refl _)
      | (with_reducible exact LeO.none _)
      | (with_reducible refine LeO.ite ?_ ?_)
      | (with_reducible refine LeO.bind ?_ (fun _ => ?_))
      | exact ih0 _ _ _ _ _ _
      | exact ih1 _ _ _ _ _ _ _ _
      | exact manteletlaw12_shown.mono _
      | exact passes_Groups.mono _ _ _
      | exact LeO.none _
      | refine LeO.ite ?_ ?_
      | refine LeO.bind ?_ (fun _ => ?_)
set_option maxHeartbeats 8000000 in
set_option maxRecDepth 100000 in
theorem manteletlaw12_PassesFew.calls (k : Nat) (a0 : Int) (a1 : Int) (r : Bool) (w : World) (h : manteletlaw12_PassesFew.f k a0 a1 = some r) :
    Calls Try.prog 4 #[.int .u16 a0, .int .u8 a1] w fun e w' => e = .returned (.bool r) ∧ Below w.heap.size w w' := by
  have HB := Aside0.mk (Below.refl w.heap.size w)
  have H : ((manteletlaw12_shown.f k).bind fun t129 => ((passes_Groups.f k (wrap64 (1 + (wrap64 (a0)))) (wrap64 (2 + (wrap64 (Int.tmod a1 7))))).bind fun t130 => (manteletlaw12_PassesFew.l0 k t129 (wrap64 (1 + (wrap64 (a0)))) (wrap64 (2 + (wrap64 (Int.tmod a1 7)))) t130 0 0))) = some r := h
  clear h
  replace H := Option.bind_eq_some_iff.mp H
  obtain ⟨t129, A30, H⟩ := H
  replace H : ((passes_Groups.f k (wrap64 (1 + (wrap64 (a0)))) (wrap64 (2 + (wrap64 (Int.tmod a1 7))))).bind fun t130 => (manteletlaw12_PassesFew.l0 k t129 (wrap64 (1 + (wrap64 (a0)))) (wrap64 (2 + (wrap64 (Int.tmod a1 7)))) t130 0 0)) = some r := H
  have A3 := Aside0.mk A30
  clear A30
  replace H := Option.bind_eq_some_iff.mp H
  obtain ⟨t130, A40, H⟩ := H
  replace H : (manteletlaw12_PassesFew.l0 k t129 (wrap64 (1 + (wrap64 (a0)))) (wrap64 (2 + (wrap64 (Int.tmod a1 7)))) t130 0 0) = some r := H
  have A4 := Aside0.mk A40
  clear A40
  have H' := Aside0.mk H
  clear H
  go_enter Try.func4, Try.ntmps4
  go_wp2_with (first | ((with_reducible refine gate_callee (f := 13) rfl ?_); refine goesL_ (some 15) rfl rfl Try.func13 (by kernel_rfl) rfl #[] rfl (by (try simp only [List.map_toArray, List.map_cons, List.map_nil]); first | done | rfl | (simp only [List.length_drop, List.length_take]; rfl)) ?_; (with_reducible refine (manteletlaw12_shown.calls k  t129 _ A3.out).mono ?_); rintro e w5 ⟨rfl, hb⟩; refine ⟨_, rfl, ?_⟩; have n0_ := Aside0.mk (below_step (by repeat (first | (with_reducible first | exact HB.out | apply below_alloc | apply pw_below_drewN | apply below_drew1) | exact HB.out)) hb); clear HB; have HB := n0_; clear n0_; (try clear hb); (try clear hb2); (try clear hk); (try clear hi)) | ((with_reducible refine gate_callee (f := 14) rfl ?_); refine goesL_ (some 25) rfl rfl Try.func14 (by kernel_rfl) rfl #[.int .i64 (wrap64 (1 + (wrap64 (a0)))), .int .i64 (wrap64 (2 + (wrap64 (Int.tmod a1 7))))] rfl (by (try simp only [List.map_toArray, List.map_cons, List.map_nil]); first | done | rfl | (simp only [List.length_drop, List.length_take]; rfl)) ?_; (with_reducible refine (passes_Groups.calls k (wrap64 (1 + (wrap64 (a0)))) (wrap64 (2 + (wrap64 (Int.tmod a1 7)))) t130 _ A4.out).mono ?_); rintro e w6 ⟨v131, rfl, ho0, hb⟩; refine ⟨_, rfl, ?_⟩; have n0_ := Aside0.mk (Kd.R_lower ho0 (below_size (by repeat (first | (with_reducible first | exact HB.out | apply below_alloc | apply pw_below_drewN | apply below_drew1) | exact HB.out)))); have n1_ := Aside0.mk (below_step (by repeat (first | (with_reducible first | exact HB.out | apply below_alloc | apply pw_below_drewN | apply below_drew1) | exact HB.out)) hb); clear HB; have HO132 := n0_; have HB := n1_; clear n0_ n1_; (try clear hb); (try clear hb2); (try clear hk); (try clear hi); (try clear ho0)))
  go_loopg [9, 10] k (fun kq v9 v10 w' => ∃ (x9_1 : Int) (x10_1 : Int), v9 = .int .i64 x9_1 ∧ v10 = .int .i64 x10_1 ∧ Aside0 (manteletlaw12_PassesFew.l0 kq t129 (wrap64 (1 + (wrap64 (a0)))) (wrap64 (2 + (wrap64 (Int.tmod a1 7)))) t130 x9_1 x10_1 = some r) ∧ Aside0 (kq ≤ k) ∧ Aside0 (Kd.R k25 25 w' w.heap.size (fun _ => True) v131 t130) ∧ Aside0 (Below w.heap.size w w'))
  case atStart => exact ⟨(0), (0), (by first | rfl | (simp; done) | (simp [*]; done)), (by first | rfl | (simp; done) | (simp [*]; done)), H', ⟨Nat.le_refl _⟩, ⟨by (with_reducible repeat (first | apply Kd.R_alloc | apply Kd.R_drewN | apply Kd.R_drew)); exact HO132.out⟩, ⟨by repeat (first | (with_reducible first | exact HB.out | apply below_alloc | apply pw_below_drewN | apply below_drew1) | exact HB.out)⟩⟩
  case round =>
    clear H'
    try clear c1
    try clear p2
    try clear c4
    try clear p6
    obtain ⟨x9_1, x10_1, rfl, rfl, HA, HK1, HO_8, HB⟩ := hrel
    cases gk with
    | zero => exact absurd HA.out (by simp [manteletlaw12_PassesFew.l0])
    | succ k1 =>
      have H := HA.out
      clear HA
      simp only [manteletlaw12_PassesFew.l0] at H
      by_cases c7 : x10_1 < (t130.length : Int)
      · rw [if_pos c7] at H
        have c7b0 : decide (x10_1 < (t130.length : Int)) = true := decide_eq_true c7
        clear c7
        by_cases c8 : 0 ≤ x10_1
        · rw [if_pos c8] at H
          have c8b0 : decide (0 ≤ x10_1) = true := decide_eq_true c8
          clear c8
          by_cases c9 : ((rd_T25 t130 x10_1).f0) = x9_1
          · rw [if_pos c9] at H
            have c9b0 : (((rd_T25 t130 x10_1).f0) == x9_1) = true := beq_iff_eq.mpr c9
            have c9b1 : (((rd_T25 t130 x10_1).f0) != x9_1) = false := bne_eq_false_iff_eq.mpr c9
            clear c9
            by_cases c10 : ((rd_T25 t130 x10_1).f1) ≤ x9_1
            · rw [if_pos c10] at H
              exact absurd H (by simp)
            · rw [if_neg c10] at H
              have c10b0 : decide (((rd_T25 t130 x10_1).f1) ≤ x9_1) = false := decide_eq_false c10
              clear c10
              by_cases c11 : (wrap64 (((rd_T25 t130 x10_1).f1) - x9_1)) > (wrap64 (2 + (wrap64 (Int.tmod a1 7))))
              · rw [if_pos c11] at H
                exact absurd H (by simp)
              · rw [if_neg c11] at H
                have c11b0 : decide ((wrap64 (2 + (wrap64 (Int.tmod a1 7)))) < (wrap64 (((rd_T25 t130 x10_1).f1) - x9_1))) = false := decide_eq_false c11
                clear c11
                by_cases c12 : x10_1 < (wrap64 ((t130.length : Int) - 1))
                · rw [if_pos c12] at H
                  have c12b0 : decide (x10_1 < (wrap64 ((t130.length : Int) - 1))) = true := decide_eq_true c12
                  clear c12
                  by_cases c13 : (wrap64 (((rd_T25 t130 x10_1).f1) - x9_1)) = (wrap64 (2 + (wrap64 (Int.tmod a1 7))))
                  · rw [if_pos c13] at H
                    have c13b0 : ((wrap64 (((rd_T25 t130 x10_1).f1) - x9_1)) == (wrap64 (2 + (wrap64 (Int.tmod a1 7))))) = true := beq_iff_eq.mpr c13
                    have c13b1 : ((wrap64 (((rd_T25 t130 x10_1).f1) - x9_1)) != (wrap64 (2 + (wrap64 (Int.tmod a1 7))))) = false := bne_eq_false_iff_eq.mpr c13
                    clear c13
                    have H' := Aside0.mk H
                    clear H
                    obtain ⟨Ao14, co14, eo14⟩ := Kd.R_slice HO_8.out
                    subst eo14
                    have p133 : 0 ≤ (x10_1 : Int) := of_decide_eq_true (by first | (with_reducible assumption) | assumption)
                    have q133 : x10_1 < (t130.length : Int) := of_decide_eq_true (by first | (with_reducible assumption) | assumption)
                    obtain ⟨ad133, e133, hx133_0, hx133_1⟩ := at_T25 (Kd.R_reads' HO_8.out).2.2 x10_1 p133 q133
                    cases e133
                    replace p133 := eq_true p133
                    replace q133 := eq_true q133
                    have p134 : 0 ≤ (x10_1 : Int) := of_decide_eq_true (by first | (with_reducible assumption) | assumption)
                    have q134 : x10_1 < (t130.length : Int) := of_decide_eq_true (by first | (with_reducible assumption) | assumption)
                    obtain ⟨ad134, e134, hx134_0, hx134_1⟩ := at_T25 (Kd.R_reads' HO_8.out).2.2 x10_1 p134 q134
                    obtain rfl : ad133 = ad134 := (by injection e134)
                    replace p134 := eq_true p134
                    replace q134 := eq_true q134
                    have p135 : 0 ≤ (x10_1 : Int) := of_decide_eq_true (by first | (with_reducible assumption) | assumption)
                    have q135 : x10_1 < (t130.length : Int) := of_decide_eq_true (by first | (with_reducible assumption) | assumption)
                    obtain ⟨ad135, e135, hx135_0, hx135_1⟩ := at_T25 (Kd.R_reads' HO_8.out).2.2 x10_1 p135 q135
                    obtain rfl : ad133 = ad135 := (by injection e135)
                    replace p135 := eq_true p135
                    replace q135 := eq_true q135
                    have p136 : 0 ≤ (x10_1 : Int) := of_decide_eq_true (by first | (with_reducible assumption) | assumption)
                    have q136 : x10_1 < (t130.length : Int) := of_decide_eq_true (by first | (with_reducible assumption) | assumption)
                    obtain ⟨ad136, e136, hx136_0, hx136_1⟩ := at_T25 (Kd.R_reads' HO_8.out).2.2 x10_1 p136 q136
                    obtain rfl : ad133 = ad136 := (by injection e136)
                    replace p136 := eq_true p136
                    replace q136 := eq_true q136
                    have p137 : 0 ≤ (x10_1 : Int) := of_decide_eq_true (by first | (with_reducible assumption) | assumption)
                    have q137 : x10_1 < (t130.length : Int) := of_decide_eq_true (by first | (with_reducible assumption) | assumption)
                    obtain ⟨ad137, e137, hx137_0, hx137_1⟩ := at_T25 (Kd.R_reads' HO_8.out).2.2 x10_1 p137 q137
                    obtain rfl : ad133 = ad137 := (by injection e137)
                    replace p137 := eq_true p137
                    replace q137 := eq_true q137
                    go_wp2
                    go_roundg k1
                    case measure => have := HK1.out; omega
                    case rel => exact ⟨((rd_T25 t130 x10_1).f1), (wrap64 (x10_1 + 1)), (by first | rfl | (simp; done) | (simp [*]; done)), (by first | rfl | (simp; done) | (simp [*]; done)), H', ⟨by have := HK1.out; omega⟩, ⟨by (with_reducible repeat (first | apply Kd.R_alloc | apply Kd.R_drewN | apply Kd.R_drew)); exact HO_8.out⟩, ⟨by repeat (first | (with_reducible first | exact HB.out | apply below_alloc | apply pw_below_drewN | apply below_drew1) | exact HB.out)⟩⟩
                  · rw [if_neg c13] at H
                    exact absurd H (by simp)
                · rw [if_neg c12] at H
                  have c12b0 : decide (x10_1 < (wrap64 ((t130.length : Int) - 1))) = false := decide_eq_false c12
                  clear c12
                  have H' := Aside0.mk H
                  clear H
                  obtain ⟨Ao15, co15, eo15⟩ := Kd.R_slice HO_8.out
                  subst eo15
                  have p133 : 0 ≤ (x10_1 : Int) := of_decide_eq_true (by first | (with_reducible assumption) | assumption)
                  have q133 : x10_1 < (t130.length : Int) := of_decide_eq_true (by first | (with_reducible assumption) | assumption)
                  obtain ⟨ad133, e133, hx133_0, hx133_1⟩ := at_T25 (Kd.R_reads' HO_8.out).2.2 x10_1 p133 q133
                  cases e133
                  replace p133 := eq_true p133
                  replace q133 := eq_true q133
                  have p134 : 0 ≤ (x10_1 : Int) := of_decide_eq_true (by first | (with_reducible assumption) | assumption)
                  have q134 : x10_1 < (t130.length : Int) := of_decide_eq_true (by first | (with_reducible assumption) | assumption)
                  obtain ⟨ad134, e134, hx134_0, hx134_1⟩ := at_T25 (Kd.R_reads' HO_8.out).2.2 x10_1 p134 q134
                  obtain rfl : ad133 = ad134 := (by injection e134)
                  replace p134 := eq_true p134
                  replace q134 := eq_true q134
                  have p135 : 0 ≤ (x10_1 : Int) := of_decide_eq_true (by first | (with_reducible assumption) | assumption)
                  have q135 : x10_1 < (t130.length : Int) := of_decide_eq_true (by first | (with_reducible assumption) | assumption)
                  obtain ⟨ad135, e135, hx135_0, hx135_1⟩ := at_T25 (Kd.R_reads' HO_8.out).2.2 x10_1 p135 q135
                  obtain rfl : ad133 = ad135 := (by injection e135)
                  replace p135 := eq_true p135
                  replace q135 := eq_true q135
                  have p138 : 0 ≤ (x10_1 : Int) := of_decide_eq_true (by first | (with_reducible assumption) | assumption)
                  have q138 : x10_1 < (t130.length : Int) := of_decide_eq_true (by first | (with_reducible assumption) | assumption)
                  obtain ⟨ad138, e138, hx138_0, hx138_1⟩ := at_T25 (Kd.R_reads' HO_8.out).2.2 x10_1 p138 q138
                  obtain rfl : ad133 = ad138 := (by injection e138)
                  replace p138 := eq_true p138
                  replace q138 := eq_true q138
                  go_wp2
                  go_roundg k1
                  case measure => have := HK1.out; omega
                  case rel => exact ⟨((rd_T25 t130 x10_1).f1), (wrap64 (x10_1 + 1)), (by first | rfl | (simp; done) | (simp [*]; done)), (by first | rfl | (simp; done) | (simp [*]; done)), H', ⟨by have := HK1.out; omega⟩, ⟨by (with_reducible repeat (first | apply Kd.R_alloc | apply Kd.R_drewN | apply Kd.R_drew)); exact HO_8.out⟩, ⟨by repeat (first | (with_reducible first | exact HB.out | apply below_alloc | apply pw_below_drewN | apply below_drew1) | exact HB.out)⟩⟩
          · rw [if_neg c9] at H
            exact absurd H (by simp)
        · rw [if_neg c8] at H
          exact absurd H (by simp)
      · rw [if_neg c7] at H
        have c7b0 : decide (x10_1 < (t130.length : Int)) = false := decide_eq_false c7
        clear c7
        replace H := Option.bind_eq_some_iff.mp H
        obtain ⟨t139, A160, H⟩ := H
        replace H : (manteletlaw12_PassesFew.l1 k1 t129 (wrap64 (1 + (wrap64 (a0)))) (wrap64 (2 + (wrap64 (Int.tmod a1 7)))) x9_1 t139 1 1 0) = some r := H
        have A16 := Aside0.mk A160
        clear A160
        have H' := Aside0.mk H
        clear H
        obtain ⟨Ao17, co17, eo17⟩ := Kd.R_slice HO_8.out
        subst eo17
        go_wp2_with (first | ((with_reducible refine gate_callee (f := 16) rfl ?_); refine goesL_ (some 84) rfl rfl Try.func16 (by kernel_rfl) rfl #[.int .i64 (wrap64 (1 + (wrap64 (a0)))), .int .i64 (wrap64 (2 + (wrap64 (Int.tmod a1 7))))] rfl (by (try simp only [List.map_toArray, List.map_cons, List.map_nil]); first | done | rfl | (simp only [List.length_drop, List.length_take]; rfl)) ?_; (with_reducible refine (passes_Passes.calls (wrap64 (1 + (wrap64 (a0)))) (wrap64 (2 + (wrap64 (Int.tmod a1 7)))) t139 _ A16.out).mono ?_); rintro e w18 ⟨rfl, hb⟩; refine ⟨_, rfl, ?_⟩; have n0_ := Aside0.mk (Kd.R_below (by (with_reducible repeat (first | apply Kd.R_alloc | apply Kd.R_drewN | apply Kd.R_drew)); exact HO_8.out) hb); have n1_ := Aside0.mk (below_step (by repeat (first | (with_reducible first | exact HB.out | apply below_alloc | apply pw_below_drewN | apply below_drew1) | exact HB.out)) hb); clear HO_8; clear HB; have HO_8 := n0_; have HB := n1_; clear n0_ n1_; (try clear hb); (try clear hb2); (try clear hk); (try clear hi)))
        go_loopg [12, 13, 14] k1 (fun kq v12 v13 v14 w' => ∃ (x12_2 : Int) (x13_2 : Int) (x14_2 : Int), v12 = .int .i64 x12_2 ∧ v13 = .int .i64 x13_2 ∧ v14 = .int .i64 x14_2 ∧ Aside0 (manteletlaw12_PassesFew.l1 kq t129 (wrap64 (1 + (wrap64 (a0)))) (wrap64 (2 + (wrap64 (Int.tmod a1 7)))) x9_1 t139 x12_2 x13_2 x14_2 = some r) ∧ Aside0 (kq ≤ k1) ∧ Aside0 (Below w.heap.size w w'))
        case atStart => exact ⟨(1), (1), (0), (by first | rfl | (simp; done) | (simp [*]; done)), (by first | rfl | (simp; done) | (simp [*]; done)), (by first | rfl | (simp; done) | (simp [*]; done)), H', ⟨Nat.le_refl _⟩, ⟨by repeat (first | (with_reducible first | exact HB.out | apply below_alloc | apply pw_below_drewN | apply below_drew1) | exact HB.out)⟩⟩
        case round =>
          clear H'
          try clear c1
          try clear p1
          try clear q1
          try clear hx1
          try clear p2
          try clear c4
          try clear p6
          try clear c7
          try clear c7b0
          try clear c8
          try clear c8b0
          try clear c9
          try clear c9b0
          try clear c9b1
          try clear c10
          try clear c10b0
          try clear c11
          try clear c11b0
          try clear c12
          try clear c12b0
          try clear c13
          try clear c13b0
          try clear c13b1
          try clear p13
          try clear q13
          try clear hx13
          try clear c14
          try clear c16
          try clear hx133_0
          try clear hx133_1
          try clear hx134_0
          try clear hx134_1
          try clear hx135_0
          try clear hx135_1
          try clear hx136_0
          try clear hx136_1
          try clear hx137_0
          try clear hx137_1
          try clear hx138_0
          try clear hx138_1
          try clear p133
          try clear p134
          try clear p135
          try clear p136
          try clear p137
          try clear p138
          try clear p2
          try clear p6
          try clear q133
          try clear q134
          try clear q135
          try clear q136
          try clear q137
          try clear q138
          obtain ⟨x12_2, x13_2, x14_2, rfl, rfl, rfl, HA, HK2, HB⟩ := hrel
          cases gk with
          | zero => exact absurd HA.out (by simp [manteletlaw12_PassesFew.l1])
          | succ k2 =>
            have H := HA.out
            clear HA
            simp only [manteletlaw12_PassesFew.l1] at H
            by_cases c19 : x14_2 < t139
            · rw [if_pos c19] at H
              have c19b0 : decide (x14_2 < t139) = true := decide_eq_true c19
              clear c19
              by_cases c20 : x14_2 < 20
              · rw [if_pos c20] at H
                have c20b0 : decide (x14_2 < 20) = true := decide_eq_true c20
                clear c20
                have H' := Aside0.mk H
                clear H
                go_wp2
                go_roundg k2
                case measure => have := HK1.out; have := HK2.out; omega
                case rel => exact ⟨(wrap64 (x12_2 * (wrap64 (2 + (wrap64 (Int.tmod a1 7)))))), (x12_2), (wrap64 (x14_2 + 1)), (by first | rfl | (simp; done) | (simp [*]; done)), (by first | rfl | (simp; done) | (simp [*]; done)), (by first | rfl | (simp; done) | (simp [*]; done)), H', ⟨by have := HK1.out; have := HK2.out; omega⟩, ⟨by repeat (first | (with_reducible first | exact HB.out | apply below_alloc | apply pw_below_drewN | apply below_drew1) | exact HB.out)⟩⟩
              · rw [if_neg c20] at H
                have c20b0 : decide (x14_2 < 20) = false := decide_eq_false c20
                clear c20
                by_cases c21 : t129 = true
                · subst c21
                  have H1 : (if x9_1 = (wrap64 (1 + (wrap64 (a0)))) then (if x12_2 ≥ (wrap64 (1 + (wrap64 (a0)))) then (if t139 = 0 then (some true) else (some (decide (x13_2 < (wrap64 (1 + (wrap64 (a0)))))))) else (none)) else (none)) = some r := by rw [if_pos rfl] at H; exact H
                  clear H
                  have H := H1
                  clear H1
                  by_cases c22 : x9_1 = (wrap64 (1 + (wrap64 (a0))))
                  · rw [if_pos c22] at H
                    have c22b0 : (x9_1 == (wrap64 (1 + (wrap64 (a0))))) = true := beq_iff_eq.mpr c22
                    have c22b1 : (x9_1 != (wrap64 (1 + (wrap64 (a0))))) = false := bne_eq_false_iff_eq.mpr c22
                    clear c22
                    by_cases c23 : x12_2 ≥ (wrap64 (1 + (wrap64 (a0))))
                    · rw [if_pos c23] at H
                      have c23b0 : decide ((wrap64 (1 + (wrap64 (a0)))) ≤ x12_2) = true := decide_eq_true c23
                      clear c23
                      by_cases c24 : t139 = 0
                      · rw [if_pos c24] at H
                        have c24b0 : (t139 == 0) = true := beq_iff_eq.mpr c24
                        have c24b1 : (t139 != 0) = false := bne_eq_false_iff_eq.mpr c24
                        clear c24
                        obtain rfl := Option.some.inj H
                        go_wp2
                        go_ret
                        exact ⟨by first | rfl | (simp [errW_none, errW_some] <;> rfl) | (have e_ := Option.some.inj (A3.out.symm.trans A4.out); subst e_; rfl) | (have e_ := Option.some.inj (A3.out.symm.trans A16.out); subst e_; rfl) | (have e_ := Option.some.inj (A4.out.symm.trans A16.out); subst e_; rfl) | (simp [*, errW_none, errW_some] <;> rfl), by repeat (first | (with_reducible first | exact HB.out | apply below_alloc | apply pw_below_drewN | apply below_drew1) | exact HB.out)⟩
                      · rw [if_neg c24] at H
                        have c24b0 : (t139 == 0) = false := beq_eq_false_iff_ne.mpr c24
                        have c24b1 : (t139 != 0) = true := bne_iff_ne.mpr c24
                        obtain rfl := Option.some.inj H
                        go_wp2
                        go_ret
                        exact ⟨by first | rfl | (simp [errW_none, errW_some] <;> rfl) | (have e_ := Option.some.inj (A3.out.symm.trans A4.out); subst e_; rfl) | (have e_ := Option.some.inj (A3.out.symm.trans A16.out); subst e_; rfl) | (have e_ := Option.some.inj (A4.out.symm.trans A16.out); subst e_; rfl) | (simp [*, errW_none, errW_some] <;> rfl), by repeat (first | (with_reducible first | exact HB.out | apply below_alloc | apply pw_below_drewN | apply below_drew1) | exact HB.out)⟩
                    · rw [if_neg c23] at H
                      exact absurd H (by simp)
                  · rw [if_neg c22] at H
                    exact absurd H (by simp)
                · replace c21 := Bool.eq_false_iff.mpr c21
                  subst c21
                  have H1 : (none) = some r := by rw [if_neg (show ¬ (false = true) by decide)] at H; exact H
                  clear H
                  have H := H1
                  clear H1
                  exact absurd H (by simp)
            · rw [if_neg c19] at H
              have c19b0 : decide (x14_2 < t139) = false := decide_eq_false c19
              clear c19
              by_cases c25 : t129 = true
              · subst c25
                have H1 : (if x9_1 = (wrap64 (1 + (wrap64 (a0)))) then (if x12_2 ≥ (wrap64 (1 + (wrap64 (a0)))) then (if t139 = 0 then (some true) else (some (decide (x13_2 < (wrap64 (1 + (wrap64 (a0)))))))) else (none)) else (none)) = some r := by rw [if_pos rfl] at H; exact H
                clear H
                have H := H1
                clear H1
                by_cases c26 : x9_1 = (wrap64 (1 + (wrap64 (a0))))
                · rw [if_pos c26] at H
                  have c26b0 : (x9_1 == (wrap64 (1 + (wrap64 (a0))))) = true := beq_iff_eq.mpr c26
                  have c26b1 : (x9_1 != (wrap64 (1 + (wrap64 (a0))))) = false := bne_eq_false_iff_eq.mpr c26
                  clear c26
                  by_cases c27 : x12_2 ≥ (wrap64 (1 + (wrap64 (a0))))
                  · rw [if_pos c27] at H
                    have c27b0 : decide ((wrap64 (1 + (wrap64 (a0)))) ≤ x12_2) = true := decide_eq_true c27
                    clear c27
                    by_cases c28 : t139 = 0
                    · rw [if_pos c28] at H
                      have c28b0 : (t139 == 0) = true := beq_iff_eq.mpr c28
                      have c28b1 : (t139 != 0) = false := bne_eq_false_iff_eq.mpr c28
                      clear c28
                      obtain rfl := Option.some.inj H
                      go_wp2
                      go_ret
                      exact ⟨by first | rfl | (simp [errW_none, errW_some] <;> rfl) | (have e_ := Option.some.inj (A3.out.symm.trans A4.out); subst e_; rfl) | (have e_ := Option.some.inj (A3.out.symm.trans A16.out); subst e_; rfl) | (have e_ := Option.some.inj (A4.out.symm.trans A16.out); subst e_; rfl) | (simp [*, errW_none, errW_some] <;> rfl), by repeat (first | (with_reducible first | exact HB.out | apply below_alloc | apply pw_below_drewN | apply below_drew1) | exact HB.out)⟩
                    · rw [if_neg c28] at H
                      have c28b0 : (t139 == 0) = false := beq_eq_false_iff_ne.mpr c28
                      have c28b1 : (t139 != 0) = true := bne_iff_ne.mpr c28
                      obtain rfl := Option.some.inj H
                      go_wp2
                      go_ret
                      exact ⟨by first | rfl | (simp [errW_none, errW_some] <;> rfl) | (have e_ := Option.some.inj (A3.out.symm.trans A4.out); subst e_; rfl) | (have e_ := Option.some.inj (A3.out.symm.trans A16.out); subst e_; rfl) | (have e_ := Option.some.inj (A4.out.symm.trans A16.out); subst e_; rfl) | (simp [*, errW_none, errW_some] <;> rfl), by repeat (first | (with_reducible first | exact HB.out | apply below_alloc | apply pw_below_drewN | apply below_drew1) | exact HB.out)⟩
                  · rw [if_neg c27] at H
                    exact absurd H (by simp)
                · rw [if_neg c26] at H
                  exact absurd H (by simp)
              · replace c25 := Bool.eq_false_iff.mpr c25
                subst c25
                have H1 : (none) = some r := by rw [if_neg (show ¬ (false = true) by decide)] at H; exact H
                clear H
                have H := H1
                clear H1
                exact absurd H (by simp)

/-- THE ONE PURE STATEMENT of manteletlaw12_PassesFew: yours. -/
def manteletlaw12_PassesFew.Pure : Prop := ∀ (a0 : Int) (a1 : Int), (Lit.int .u16 a0).wf = true → (Lit.int .u8 a1).wf = true → ∃ k, manteletlaw12_PassesFew.f k a0 a1 = some true
theorem manteletlaw12_PassesFew.walk (P : manteletlaw12_PassesFew.Pure) (a0 : Int) (a1 : Int) (w : World) (w0 : (Lit.int .u16 a0).wf = true) (w1 : (Lit.int .u8 a1).wf = true) :
    Calls Try.prog 4 #[.int .u16 a0, .int .u8 a1] w fun e w' => e = .returned (.bool true) ∧ Below w.heap.size w w' := by
  obtain ⟨k, h⟩ := P a0 a1 w0 w1
  refine (manteletlaw12_PassesFew.calls k a0 a1 true w h).mono ?_
  rintro e w' ⟨rfl, hd⟩
  exact ⟨rfl, hd⟩

/-! ### manteletlaw12_PassesMany: function 5 -/
def manteletlaw12_PassesMany.j0 : Nat → Bool → Int → Int → Int → Option (Bool)
  | 0, _, _, _, _ => none
  | k + 1, x5, x6, x7, x8 => if x5 = true then ((passes_Groups.f k x6 x7).bind fun t141 => (if (t141.length : Int) = x8 then ((passes_Passes.f x6 (wrap64 (x7 + 1))).bind fun t144 => ((passes_Passes.f x6 x7).bind fun t145 => (if t144 ≤ t145 then ((passes_Passes.f x6 x7).bind fun t146 => (some ((t146 == 0) == (x6 == 1)))) else (none)))) else (none))) else (none)
def manteletlaw12_PassesMany.f (k : Nat) (a0 : Int) (a1 : Int) : Option (Bool) := (manteletlaw12_shown.f k).bind fun t140 => (if (wrap64 (2 + (wrap64 (Int.tmod a1 6)))) = 0 then (none) else (if (Int.tmod (wrap64 (1 + (wrap64 (a0)))) (wrap64 (2 + (wrap64 (Int.tmod a1 6))))) > 0 then (manteletlaw12_PassesMany.j0 k t140 (wrap64 (1 + (wrap64 (a0)))) (wrap64 (2 + (wrap64 (Int.tmod a1 6)))) (wrap64 ((wrap64 (Int.tdiv (wrap64 (1 + (wrap64 (a0)))) (wrap64 (2 + (wrap64 (Int.tmod a1 6)))))) + 1))) else (manteletlaw12_PassesMany.j0 k t140 (wrap64 (1 + (wrap64 (a0)))) (wrap64 (2 + (wrap64 (Int.tmod a1 6)))) (wrap64 (Int.tdiv (wrap64 (1 + (wrap64 (a0)))) (wrap64 (2 + (wrap64 (Int.tmod a1 6)))))))))
theorem manteletlaw12_PassesMany.mono_l : ∀ k, (∀ y0 y1 y2 y3, LeO (manteletlaw12_PassesMany.j0 k y0 y1 y2 y3) (manteletlaw12_PassesMany.j0 (k + 1) y0 y1 y2 y3))
  | 0 => fun _ _ _ _ r h => by simp [manteletlaw12_PassesMany.j0] at h
  | k + 1 => by
    have ih0 := manteletlaw12_PassesMany.mono_l k
    · intro y0 y1 y2 y3
      unfold manteletlaw12_PassesMany.j0
      repeat' first
      | (with_reducible exact ih0 _ _ _ _)
      | (with_reducible exact manteletlaw12_shown.mono _)
      | (with_reducible exact passes_Groups.mono _ _ _)
      | (with_reducible exact LeO.refl _)
      | (with_reducible exact LeO.none _)
      | (with_reducible refine LeO.ite ?_ ?_)
      | (with_reducible refine LeO.bind ?_ (fun _ => ?_))
      | exact ih0 _ _ _ _
      | exact manteletlaw12_shown.mono _
      | exact passes_Groups.mono _ _ _
      | exact LeO.none _
      | refine LeO.ite ?_ ?_
      | refine LeO.bind ?_ (fun _ => ?_)
theorem manteletlaw12_PassesMany.mono : ∀ a0 a1 k, LeO (manteletlaw12_PassesMany.f k a0 a1) (manteletlaw12_PassesMany.f (k + 1) a0 a1) := by
  intro a0 a1 k
  have ih0 := manteletlaw12_PassesMany.mono_l k
  unfold manteletlaw12_PassesMany.f
  repeat' first
      | (with_reducible exact ih0 _ _ _ _)
      | (with_reducible exact manteletlaw12_shown.mono _)
      | (with_reducible exact passes_Groups.mono _ _ _)
      | (with_reducible exact LeO.refl _)
      | (with_reducible exact LeO.none _)
      | (with_reducible refine LeO.ite ?_ ?_)
      | (with_reducible refine LeO.bind ?_ (fun _ => ?_))
      | exact ih0 _ _ _ _
      | exact manteletlaw12_shown.mono _
      | exact passes_Groups.mono _ _ _
      | exact LeO.none _
      | refine LeO.ite ?_ ?_
      | refine LeO.bind ?_ (fun _ => ?_)
set_option maxHeartbeats 8000000 in
set_option maxRecDepth 100000 in
theorem manteletlaw12_PassesMany.calls (k : Nat) (a0 : Int) (a1 : Int) (r : Bool) (w : World) (h : manteletlaw12_PassesMany.f k a0 a1 = some r) :
    Calls Try.prog 5 #[.int .u16 a0, .int .u8 a1] w fun e w' => e = .returned (.bool r) ∧ Below w.heap.size w w' := by
  have HB := Aside0.mk (Below.refl w.heap.size w)
  have H : ((manteletlaw12_shown.f k).bind fun t140 => (if (wrap64 (2 + (wrap64 (Int.tmod a1 6)))) = 0 then (none) else (if (Int.tmod (wrap64 (1 + (wrap64 (a0)))) (wrap64 (2 + (wrap64 (Int.tmod a1 6))))) > 0 then (manteletlaw12_PassesMany.j0 k t140 (wrap64 (1 + (wrap64 (a0)))) (wrap64 (2 + (wrap64 (Int.tmod a1 6)))) (wrap64 ((wrap64 (Int.tdiv (wrap64 (1 + (wrap64 (a0)))) (wrap64 (2 + (wrap64 (Int.tmod a1 6)))))) + 1))) else (manteletlaw12_PassesMany.j0 k t140 (wrap64 (1 + (wrap64 (a0)))) (wrap64 (2 + (wrap64 (Int.tmod a1 6)))) (wrap64 (Int.tdiv (wrap64 (1 + (wrap64 (a0)))) (wrap64 (2 + (wrap64 (Int.tmod a1 6)))))))))) = some r := h
  clear h
  replace H := Option.bind_eq_some_iff.mp H
  obtain ⟨t140, A30, H⟩ := H
  replace H : (if (wrap64 (2 + (wrap64 (Int.tmod a1 6)))) = 0 then (none) else (if (Int.tmod (wrap64 (1 + (wrap64 (a0)))) (wrap64 (2 + (wrap64 (Int.tmod a1 6))))) > 0 then (manteletlaw12_PassesMany.j0 k t140 (wrap64 (1 + (wrap64 (a0)))) (wrap64 (2 + (wrap64 (Int.tmod a1 6)))) (wrap64 ((wrap64 (Int.tdiv (wrap64 (1 + (wrap64 (a0)))) (wrap64 (2 + (wrap64 (Int.tmod a1 6)))))) + 1))) else (manteletlaw12_PassesMany.j0 k t140 (wrap64 (1 + (wrap64 (a0)))) (wrap64 (2 + (wrap64 (Int.tmod a1 6)))) (wrap64 (Int.tdiv (wrap64 (1 + (wrap64 (a0)))) (wrap64 (2 + (wrap64 (Int.tmod a1 6))))))))) = some r := H
  have A3 := Aside0.mk A30
  clear A30
  by_cases c4 : (wrap64 (2 + (wrap64 (Int.tmod a1 6)))) = 0
  · rw [if_pos c4] at H
    exact absurd H (by simp)
  · rw [if_neg c4] at H
    have c4b0 : ((wrap64 (2 + (wrap64 (Int.tmod a1 6)))) == 0) = false := beq_eq_false_iff_ne.mpr c4
    have c4b1 : ((wrap64 (2 + (wrap64 (Int.tmod a1 6)))) != 0) = true := bne_iff_ne.mpr c4
    have HC5 := Aside0.mk H
    clear H
    go_enter Try.func5, Try.ntmps5
    go_upto_if 23 with (first | ((with_reducible refine gate_callee (f := 13) rfl ?_); refine goesL_ (some 9) rfl rfl Try.func13 (by kernel_rfl) rfl #[] rfl (by (try simp only [List.map_toArray, List.map_cons, List.map_nil]); first | done | rfl | (simp only [List.length_drop, List.length_take]; rfl)) ?_; (with_reducible refine (manteletlaw12_shown.calls k  t140 _ A3.out).mono ?_); rintro e w6 ⟨rfl, hb⟩; refine ⟨_, rfl, ?_⟩; have n0_ := Aside0.mk (below_step (by repeat (first | (with_reducible first | exact HB.out | apply below_alloc | apply pw_below_drewN | apply below_drew1) | exact HB.out)) hb); clear HB; have HB := n0_; clear n0_; (try clear hb); (try clear hb2); (try clear hk); (try clear hi)))
    (try simp only [Act.put, List.setIfInBounds_toArray, List.set_cons_zero, List.set_cons_succ])
    go_cut [8] (fun v8 wc => ∃ (kq : Nat) (x8_4 : Int), v8 = .int .i64 x8_4 ∧ Aside0 (manteletlaw12_PassesMany.j0 kq t140 (wrap64 (1 + (wrap64 (a0)))) (wrap64 (2 + (wrap64 (Int.tmod a1 6)))) x8_4 = some r) ∧ Aside0 (kq ≤ k) ∧ Aside0 (Below w.heap.size w wc))
    case first =>
      have H := HC5.out
      clear HC5
      by_cases c7 : (Int.tmod (wrap64 (1 + (wrap64 (a0)))) (wrap64 (2 + (wrap64 (Int.tmod a1 6))))) > 0
      · rw [if_pos c7] at H
        have c7b0 : decide (0 < (Int.tmod (wrap64 (1 + (wrap64 (a0)))) (wrap64 (2 + (wrap64 (Int.tmod a1 6)))))) = true := decide_eq_true c7
        clear c7
        (first | rw [c7b0] | (simp only [i64_w, i32_w]; rw [c7b0]) | skip)
        have H' := Aside0.mk H
        clear H
        go_wp2
        go_meet
        case rel => exact ⟨_, (wrap64 ((wrap64 (Int.tdiv (wrap64 (1 + (wrap64 (a0)))) (wrap64 (2 + (wrap64 (Int.tmod a1 6)))))) + 1)), (by first | rfl | (simp; done) | (simp [*]; done)), H', ⟨by first | omega | exact Nat.le_refl _⟩, ⟨by repeat (first | (with_reducible first | exact HB.out | apply below_alloc | apply pw_below_drewN | apply below_drew1) | exact HB.out)⟩⟩
      · rw [if_neg c7] at H
        have c7b0 : decide (0 < (Int.tmod (wrap64 (1 + (wrap64 (a0)))) (wrap64 (2 + (wrap64 (Int.tmod a1 6)))))) = false := decide_eq_false c7
        clear c7
        (first | rw [c7b0] | (simp only [i64_w, i32_w]; rw [c7b0]) | skip)
        have H' := Aside0.mk H
        clear H
        go_wp2
        go_meet
        case rel => exact ⟨_, (wrap64 (Int.tdiv (wrap64 (1 + (wrap64 (a0)))) (wrap64 (2 + (wrap64 (Int.tmod a1 6)))))), (by first | rfl | (simp; done) | (simp [*]; done)), H', ⟨by first | omega | exact Nat.le_refl _⟩, ⟨by repeat (first | (with_reducible first | exact HB.out | apply below_alloc | apply pw_below_drewN | apply below_drew1) | exact HB.out)⟩⟩
    case rest =>
      clear HC5
      try clear c1
      try clear p2
      try clear c4
      try clear c4b0
      try clear c4b1
      try clear c5
      try clear p6
      try clear c7
      try clear c7b0
      obtain ⟨kq, x8_4, rfl, HA, HJ4, HB⟩ := hcut
      cases kq with
      | zero => exact absurd HA.out (by simp [manteletlaw12_PassesMany.j0])
      | succ kj4 =>
        have H := HA.out
        clear HA
        simp only [manteletlaw12_PassesMany.j0] at H
        by_cases c8 : t140 = true
        · subst c8
          have H1 : ((passes_Groups.f kj4 (wrap64 (1 + (wrap64 (a0)))) (wrap64 (2 + (wrap64 (Int.tmod a1 6))))).bind fun t141 => (if (t141.length : Int) = x8_4 then ((passes_Passes.f (wrap64 (1 + (wrap64 (a0)))) (wrap64 ((wrap64 (2 + (wrap64 (Int.tmod a1 6)))) + 1))).bind fun t144 => ((passes_Passes.f (wrap64 (1 + (wrap64 (a0)))) (wrap64 (2 + (wrap64 (Int.tmod a1 6))))).bind fun t145 => (if t144 ≤ t145 then ((passes_Passes.f (wrap64 (1 + (wrap64 (a0)))) (wrap64 (2 + (wrap64 (Int.tmod a1 6))))).bind fun t146 => (some ((t146 == 0) == ((wrap64 (1 + (wrap64 (a0)))) == 1)))) else (none)))) else (none))) = some r := by rw [if_pos rfl] at H; exact H
          clear H
          have H := H1
          clear H1
          replace H := Option.bind_eq_some_iff.mp H
          obtain ⟨t141, A90, H⟩ := H
          replace H : (if (t141.length : Int) = x8_4 then ((passes_Passes.f (wrap64 (1 + (wrap64 (a0)))) (wrap64 ((wrap64 (2 + (wrap64 (Int.tmod a1 6)))) + 1))).bind fun t144 => ((passes_Passes.f (wrap64 (1 + (wrap64 (a0)))) (wrap64 (2 + (wrap64 (Int.tmod a1 6))))).bind fun t145 => (if t144 ≤ t145 then ((passes_Passes.f (wrap64 (1 + (wrap64 (a0)))) (wrap64 (2 + (wrap64 (Int.tmod a1 6))))).bind fun t146 => (some ((t146 == 0) == ((wrap64 (1 + (wrap64 (a0)))) == 1)))) else (none)))) else (none)) = some r := H
          have A9 := Aside0.mk A90
          clear A90
          by_cases c10 : (t141.length : Int) = x8_4
          · rw [if_pos c10] at H
            have c10b0 : ((t141.length : Int) == x8_4) = true := beq_iff_eq.mpr c10
            have c10b1 : ((t141.length : Int) != x8_4) = false := bne_eq_false_iff_eq.mpr c10
            clear c10
            replace H := Option.bind_eq_some_iff.mp H
            obtain ⟨t144, A110, H⟩ := H
            replace H : ((passes_Passes.f (wrap64 (1 + (wrap64 (a0)))) (wrap64 (2 + (wrap64 (Int.tmod a1 6))))).bind fun t145 => (if t144 ≤ t145 then ((passes_Passes.f (wrap64 (1 + (wrap64 (a0)))) (wrap64 (2 + (wrap64 (Int.tmod a1 6))))).bind fun t146 => (some ((t146 == 0) == ((wrap64 (1 + (wrap64 (a0)))) == 1)))) else (none))) = some r := H
            have A11 := Aside0.mk A110
            clear A110
            replace H := Option.bind_eq_some_iff.mp H
            obtain ⟨t145, A120, H⟩ := H
            replace H : (if t144 ≤ t145 then ((passes_Passes.f (wrap64 (1 + (wrap64 (a0)))) (wrap64 (2 + (wrap64 (Int.tmod a1 6))))).bind fun t146 => (some ((t146 == 0) == ((wrap64 (1 + (wrap64 (a0)))) == 1)))) else (none)) = some r := H
            have A12 := Aside0.mk A120
            clear A120
            by_cases c13 : t144 ≤ t145
            · rw [if_pos c13] at H
              have c13b0 : decide (t144 ≤ t145) = true := decide_eq_true c13
              clear c13
              replace H := Option.bind_eq_some_iff.mp H
              obtain ⟨t146, A140, H⟩ := H
              replace H : (some ((t146 == 0) == ((wrap64 (1 + (wrap64 (a0)))) == 1))) = some r := H
              have A14 := Aside0.mk A140
              clear A140
              obtain rfl := Option.some.inj H
              go_wp2_with (first | (go_at_call 14; (with_reducible refine (passes_Groups.calls kj4 (wrap64 (1 + (wrap64 (a0)))) (wrap64 (2 + (wrap64 (Int.tmod a1 6)))) t141 _ A9.out).mono ?_); rintro e w15 ⟨v142, rfl, ho0, hb⟩; have n0_ := Aside0.mk (Kd.R_lower ho0 (below_size (by repeat (first | (with_reducible first | exact HB.out | apply below_alloc | apply pw_below_drewN | apply below_drew1) | exact HB.out)))); have n1_ := Aside0.mk (below_step (by repeat (first | (with_reducible first | exact HB.out | apply below_alloc | apply pw_below_drewN | apply below_drew1) | exact HB.out)) hb); clear HB; have HO143 := n0_; have HB := n1_; clear n0_ n1_; (try clear hb); (try clear hb2); (try clear hk); (try clear hi); (try clear ho0); obtain ⟨Ao16, co16, eo16⟩ := Kd.R_slice HO143.out; subst eo16) | (go_at_call 16; (with_reducible refine (passes_Passes.calls (wrap64 (1 + (wrap64 (a0)))) (wrap64 ((wrap64 (2 + (wrap64 (Int.tmod a1 6)))) + 1)) t144 _ A11.out).mono ?_); rintro e w17 ⟨rfl, hb⟩; have n0_ := Aside0.mk (Kd.R_below (by (with_reducible repeat (first | apply Kd.R_alloc | apply Kd.R_drewN | apply Kd.R_drew)); exact HO143.out) hb); have n1_ := Aside0.mk (below_step (by repeat (first | (with_reducible first | exact HB.out | apply below_alloc | apply pw_below_drewN | apply below_drew1) | exact HB.out)) hb); clear HO143; clear HB; have HO143 := n0_; have HB := n1_; clear n0_ n1_; (try clear hb); (try clear hb2); (try clear hk); (try clear hi)) | (go_at_call 16; (with_reducible refine (passes_Passes.calls (wrap64 (1 + (wrap64 (a0)))) (wrap64 (2 + (wrap64 (Int.tmod a1 6)))) t145 _ A12.out).mono ?_); rintro e w18 ⟨rfl, hb⟩; have n0_ := Aside0.mk (Kd.R_below (by (with_reducible repeat (first | apply Kd.R_alloc | apply Kd.R_drewN | apply Kd.R_drew)); exact HO143.out) hb); have n1_ := Aside0.mk (below_step (by repeat (first | (with_reducible first | exact HB.out | apply below_alloc | apply pw_below_drewN | apply below_drew1) | exact HB.out)) hb); clear HO143; clear HB; have HO143 := n0_; have HB := n1_; clear n0_ n1_; (try clear hb); (try clear hb2); (try clear hk); (try clear hi)) | (go_at_call 16; (with_reducible refine (passes_Passes.calls (wrap64 (1 + (wrap64 (a0)))) (wrap64 (2 + (wrap64 (Int.tmod a1 6)))) t146 _ A14.out).mono ?_); rintro e w19 ⟨rfl, hb⟩; have n0_ := Aside0.mk (Kd.R_below (by (with_reducible repeat (first | apply Kd.R_alloc | apply Kd.R_drewN | apply Kd.R_drew)); exact HO143.out) hb); have n1_ := Aside0.mk (below_step (by repeat (first | (with_reducible first | exact HB.out | apply below_alloc | apply pw_below_drewN | apply below_drew1) | exact HB.out)) hb); clear HO143; clear HB; have HO143 := n0_; have HB := n1_; clear n0_ n1_; (try clear hb); (try clear hb2); (try clear hk); (try clear hi)))
              go_ret
              exact ⟨by first | rfl | (simp [errW_none, errW_some] <;> rfl) | (have e_ := Option.some.inj (A3.out.symm.trans A9.out); subst e_; rfl) | (have e_ := Option.some.inj (A3.out.symm.trans A11.out); subst e_; rfl) | (have e_ := Option.some.inj (A9.out.symm.trans A11.out); subst e_; rfl) | (have e_ := Option.some.inj (A3.out.symm.trans A12.out); subst e_; rfl) | (have e_ := Option.some.inj (A9.out.symm.trans A12.out); subst e_; rfl) | (have e_ := Option.some.inj (A11.out.symm.trans A12.out); subst e_; rfl) | (have e_ := Option.some.inj (A3.out.symm.trans A14.out); subst e_; rfl) | (have e_ := Option.some.inj (A9.out.symm.trans A14.out); subst e_; rfl) | (have e_ := Option.some.inj (A11.out.symm.trans A14.out); subst e_; rfl) | (have e_ := Option.some.inj (A12.out.symm.trans A14.out); subst e_; rfl) | (simp [*, errW_none, errW_some] <;> rfl), by repeat (first | (with_reducible first | exact HB.out | apply below_alloc | apply pw_below_drewN | apply below_drew1) | exact HB.out)⟩
            · rw [if_neg c13] at H
              exact absurd H (by simp)
          · rw [if_neg c10] at H
            exact absurd H (by simp)
        · replace c8 := Bool.eq_false_iff.mpr c8
          subst c8
          have H1 : (none) = some r := by rw [if_neg (show ¬ (false = true) by decide)] at H; exact H
          clear H
          have H := H1
          clear H1
          exact absurd H (by simp)

/-- THE ONE PURE STATEMENT of manteletlaw12_PassesMany: yours. -/
def manteletlaw12_PassesMany.Pure : Prop := ∀ (a0 : Int) (a1 : Int), (Lit.int .u16 a0).wf = true → (Lit.int .u8 a1).wf = true → ∃ k, manteletlaw12_PassesMany.f k a0 a1 = some true
theorem manteletlaw12_PassesMany.walk (P : manteletlaw12_PassesMany.Pure) (a0 : Int) (a1 : Int) (w : World) (w0 : (Lit.int .u16 a0).wf = true) (w1 : (Lit.int .u8 a1).wf = true) :
    Calls Try.prog 5 #[.int .u16 a0, .int .u8 a1] w fun e w' => e = .returned (.bool true) ∧ Below w.heap.size w w' := by
  obtain ⟨k, h⟩ := P a0 a1 w0 w1
  refine (manteletlaw12_PassesMany.calls k a0 a1 true w h).mono ?_
  rintro e w' ⟨rfl, hd⟩
  exact ⟨rfl, hd⟩

end Go.Proofs.Ytlndbodbhbcgcaa.PPasses
