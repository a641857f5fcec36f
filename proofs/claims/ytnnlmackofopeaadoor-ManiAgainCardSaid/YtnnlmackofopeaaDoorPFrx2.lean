/- Contracts of Go functions: called with what reads as these lists and numbers, a function returns what its plain Lean function says, and leaves what was there. Written by a program of this session. -/
import Derived.Test.YtnnlmackofopeaaDoorPFrx0
import Derived.Test.YtnnlmackofopeaaDoorPFrx1
namespace Go.Proofs.YtnnlmackofopeaaDoor.PFr
open Go.RowKit Go.Proofs.YtnnlmackofopeaaDoorW.PrintWords Go.Proofs.YtnnlmackofopeaaDoorW.PrintLast Go.Proofs.YtnnlmackofopeaaDoorW.PrintMore
attribute [local go_sem] max2_int min2_int max_two min_two max_three min_three max_four min_four   -- for this text's walks alone
set_option linter.unusedVariables false
set_option linter.unusedSimpArgs false

/-! ### frame_Get: function 38 -/
def frame_Get.f (k : Nat) (l0 : List Int) : Option (List Int × Int × Int) := (num_Get.f l0).bind fun bt130 => (if bt130.2.2 = 0 then (if bt130.1 > 1048576 then (some (([] : List Int), 0, 2)) else (if (l0.length : Int) < (wrap64 ((wrap64 (bt130.2.1 + (wrap64 (bt130.1)))) + 4)) then (some (([] : List Int), 0, 3)) else (if 0 ≤ bt130.2.1 then (if bt130.2.1 ≤ (wrap64 (bt130.2.1 + (wrap64 (bt130.1)))) then (if (wrap64 (bt130.2.1 + (wrap64 (bt130.1)))) ≤ (l0.length : Int) then ((bytes_Clone.f ((l0.take ((wrap64 (bt130.2.1 + (wrap64 (bt130.1)))) : Int).toNat).drop (bt130.2.1 : Int).toNat)).bind fun t134 => (if 0 ≤ (wrap64 (bt130.2.1 + (wrap64 (bt130.1)))) then (if (wrap64 (bt130.2.1 + (wrap64 (bt130.1)))) ≤ (wrap64 ((wrap64 (bt130.2.1 + (wrap64 (bt130.1)))) + 4)) then (if (wrap64 ((wrap64 (bt130.2.1 + (wrap64 (bt130.1)))) + 4)) ≤ (l0.length : Int) then ((frame_sum.f k t134).bind fun t138 => ((bytes_Equal.f ((l0.take ((wrap64 ((wrap64 (bt130.2.1 + (wrap64 (bt130.1)))) + 4)) : Int).toNat).drop ((wrap64 (bt130.2.1 + (wrap64 (bt130.1)))) : Int).toNat) t138).bind fun t141 => (if t141 = true then (some (t134, wrap64 ((wrap64 (bt130.2.1 + (wrap64 (bt130.1)))) + 4), 0)) else (some (([] : List Int), 0, 4))))) else (none)) else (none)) else (none))) else (none)) else (none)) else (none)))) else (some (([] : List Int), 0, bt130.2.2)))
theorem frame_Get.mono : ∀ a0 k, LeO (frame_Get.f k a0) (frame_Get.f (k + 1) a0) := by
  intro a0 k
  unfold frame_Get.f
  repeat' first
      | (with_reducible exact frame_sum.mono _ _)
      | (with_reducible exact LeO.refl _)
      | (with_reducible exact LeO.none _)
      | (with_reducible refine LeO.ite ?_ ?_)
      | (with_reducible refine LeO.bind ?_ (fun _ => ?_))
      | exact frame_sum.mono _ _
      | exact LeO.none _
      | refine LeO.ite ?_ ?_
      | refine LeO.bind ?_ (fun _ => ?_)
def frame_Get.T10 : Bool × List (List Nat × List Nat) := (true, [([], []), ([], []), ([], []), ([2], [2]), ([0, 1, 3], [0, 1, 3]), ([], []), ([5], [5]), ([4, 6, 6], [4, 6]), ([7], [7])])
def frame_Get.B10 : List Nat := [0, 0, 0, 4, 15, 0, 32, 127, 255]
theorem frame_Get.tab10 : rtab .any (opsOf Tryd.f38 10) = frame_Get.T10 := by kernel_rfl
theorem frame_Get.bits10 : waitsOk frame_Get.T10.2 frame_Get.B10 = true := by kernel_rfl
set_option maxHeartbeats 8000000 in
set_option maxRecDepth 100000 in
theorem frame_Get.calls (k : Nat) (A0 : Option Addr) (c0 : Nat) (l0 : List Int) (r1 : List Int) (r2 : Int) (r3 : Int) (w : World) (hr0 : Kd.C (Kd.int .u8) w A0 l0.length l0) (hc0 : l0.length ≤ c0) (h : frame_Get.f k l0 = some (r1, r2, r3)) :
    Calls Tryd.prog 38 #[.slice A0 l0.length c0] w fun e w' => ∃ v0_ : Value, e = .returned (.tuple #[v0_, .int .i64 r2, .int .i64 r3]) ∧ Kd.R (Kd.int .u8) 5 w' w.heap.size (fun _ => True) v0_ r1 ∧ Below w.heap.size w w' := by
  have HR0 := Aside0.mk hr0
  have HC0 := Aside0.mk hc0
  clear hr0 hc0
  have HB := Aside0.mk (Below.refl w.heap.size w)
  have H : ((num_Get.f l0).bind fun bt130 => (if bt130.2.2 = 0 then (if bt130.1 > 1048576 then (some (([] : List Int), 0, 2)) else (if (l0.length : Int) < (wrap64 ((wrap64 (bt130.2.1 + (wrap64 (bt130.1)))) + 4)) then (some (([] : List Int), 0, 3)) else (if 0 ≤ bt130.2.1 then (if bt130.2.1 ≤ (wrap64 (bt130.2.1 + (wrap64 (bt130.1)))) then (if (wrap64 (bt130.2.1 + (wrap64 (bt130.1)))) ≤ (l0.length : Int) then ((bytes_Clone.f ((l0.take ((wrap64 (bt130.2.1 + (wrap64 (bt130.1)))) : Int).toNat).drop (bt130.2.1 : Int).toNat)).bind fun t134 => (if 0 ≤ (wrap64 (bt130.2.1 + (wrap64 (bt130.1)))) then (if (wrap64 (bt130.2.1 + (wrap64 (bt130.1)))) ≤ (wrap64 ((wrap64 (bt130.2.1 + (wrap64 (bt130.1)))) + 4)) then (if (wrap64 ((wrap64 (bt130.2.1 + (wrap64 (bt130.1)))) + 4)) ≤ (l0.length : Int) then ((frame_sum.f k t134).bind fun t138 => ((bytes_Equal.f ((l0.take ((wrap64 ((wrap64 (bt130.2.1 + (wrap64 (bt130.1)))) + 4)) : Int).toNat).drop ((wrap64 (bt130.2.1 + (wrap64 (bt130.1)))) : Int).toNat) t138).bind fun t141 => (if t141 = true then (some (t134, wrap64 ((wrap64 (bt130.2.1 + (wrap64 (bt130.1)))) + 4), 0)) else (some (([] : List Int), 0, 4))))) else (none)) else (none)) else (none))) else (none)) else (none)) else (none)))) else (some (([] : List Int), 0, bt130.2.2)))) = some (r1, r2, r3) := h
  clear h
  replace H := Option.bind_eq_some_iff.mp H
  obtain ⟨⟨t130, t131, t132⟩, A20, H⟩ := H
  replace H : (if t132 = 0 then (if t130 > 1048576 then (some (([] : List Int), 0, 2)) else (if (l0.length : Int) < (wrap64 ((wrap64 (t131 + (wrap64 (t130)))) + 4)) then (some (([] : List Int), 0, 3)) else (if 0 ≤ t131 then (if t131 ≤ (wrap64 (t131 + (wrap64 (t130)))) then (if (wrap64 (t131 + (wrap64 (t130)))) ≤ (l0.length : Int) then ((bytes_Clone.f ((l0.take ((wrap64 (t131 + (wrap64 (t130)))) : Int).toNat).drop (t131 : Int).toNat)).bind fun t134 => (if 0 ≤ (wrap64 (t131 + (wrap64 (t130)))) then (if (wrap64 (t131 + (wrap64 (t130)))) ≤ (wrap64 ((wrap64 (t131 + (wrap64 (t130)))) + 4)) then (if (wrap64 ((wrap64 (t131 + (wrap64 (t130)))) + 4)) ≤ (l0.length : Int) then ((frame_sum.f k t134).bind fun t138 => ((bytes_Equal.f ((l0.take ((wrap64 ((wrap64 (t131 + (wrap64 (t130)))) + 4)) : Int).toNat).drop ((wrap64 (t131 + (wrap64 (t130)))) : Int).toNat) t138).bind fun t141 => (if t141 = true then (some (t134, wrap64 ((wrap64 (t131 + (wrap64 (t130)))) + 4), 0)) else (some (([] : List Int), 0, 4))))) else (none)) else (none)) else (none))) else (none)) else (none)) else (none)))) else (some (([] : List Int), 0, t132))) = some (r1, r2, r3) := H
  have A2 := Aside0.mk A20
  clear A20
  by_cases c3 : t132 = 0
  · rw [if_pos c3] at H
    have c3b0 : (t132 == 0) = true := beq_iff_eq.mpr c3
    have c3b1 : (t132 != 0) = false := bne_eq_false_iff_eq.mpr c3
    clear c3
    by_cases c4 : t130 > 1048576
    · rw [if_pos c4] at H
      have c4b0 : decide (1048576 < t130) = true := decide_eq_true c4
      clear c4
      simp only [Option.some.injEq, Prod.mk.injEq] at H
      obtain ⟨rfl, rfl, rfl⟩ := H
      go_enter Tryd.func38, Tryd.ntmps38
      go_wp2_with (first | ((with_reducible refine gate_callee (f := 54) rfl ?_); refine goesL_ (some 12) rfl rfl Tryd.func54 (by kernel_rfl) rfl #[.slice A0 l0.length c0] rfl (by (try simp only [List.map_toArray, List.map_cons, List.map_nil]); first | done | rfl | (simp only [List.length_drop, List.length_take]; rfl)) ?_; (with_reducible refine (num_Get.calls _ _ l0 t130 t131 t132 _ ?side1 ?side2 A2.out).mono ?_); (case side1 => repeat (first | exact HR0.out | (with_reducible refine Kd.C_alloc ?_ _) | (with_reducible refine Kd.C_drewN ?_ _) | (with_reducible refine Kd.C_drew ?_))); (case side2 => exact HC0.out); rintro e w' ⟨rfl, ⟨nd, rfl⟩⟩; refine ⟨_, rfl, ?_⟩))
      go_ret3
      exact ⟨_, by first | rfl | (simp [errW_none, errW_some] <;> rfl) | (simp [*, errW_none, errW_some] <;> rfl), by first | exact Kd.R_nil _ _ _ _ _ | exact Kd.N_nil _ _ _ _ _ | exact Kd.V_nil _ _ _ _ _ | exact Kd.Q_nil _ _ _ _ _ | exact Kd.S_nil _ _ _ _ _, by repeat (first | (with_reducible first | exact HB.out | apply below_alloc | apply pw_below_drewN | apply below_drew1) | exact HB.out)⟩
    · rw [if_neg c4] at H
      have c4b0 : decide (1048576 < t130) = false := decide_eq_false c4
      clear c4
      by_cases c5 : (l0.length : Int) < (wrap64 ((wrap64 (t131 + (wrap64 (t130)))) + 4))
      · rw [if_pos c5] at H
        have c5b0 : decide ((l0.length : Int) < (wrap64 ((wrap64 (t131 + (wrap64 (t130)))) + 4))) = true := decide_eq_true c5
        clear c5
        simp only [Option.some.injEq, Prod.mk.injEq] at H
        obtain ⟨rfl, rfl, rfl⟩ := H
        go_enter Tryd.func38, Tryd.ntmps38
        go_wp2_with (first | ((with_reducible refine gate_callee (f := 54) rfl ?_); refine goesL_ (some 12) rfl rfl Tryd.func54 (by kernel_rfl) rfl #[.slice A0 l0.length c0] rfl (by (try simp only [List.map_toArray, List.map_cons, List.map_nil]); first | done | rfl | (simp only [List.length_drop, List.length_take]; rfl)) ?_; (with_reducible refine (num_Get.calls _ _ l0 t130 t131 t132 _ ?side1 ?side2 A2.out).mono ?_); (case side1 => repeat (first | exact HR0.out | (with_reducible refine Kd.C_alloc ?_ _) | (with_reducible refine Kd.C_drewN ?_ _) | (with_reducible refine Kd.C_drew ?_))); (case side2 => exact HC0.out); rintro e w' ⟨rfl, ⟨nd, rfl⟩⟩; refine ⟨_, rfl, ?_⟩))
        go_ret3
        exact ⟨_, by first | rfl | (simp [errW_none, errW_some] <;> rfl) | (simp [*, errW_none, errW_some] <;> rfl), by first | exact Kd.R_nil _ _ _ _ _ | exact Kd.N_nil _ _ _ _ _ | exact Kd.V_nil _ _ _ _ _ | exact Kd.Q_nil _ _ _ _ _ | exact Kd.S_nil _ _ _ _ _, by repeat (first | (with_reducible first | exact HB.out | apply below_alloc | apply pw_below_drewN | apply below_drew1) | exact HB.out)⟩
      · rw [if_neg c5] at H
        have c5b0 : decide ((l0.length : Int) < (wrap64 ((wrap64 (t131 + (wrap64 (t130)))) + 4))) = false := decide_eq_false c5
        clear c5
        by_cases c6 : 0 ≤ t131
        · rw [if_pos c6] at H
          have c6b0 := eq_true c6
          have c6b1 : decide (0 ≤ t131) = true := decide_eq_true c6
          clear c6
          by_cases c7 : t131 ≤ (wrap64 (t131 + (wrap64 (t130))))
          · rw [if_pos c7] at H
            have c7b0 := eq_true c7
            have c7b1 : decide (t131 ≤ (wrap64 (t131 + (wrap64 (t130))))) = true := decide_eq_true c7
            by_cases c8 : (wrap64 (t131 + (wrap64 (t130)))) ≤ (l0.length : Int)
            · rw [if_pos c8] at H
              have c8b0 := eq_true c8
              have c8b1 : decide ((wrap64 (t131 + (wrap64 (t130)))) ≤ (l0.length : Int)) = true := decide_eq_true c8
              replace H := Option.bind_eq_some_iff.mp H
              obtain ⟨t134, A90, H⟩ := H
              replace H : (if 0 ≤ (wrap64 (t131 + (wrap64 (t130)))) then (if (wrap64 (t131 + (wrap64 (t130)))) ≤ (wrap64 ((wrap64 (t131 + (wrap64 (t130)))) + 4)) then (if (wrap64 ((wrap64 (t131 + (wrap64 (t130)))) + 4)) ≤ (l0.length : Int) then ((frame_sum.f k t134).bind fun t138 => ((bytes_Equal.f ((l0.take ((wrap64 ((wrap64 (t131 + (wrap64 (t130)))) + 4)) : Int).toNat).drop ((wrap64 (t131 + (wrap64 (t130)))) : Int).toNat) t138).bind fun t141 => (if t141 = true then (some (t134, wrap64 ((wrap64 (t131 + (wrap64 (t130)))) + 4), 0)) else (some (([] : List Int), 0, 4))))) else (none)) else (none)) else (none)) = some (r1, r2, r3) := H
              have A9 := Aside0.mk A90
              clear A90
              obtain ⟨ji10, hji10⟩ : ∃ j_ : Int, (wrap64 (t131 + (wrap64 (t130)))) = j_ := ⟨_, rfl⟩
              replace H : (if 0 ≤ (ji10) then (if (ji10) ≤ (wrap64 ((ji10) + 4)) then (if (wrap64 ((ji10) + 4)) ≤ (l0.length : Int) then ((frame_sum.f k t134).bind fun t138 => ((bytes_Equal.f ((l0.take ((wrap64 ((ji10) + 4)) : Int).toNat).drop ((ji10) : Int).toNat) t138).bind fun t141 => (if t141 = true then (some (t134, wrap64 ((ji10) + 4), 0)) else (some (([] : List Int), 0, 4))))) else (none)) else (none)) else (none)) = some (r1, r2, r3) := by first | (rw [hji10] at H; exact H) | (simp only [hji10] at H ⊢; exact H)
              (try rw [hji10] at c5b0)
              (try rw [hji10] at c7b0)
              (try rw [hji10] at c7b1)
              (try rw [hji10] at c7)
              (try rw [hji10] at c8b0)
              (try rw [hji10] at c8b1)
              (try rw [hji10] at c8)
              (try rw [hji10] at A2)
              (try rw [hji10] at A9)
              have hji10w : (IntKind.i64.wrap (t131 + (wrap64 (t130)))) = ji10 := (i64_w _).trans hji10
              by_cases c11 : 0 ≤ (ji10)
              · rw [if_pos c11] at H
                have c11b0 := eq_true c11
                have c11b1 : decide (0 ≤ (ji10)) = true := decide_eq_true c11
                clear c11
                by_cases c12 : (ji10) ≤ (wrap64 ((ji10) + 4))
                · rw [if_pos c12] at H
                  have c12b0 := eq_true c12
                  have c12b1 : decide ((ji10) ≤ (wrap64 ((ji10) + 4))) = true := decide_eq_true c12
                  by_cases c13 : (wrap64 ((ji10) + 4)) ≤ (l0.length : Int)
                  · rw [if_pos c13] at H
                    have c13b0 := eq_true c13
                    have c13b1 : decide ((wrap64 ((ji10) + 4)) ≤ (l0.length : Int)) = true := decide_eq_true c13
                    replace H := Option.bind_eq_some_iff.mp H
                    obtain ⟨t138, A140, H⟩ := H
                    replace H : ((bytes_Equal.f ((l0.take ((wrap64 ((ji10) + 4)) : Int).toNat).drop ((ji10) : Int).toNat) t138).bind fun t141 => (if t141 = true then (some (t134, wrap64 ((ji10) + 4), 0)) else (some (([] : List Int), 0, 4)))) = some (r1, r2, r3) := H
                    have A14 := Aside0.mk A140
                    clear A140
                    replace H := Option.bind_eq_some_iff.mp H
                    obtain ⟨t141, A150, H⟩ := H
                    replace H : (if t141 = true then (some (t134, wrap64 ((ji10) + 4), 0)) else (some (([] : List Int), 0, 4))) = some (r1, r2, r3) := H
                    have A15 := Aside0.mk A150
                    clear A150
                    by_cases c16 : t141 = true
                    · subst c16
                      have H1 : (some (t134, wrap64 ((ji10) + 4), 0)) = some (r1, r2, r3) := by rw [if_pos rfl] at H; exact H
                      clear H
                      have H := H1
                      clear H1
                      simp only [Option.some.injEq, Prod.mk.injEq] at H
                      obtain ⟨rfl, rfl, rfl⟩ := H
                      go_enter Tryd.func38, Tryd.ntmps38
                      try go_wp2_with (first | ((with_reducible refine gate_callee (f := 54) rfl ?_); refine goesL_ (some 12) rfl rfl Tryd.func54 (by kernel_rfl) rfl #[.slice A0 l0.length c0] rfl (by (try simp only [List.map_toArray, List.map_cons, List.map_nil]); first | done | rfl | (simp only [List.length_drop, List.length_take]; rfl)) ?_; (with_reducible refine (num_Get.calls _ _ l0 t130 t131 t132 _ ?side1 ?side2 A2.out).mono ?_); (case side1 => repeat (first | exact HR0.out | (with_reducible refine Kd.C_alloc ?_ _) | (with_reducible refine Kd.C_drewN ?_ _) | (with_reducible refine Kd.C_drew ?_))); (case side2 => exact HC0.out); rintro e w' ⟨rfl, ⟨nd, rfl⟩⟩; refine ⟨_, rfl, ?_⟩; obtain ⟨i017, hi017, _, hsz17, _⟩ := info_parts info5; obtain ⟨A17, hcut17, hA17, hC17⟩ := print_mid_of (P := Tryd.prog) (Value.int .u8) 0 22 5 .i64 .i64 Tryd.underlying22 hi017 hsz17 A0 c0 l0 t131 (ji10) (of_decide_eq_true (by first | (with_reducible assumption) | assumption)) (by first | omega | exact of_decide_eq_true (by first | (with_reducible assumption) | assumption)) (of_decide_eq_true (by first | (with_reducible assumption) | assumption)) HC0.out; have HR133 := Aside0.mk (Kd.C_of_reads (h1 := fun _ => rfl) (hA17 _ (Kd.reads_of_C HR0.out))); have HC133 := Aside0.mk hC17; clear hA17 hC17 hi017 hsz17) | ((with_reducible refine gate_callee (f := 45) rfl ?_); refine goesL_ (some 36) rfl rfl Tryd.func45 (by kernel_rfl) rfl #[.slice A17 ((l0.take ((ji10) : Int).toNat).drop (t131 : Int).toNat).length (c0 - t131.toNat)] rfl (by (try simp only [List.map_toArray, List.map_cons, List.map_nil]); first | done | (rw [show ((l0.take ((ji10) : Int).toNat).drop (t131 : Int).toNat).length = ((ji10).toNat - t131.toNat) from (by rw [List.length_drop, List.length_take]; have h_ : ((ji10) : Int) ≤ (l0.length : Int) := of_decide_eq_true (by first | (with_reducible assumption) | assumption); omega)] <;> rfl) | (simp only [hji10]; rfl) | rfl | (simp only [List.length_drop, List.length_take]; rfl)) ?_; (with_reducible refine (bytes_Clone.calls _ _ ((l0.take ((ji10) : Int).toNat).drop (t131 : Int).toNat) t134 _ ?side1 ?side2 A9.out).mono ?_); (case side1 => repeat (first | exact HR133.out | (with_reducible refine Kd.C_alloc ?_ _) | (with_reducible refine Kd.C_drewN ?_ _) | (with_reducible refine Kd.C_drew ?_))); (case side2 => exact HC133.out); rintro e w18 ⟨v135, rfl, ho0, hb⟩; refine ⟨_, rfl, ?_⟩; have n0_ := Aside0.mk (Kd.R_lower ho0 (below_size (by repeat (first | (with_reducible first | exact HB.out | apply below_alloc | apply pw_below_drewN | apply below_drew1) | exact HB.out)))); have n1_ := Aside0.mk (below_step (by repeat (first | (with_reducible first | exact HB.out | apply below_alloc | apply pw_below_drewN | apply below_drew1) | exact HB.out)) hb); clear HB; have HO136 := n0_; have HB := n1_; clear n0_ n1_; (try clear hb); (try clear hb2); (try clear hk); (try clear hi); (try clear ho0)))
                      have n0_ := Aside0.mk (Kd.R_drew HO136.out)
                      have n1_ := Aside0.mk (below_drew1 HB.out)
                      clear HO136
                      clear HB
                      have HO136 := n0_
                      have HB := n1_
                      clear n0_ n1_
                      obtain ⟨i020, hi020, _, hsz20, _⟩ := info_parts info5
                      obtain ⟨A20, hcut20, hA20, hC20⟩ := print_mid_of (P := Tryd.prog) (Value.int .u8) 0 22 5 .i64 .i64 Tryd.underlying22 hi020 hsz20 A0 c0 l0 (ji10) (wrap64 ((ji10) + 4)) (of_decide_eq_true (by first | (with_reducible assumption) | assumption)) (by first | omega | exact of_decide_eq_true (by first | (with_reducible assumption) | assumption)) (of_decide_eq_true (by first | (with_reducible assumption) | assumption)) HC0.out
                      have HR137 := Aside0.mk (Kd.C_of_reads (h1 := fun _ => rfl) (hA20 _ (Kd.reads_of_C HR0.out)))
                      have HC137 := Aside0.mk hC20
                      clear hA20 hC20 hi020 hsz20
                      obtain ⟨Ao21, co21, eo21⟩ := Kd.R_slice HO136.out
                      (first | subst eo21 | (injection eo21 with f1_ f2_ f3_; have f4_ := f1_.symm; have f5_ := f3_.symm; clear f1_ f2_ f3_; subst f4_; subst f5_))
                      refine start_ (n := 9) (S := fun w' => True) (ds := []) #[false, false, false, false, false, false, false, false, false] (by kernel_rfl) rfl rfl trivial (fun hHeld => ?_); refine with_tabW frame_Get.tab10 frame_Get.bits10 (fun HT_ HW_ => ?_)
                      generalize w18.drew = w19 at HO136 HB HR137 hHeld ⊢
                      refine pure_ (i := 0) (N := some 37) (v := ?_) (a' := ?_) #[true, false, false, false, false, false, false, false, false] rfl rfl (any_of HT_.out (by kernel_rfl)) (fun _ _ _ h => h) (Or.inl ⟨by rfl, ?_⟩) ?_ ?_
                      rotate_left
                      · intro w'
                        go_simp
                        with_reducible rfl
                      rotate_left
                      · simp only [Act.put, List.setIfInBounds_toArray, List.set_cons_zero, List.set_cons_succ, i64_w, i32_w]
                        rfl
                      refine pure_ (i := 1) (N := some 38) (v := ?_) (a' := ?_) #[true, true, false, false, false, false, false, false, false] rfl rfl (any_of HT_.out (by kernel_rfl)) (fun _ _ _ h => h) (Or.inl ⟨by rfl, ?_⟩) ?_ ?_
                      rotate_left
                      · intro w'
                        go_simp
                        with_reducible rfl
                      rotate_left
                      · simp only [Act.put, List.setIfInBounds_toArray, List.set_cons_zero, List.set_cons_succ, i64_w, i32_w]
                        rfl
                      refine pure_ (i := 2) (N := some 39) (v := ?_) (a' := ?_) #[true, true, true, false, false, false, false, false, false] rfl rfl (any_of HT_.out (by kernel_rfl)) (fun _ _ _ h => h) (Or.inl ⟨by rfl, ?_⟩) ?_ ?_
                      rotate_left
                      · intro w'
                        go_simp
                        with_reducible rfl
                      rotate_left
                      · simp only [Act.put, List.setIfInBounds_toArray, List.set_cons_zero, List.set_cons_succ, i64_w, i32_w]
                        rfl
                      refine pure_ (i := 3) (N := some 40) (v := ?_) (a' := ?_) #[true, true, true, true, false, false, false, false, false] rfl rfl (any_of HT_.out (by kernel_rfl)) (fun _ _ _ h => h) (Or.inl ⟨by rfl, ?_⟩) ?_ ?_
                      rotate_left
                      · intro w'
                        go_simp
                        with_reducible rfl
                      rotate_left
                      · simp only [Act.put, List.setIfInBounds_toArray, List.set_cons_zero, List.set_cons_succ, i64_w, i32_w]
                        rfl
                      refine pure_ (i := 4) (N := some 41) (v := ?_) (a' := ?_) #[true, true, true, true, true, false, false, false, false] rfl rfl (any_of HT_.out (by kernel_rfl)) (fun _ _ _ h => h) (Or.inl ⟨by rfl, ?_⟩) ?_ ?_
                      rotate_left
                      · intro w'
                        go_simp
                        with_reducible rfl
                      rotate_left
                      · simp only [Act.put, List.setIfInBounds_toArray, List.set_cons_zero, List.set_cons_succ, i64_w, i32_w]
                        rfl
                      refine pure_ (i := 5) (N := some 42) (v := ?_) (a' := ?_) #[true, true, true, true, true, true, false, false, false] rfl rfl (any_of HT_.out (by kernel_rfl)) (fun _ _ _ h => h) (Or.inl ⟨by rfl, ?_⟩) ?_ ?_
                      rotate_left
                      · intro w'
                        go_simp
                        with_reducible rfl
                      rotate_left
                      · simp only [Act.put, List.setIfInBounds_toArray, List.set_cons_zero, List.set_cons_succ, i64_w, i32_w]
                        rfl
                      refine one_ (i := 6) (N := some 43) #[true, true, true, true, true, true, true, false, false] rfl rfl (one_of HT_.out (by kernel_rfl)) (by decide) (fun K hK => ?_)
                      refine goes_ Tryd.func47 (by kernel_rfl) rfl #[.slice Ao21 t134.length co21] (by rfl) rfl rfl (by (try simp only [List.map_toArray, List.map_cons, List.map_nil]); first | done | rfl | (simp only [List.length_drop, List.length_take]; rfl)) ?_
                      with_reducible refine (frame_sum.calls k _ _ t134 t138 _ ?side1 ?side2 A14.out).mono ?_
                      (case side1 => repeat (first | exact (Kd.R_reads' HO136.out).2.2 | (with_reducible refine Kd.C_alloc ?_ _) | (with_reducible refine Kd.C_drewN ?_ _) | (with_reducible refine Kd.C_drew ?_)))
                      (case side2 => exact (Kd.R_reads' HO136.out).2.1)
                      rintro e w22 ⟨v139, rfl, ho0, hb⟩
                      refine ⟨_, rfl, ?_⟩
                      have n0_ := Aside0.mk (Kd.R_elder' (by (with_reducible repeat (first | apply Kd.R_alloc | apply Kd.R_drewN | apply Kd.R_drew)); exact HO136.out) (Kd.R_base ho0) hb)
                      have n1_ := Aside0.mk (Kd.R_lower (Kd.R_new' ho0 (Kd.R_lt (by (with_reducible repeat (first | apply Kd.R_alloc | apply Kd.R_drewN | apply Kd.R_drew)); exact HO136.out))) (below_size (by repeat (first | (with_reducible first | exact HB.out | apply below_alloc | apply pw_below_drewN | apply below_drew1) | exact HB.out))))
                      have n2_ := Aside0.mk (below_step (by repeat (first | (with_reducible first | exact HB.out | apply below_alloc | apply pw_below_drewN | apply below_drew1) | exact HB.out)) hb)
                      clear HO136
                      clear HB
                      have HO136 := n0_
                      have HO140 := n1_
                      have HB := n2_
                      clear n0_ n1_ n2_
                      (try clear hb)
                      (try clear hb2)
                      (try clear hk)
                      (try clear hi)
                      (try clear ho0)
                      obtain ⟨Ao23, co23, eo23⟩ := Kd.R_slice HO140.out
                      (first | subst eo23 | (injection eo23 with f1_ f2_ f3_; have f4_ := f1_.symm; have f5_ := f3_.symm; clear f1_ f2_ f3_; subst f4_; subst f5_))
                      refine hK.out _ _ trivial (fun hHeld => ?_)
                      clear hK K
                      refine norm_ (a' := ?_) ?_ ?_
                      rotate_left
                      · show Act.put _ (some 43) _ = _
                        simp only [Act.put, List.setIfInBounds_toArray, List.set_cons_zero, List.set_cons_succ, i64_w, i32_w]
                        rfl
                      refine one_ (i := 7) (N := some 44) #[true, true, true, true, true, true, true, true, false] rfl rfl (one_of HT_.out (by kernel_rfl)) (by decide) (fun K hK => ?_)
                      refine goes_ Tryd.func55 (by kernel_rfl) rfl #[.slice A20 ((l0.take ((wrap64 ((ji10) + 4)) : Int).toNat).drop ((ji10) : Int).toNat).length (c0 - (ji10).toNat), .slice Ao23 t138.length co23] (by rfl) rfl rfl (by (try simp only [List.map_toArray, List.map_cons, List.map_nil]); first | done | (rw [show ((l0.take ((wrap64 ((ji10) + 4)) : Int).toNat).drop ((ji10) : Int).toNat).length = ((wrap64 ((ji10) + 4)).toNat - (ji10).toNat) from (by rw [List.length_drop, List.length_take]; have h_ : ((wrap64 ((ji10) + 4)) : Int) ≤ (l0.length : Int) := of_decide_eq_true (by first | (with_reducible assumption) | assumption); omega)] <;> rfl) | (simp only [hji10]; rfl) | rfl | (simp only [List.length_drop, List.length_take]; rfl)) ?_
                      with_reducible refine (bytes_Equal.calls _ _ ((l0.take ((wrap64 ((ji10) + 4)) : Int).toNat).drop ((ji10) : Int).toNat) _ _ t138 true _ ?side1 ?side2 ?side3 ?side4 A15.out).mono ?_
                      (case side1 => repeat (first | exact (Kd.C_below HR137.out HB.out) | (with_reducible refine Kd.C_alloc ?_ _) | (with_reducible refine Kd.C_drewN ?_ _) | (with_reducible refine Kd.C_drew ?_)))
                      (case side2 => exact HC137.out)
                      (case side3 => repeat (first | exact (Kd.R_reads' HO140.out).2.2 | (with_reducible refine Kd.C_alloc ?_ _) | (with_reducible refine Kd.C_drewN ?_ _) | (with_reducible refine Kd.C_drew ?_)))
                      (case side4 => exact (Kd.R_reads' HO140.out).2.1)
                      rintro e w' ⟨rfl, ⟨nd, rfl⟩⟩
                      refine ⟨_, rfl, ?_⟩
                      refine hK.out _ _ trivial (fun hHeld => ?_)
                      clear hK K
                      refine norm_ (a' := ?_) ?_ ?_
                      rotate_left
                      · show Act.put _ (some 44) _ = _
                        simp only [Act.put, List.setIfInBounds_toArray, List.set_cons_zero, List.set_cons_succ, i64_w, i32_w]
                        rfl
                      refine pure_ (i := 8) (N := some 45) (v := ?_) (a' := ?_) #[true, true, true, true, true, true, true, true, true] rfl rfl (any_of HT_.out (by kernel_rfl)) (fun _ _ _ h => h) (Or.inl ⟨by rfl, ?_⟩) ?_ ?_
                      rotate_left
                      · intro w'
                        go_simp
                        with_reducible rfl
                      rotate_left
                      · simp only [Act.put, List.setIfInBounds_toArray, List.set_cons_zero, List.set_cons_succ, i64_w, i32_w]
                        rfl
                      refine done_ (done_of HT_.out (by kernel_rfl)) ?_
                      try go_wp2
                      go_ret3
                      exact ⟨_, by first | rfl | (simp [errW_none, errW_some] <;> rfl) | (simp only [← hji10]; first | rfl | (simp [errW_none, errW_some] <;> rfl)) | (simp [*, errW_none, errW_some] <;> rfl), by (with_reducible repeat (first | apply Kd.R_alloc | apply Kd.R_drewN | apply Kd.R_drew)); exact Kd.R_mono HO136.out (fun _ hk => trivial), by repeat (first | (with_reducible first | exact HB.out | apply below_alloc | apply pw_below_drewN | apply below_drew1) | exact HB.out)⟩
                    · replace c16 := Bool.eq_false_iff.mpr c16
                      subst c16
                      have H1 : (some (([] : List Int), 0, 4)) = some (r1, r2, r3) := by rw [if_neg (show ¬ (false = true) by decide)] at H; exact H
                      clear H
                      have H := H1
                      clear H1
                      simp only [Option.some.injEq, Prod.mk.injEq] at H
                      obtain ⟨rfl, rfl, rfl⟩ := H
                      go_enter Tryd.func38, Tryd.ntmps38
                      try go_wp2_with (first | ((with_reducible refine gate_callee (f := 54) rfl ?_); refine goesL_ (some 12) rfl rfl Tryd.func54 (by kernel_rfl) rfl #[.slice A0 l0.length c0] rfl (by (try simp only [List.map_toArray, List.map_cons, List.map_nil]); first | done | rfl | (simp only [List.length_drop, List.length_take]; rfl)) ?_; (with_reducible refine (num_Get.calls _ _ l0 t130 t131 t132 _ ?side1 ?side2 A2.out).mono ?_); (case side1 => repeat (first | exact HR0.out | (with_reducible refine Kd.C_alloc ?_ _) | (with_reducible refine Kd.C_drewN ?_ _) | (with_reducible refine Kd.C_drew ?_))); (case side2 => exact HC0.out); rintro e w' ⟨rfl, ⟨nd, rfl⟩⟩; refine ⟨_, rfl, ?_⟩; obtain ⟨i024, hi024, _, hsz24, _⟩ := info_parts info5; obtain ⟨A24, hcut24, hA24, hC24⟩ := print_mid_of (P := Tryd.prog) (Value.int .u8) 0 22 5 .i64 .i64 Tryd.underlying22 hi024 hsz24 A0 c0 l0 t131 (ji10) (of_decide_eq_true (by first | (with_reducible assumption) | assumption)) (by first | omega | exact of_decide_eq_true (by first | (with_reducible assumption) | assumption)) (of_decide_eq_true (by first | (with_reducible assumption) | assumption)) HC0.out; have HR133 := Aside0.mk (Kd.C_of_reads (h1 := fun _ => rfl) (hA24 _ (Kd.reads_of_C HR0.out))); have HC133 := Aside0.mk hC24; clear hA24 hC24 hi024 hsz24) | ((with_reducible refine gate_callee (f := 45) rfl ?_); refine goesL_ (some 36) rfl rfl Tryd.func45 (by kernel_rfl) rfl #[.slice A24 ((l0.take ((ji10) : Int).toNat).drop (t131 : Int).toNat).length (c0 - t131.toNat)] rfl (by (try simp only [List.map_toArray, List.map_cons, List.map_nil]); first | done | (rw [show ((l0.take ((ji10) : Int).toNat).drop (t131 : Int).toNat).length = ((ji10).toNat - t131.toNat) from (by rw [List.length_drop, List.length_take]; have h_ : ((ji10) : Int) ≤ (l0.length : Int) := of_decide_eq_true (by first | (with_reducible assumption) | assumption); omega)] <;> rfl) | (simp only [hji10]; rfl) | rfl | (simp only [List.length_drop, List.length_take]; rfl)) ?_; (with_reducible refine (bytes_Clone.calls _ _ ((l0.take ((ji10) : Int).toNat).drop (t131 : Int).toNat) t134 _ ?side1 ?side2 A9.out).mono ?_); (case side1 => repeat (first | exact HR133.out | (with_reducible refine Kd.C_alloc ?_ _) | (with_reducible refine Kd.C_drewN ?_ _) | (with_reducible refine Kd.C_drew ?_))); (case side2 => exact HC133.out); rintro e w25 ⟨v135, rfl, ho0, hb⟩; refine ⟨_, rfl, ?_⟩; have n0_ := Aside0.mk (Kd.R_lower ho0 (below_size (by repeat (first | (with_reducible first | exact HB.out | apply below_alloc | apply pw_below_drewN | apply below_drew1) | exact HB.out)))); have n1_ := Aside0.mk (below_step (by repeat (first | (with_reducible first | exact HB.out | apply below_alloc | apply pw_below_drewN | apply below_drew1) | exact HB.out)) hb); clear HB; have HO136 := n0_; have HB := n1_; clear n0_ n1_; (try clear hb); (try clear hb2); (try clear hk); (try clear hi); (try clear ho0)))
                      have n0_ := Aside0.mk (Kd.R_drew HO136.out)
                      have n1_ := Aside0.mk (below_drew1 HB.out)
                      clear HO136
                      clear HB
                      have HO136 := n0_
                      have HB := n1_
                      clear n0_ n1_
                      obtain ⟨i027, hi027, _, hsz27, _⟩ := info_parts info5
                      obtain ⟨A27, hcut27, hA27, hC27⟩ := print_mid_of (P := Tryd.prog) (Value.int .u8) 0 22 5 .i64 .i64 Tryd.underlying22 hi027 hsz27 A0 c0 l0 (ji10) (wrap64 ((ji10) + 4)) (of_decide_eq_true (by first | (with_reducible assumption) | assumption)) (by first | omega | exact of_decide_eq_true (by first | (with_reducible assumption) | assumption)) (of_decide_eq_true (by first | (with_reducible assumption) | assumption)) HC0.out
                      have HR137 := Aside0.mk (Kd.C_of_reads (h1 := fun _ => rfl) (hA27 _ (Kd.reads_of_C HR0.out)))
                      have HC137 := Aside0.mk hC27
                      clear hA27 hC27 hi027 hsz27
                      obtain ⟨Ao28, co28, eo28⟩ := Kd.R_slice HO136.out
                      (first | subst eo28 | (injection eo28 with f1_ f2_ f3_; have f4_ := f1_.symm; have f5_ := f3_.symm; clear f1_ f2_ f3_; subst f4_; subst f5_))
                      refine start_ (n := 9) (S := fun w' => True) (ds := []) #[false, false, false, false, false, false, false, false, false] (by kernel_rfl) rfl rfl trivial (fun hHeld => ?_); refine with_tabW frame_Get.tab10 frame_Get.bits10 (fun HT_ HW_ => ?_)
                      generalize w25.drew = w26 at HO136 HB HR137 hHeld ⊢
                      refine pure_ (i := 0) (N := some 37) (v := ?_) (a' := ?_) #[true, false, false, false, false, false, false, false, false] rfl rfl (any_of HT_.out (by kernel_rfl)) (fun _ _ _ h => h) (Or.inl ⟨by rfl, ?_⟩) ?_ ?_
                      rotate_left
                      · intro w'
                        go_simp
                        with_reducible rfl
                      rotate_left
                      · simp only [Act.put, List.setIfInBounds_toArray, List.set_cons_zero, List.set_cons_succ, i64_w, i32_w]
                        rfl
                      refine pure_ (i := 1) (N := some 38) (v := ?_) (a' := ?_) #[true, true, false, false, false, false, false, false, false] rfl rfl (any_of HT_.out (by kernel_rfl)) (fun _ _ _ h => h) (Or.inl ⟨by rfl, ?_⟩) ?_ ?_
                      rotate_left
                      · intro w'
                        go_simp
                        with_reducible rfl
                      rotate_left
                      · simp only [Act.put, List.setIfInBounds_toArray, List.set_cons_zero, List.set_cons_succ, i64_w, i32_w]
                        rfl
                      refine pure_ (i := 2) (N := some 39) (v := ?_) (a' := ?_) #[true, true, true, false, false, false, false, false, false] rfl rfl (any_of HT_.out (by kernel_rfl)) (fun _ _ _ h => h) (Or.inl ⟨by rfl, ?_⟩) ?_ ?_
                      rotate_left
                      · intro w'
                        go_simp
                        with_reducible rfl
                      rotate_left
                      · simp only [Act.put, List.setIfInBounds_toArray, List.set_cons_zero, List.set_cons_succ, i64_w, i32_w]
                        rfl
                      refine pure_ (i := 3) (N := some 40) (v := ?_) (a' := ?_) #[true, true, true, true, false, false, false, false, false] rfl rfl (any_of HT_.out (by kernel_rfl)) (fun _ _ _ h => h) (Or.inl ⟨by rfl, ?_⟩) ?_ ?_
                      rotate_left
                      · intro w'
                        go_simp
                        with_reducible rfl
                      rotate_left
                      · simp only [Act.put, List.setIfInBounds_toArray, List.set_cons_zero, List.set_cons_succ, i64_w, i32_w]
                        rfl
                      refine pure_ (i := 4) (N := some 41) (v := ?_) (a' := ?_) #[true, true, true, true, true, false, false, false, false] rfl rfl (any_of HT_.out (by kernel_rfl)) (fun _ _ _ h => h) (Or.inl ⟨by rfl, ?_⟩) ?_ ?_
                      rotate_left
                      · intro w'
                        go_simp
                        with_reducible rfl
                      rotate_left
                      · simp only [Act.put, List.setIfInBounds_toArray, List.set_cons_zero, List.set_cons_succ, i64_w, i32_w]
                        rfl
                      refine pure_ (i := 5) (N := some 42) (v := ?_) (a' := ?_) #[true, true, true, true, true, true, false, false, false] rfl rfl (any_of HT_.out (by kernel_rfl)) (fun _ _ _ h => h) (Or.inl ⟨by rfl, ?_⟩) ?_ ?_
                      rotate_left
                      · intro w'
                        go_simp
                        with_reducible rfl
                      rotate_left
                      · simp only [Act.put, List.setIfInBounds_toArray, List.set_cons_zero, List.set_cons_succ, i64_w, i32_w]
                        rfl
                      refine one_ (i := 6) (N := some 43) #[true, true, true, true, true, true, true, false, false] rfl rfl (one_of HT_.out (by kernel_rfl)) (by decide) (fun K hK => ?_)
                      refine goes_ Tryd.func47 (by kernel_rfl) rfl #[.slice Ao28 t134.length co28] (by rfl) rfl rfl (by (try simp only [List.map_toArray, List.map_cons, List.map_nil]); first | done | rfl | (simp only [List.length_drop, List.length_take]; rfl)) ?_
                      with_reducible refine (frame_sum.calls k _ _ t134 t138 _ ?side1 ?side2 A14.out).mono ?_
                      (case side1 => repeat (first | exact (Kd.R_reads' HO136.out).2.2 | (with_reducible refine Kd.C_alloc ?_ _) | (with_reducible refine Kd.C_drewN ?_ _) | (with_reducible refine Kd.C_drew ?_)))
                      (case side2 => exact (Kd.R_reads' HO136.out).2.1)
                      rintro e w29 ⟨v139, rfl, ho0, hb⟩
                      refine ⟨_, rfl, ?_⟩
                      have n0_ := Aside0.mk (Kd.R_elder' (by (with_reducible repeat (first | apply Kd.R_alloc | apply Kd.R_drewN | apply Kd.R_drew)); exact HO136.out) (Kd.R_base ho0) hb)
                      have n1_ := Aside0.mk (Kd.R_lower (Kd.R_new' ho0 (Kd.R_lt (by (with_reducible repeat (first | apply Kd.R_alloc | apply Kd.R_drewN | apply Kd.R_drew)); exact HO136.out))) (below_size (by repeat (first | (with_reducible first | exact HB.out | apply below_alloc | apply pw_below_drewN | apply below_drew1) | exact HB.out))))
                      have n2_ := Aside0.mk (below_step (by repeat (first | (with_reducible first | exact HB.out | apply below_alloc | apply pw_below_drewN | apply below_drew1) | exact HB.out)) hb)
                      clear HO136
                      clear HB
                      have HO136 := n0_
                      have HO140 := n1_
                      have HB := n2_
                      clear n0_ n1_ n2_
                      (try clear hb)
                      (try clear hb2)
                      (try clear hk)
                      (try clear hi)
                      (try clear ho0)
                      obtain ⟨Ao30, co30, eo30⟩ := Kd.R_slice HO140.out
                      (first | subst eo30 | (injection eo30 with f1_ f2_ f3_; have f4_ := f1_.symm; have f5_ := f3_.symm; clear f1_ f2_ f3_; subst f4_; subst f5_))
                      refine hK.out _ _ trivial (fun hHeld => ?_)
                      clear hK K
                      refine norm_ (a' := ?_) ?_ ?_
                      rotate_left
                      · show Act.put _ (some 43) _ = _
                        simp only [Act.put, List.setIfInBounds_toArray, List.set_cons_zero, List.set_cons_succ, i64_w, i32_w]
                        rfl
                      refine one_ (i := 7) (N := some 44) #[true, true, true, true, true, true, true, true, false] rfl rfl (one_of HT_.out (by kernel_rfl)) (by decide) (fun K hK => ?_)
                      refine goes_ Tryd.func55 (by kernel_rfl) rfl #[.slice A27 ((l0.take ((wrap64 ((ji10) + 4)) : Int).toNat).drop ((ji10) : Int).toNat).length (c0 - (ji10).toNat), .slice Ao30 t138.length co30] (by rfl) rfl rfl (by (try simp only [List.map_toArray, List.map_cons, List.map_nil]); first | done | (rw [show ((l0.take ((wrap64 ((ji10) + 4)) : Int).toNat).drop ((ji10) : Int).toNat).length = ((wrap64 ((ji10) + 4)).toNat - (ji10).toNat) from (by rw [List.length_drop, List.length_take]; have h_ : ((wrap64 ((ji10) + 4)) : Int) ≤ (l0.length : Int) := of_decide_eq_true (by first | (with_reducible assumption) | assumption); omega)] <;> rfl) | (simp only [hji10]; rfl) | rfl | (simp only [List.length_drop, List.length_take]; rfl)) ?_
                      with_reducible refine (bytes_Equal.calls _ _ ((l0.take ((wrap64 ((ji10) + 4)) : Int).toNat).drop ((ji10) : Int).toNat) _ _ t138 false _ ?side1 ?side2 ?side3 ?side4 A15.out).mono ?_
                      (case side1 => repeat (first | exact (Kd.C_below HR137.out HB.out) | (with_reducible refine Kd.C_alloc ?_ _) | (with_reducible refine Kd.C_drewN ?_ _) | (with_reducible refine Kd.C_drew ?_)))
                      (case side2 => exact HC137.out)
                      (case side3 => repeat (first | exact (Kd.R_reads' HO140.out).2.2 | (with_reducible refine Kd.C_alloc ?_ _) | (with_reducible refine Kd.C_drewN ?_ _) | (with_reducible refine Kd.C_drew ?_)))
                      (case side4 => exact (Kd.R_reads' HO140.out).2.1)
                      rintro e w' ⟨rfl, ⟨nd, rfl⟩⟩
                      refine ⟨_, rfl, ?_⟩
                      refine hK.out _ _ trivial (fun hHeld => ?_)
                      clear hK K
                      refine norm_ (a' := ?_) ?_ ?_
                      rotate_left
                      · show Act.put _ (some 44) _ = _
                        simp only [Act.put, List.setIfInBounds_toArray, List.set_cons_zero, List.set_cons_succ, i64_w, i32_w]
                        rfl
                      refine pure_ (i := 8) (N := some 45) (v := ?_) (a' := ?_) #[true, true, true, true, true, true, true, true, true] rfl rfl (any_of HT_.out (by kernel_rfl)) (fun _ _ _ h => h) (Or.inl ⟨by rfl, ?_⟩) ?_ ?_
                      rotate_left
                      · intro w'
                        go_simp
                        with_reducible rfl
                      rotate_left
                      · simp only [Act.put, List.setIfInBounds_toArray, List.set_cons_zero, List.set_cons_succ, i64_w, i32_w]
                        rfl
                      refine done_ (done_of HT_.out (by kernel_rfl)) ?_
                      try go_wp2
                      go_ret3
                      exact ⟨_, by first | rfl | (simp [errW_none, errW_some] <;> rfl) | (simp only [← hji10]; first | rfl | (simp [errW_none, errW_some] <;> rfl)) | (simp [*, errW_none, errW_some] <;> rfl), by first | exact Kd.R_nil _ _ _ _ _ | exact Kd.N_nil _ _ _ _ _ | exact Kd.V_nil _ _ _ _ _ | exact Kd.Q_nil _ _ _ _ _ | exact Kd.S_nil _ _ _ _ _, by repeat (first | (with_reducible first | exact HB.out | apply below_alloc | apply pw_below_drewN | apply below_drew1) | exact HB.out)⟩
                  · rw [if_neg c13] at H
                    exact absurd H (by simp)
                · rw [if_neg c12] at H
                  exact absurd H (by simp)
              · rw [if_neg c11] at H
                exact absurd H (by simp)
            · rw [if_neg c8] at H
              exact absurd H (by simp)
          · rw [if_neg c7] at H
            exact absurd H (by simp)
        · rw [if_neg c6] at H
          exact absurd H (by simp)
  · rw [if_neg c3] at H
    have c3b0 : (t132 == 0) = false := beq_eq_false_iff_ne.mpr c3
    have c3b1 : (t132 != 0) = true := bne_iff_ne.mpr c3
    simp only [Option.some.injEq, Prod.mk.injEq] at H
    obtain ⟨rfl, rfl, rfl⟩ := H
    go_enter Tryd.func38, Tryd.ntmps38
    go_wp2_with (first | ((with_reducible refine gate_callee (f := 54) rfl ?_); refine goesL_ (some 12) rfl rfl Tryd.func54 (by kernel_rfl) rfl #[.slice A0 l0.length c0] rfl (by (try simp only [List.map_toArray, List.map_cons, List.map_nil]); first | done | rfl | (simp only [List.length_drop, List.length_take]; rfl)) ?_; (with_reducible refine (num_Get.calls _ _ l0 t130 t131 t132 _ ?side1 ?side2 A2.out).mono ?_); (case side1 => repeat (first | exact HR0.out | (with_reducible refine Kd.C_alloc ?_ _) | (with_reducible refine Kd.C_drewN ?_ _) | (with_reducible refine Kd.C_drew ?_))); (case side2 => exact HC0.out); rintro e w' ⟨rfl, ⟨nd, rfl⟩⟩; refine ⟨_, rfl, ?_⟩))
    go_ret3
    exact ⟨_, by first | rfl | (simp [errW_none, errW_some] <;> rfl) | (simp [*, errW_none, errW_some] <;> rfl), by first | exact Kd.R_nil _ _ _ _ _ | exact Kd.N_nil _ _ _ _ _ | exact Kd.V_nil _ _ _ _ _ | exact Kd.Q_nil _ _ _ _ _ | exact Kd.S_nil _ _ _ _ _, by repeat (first | (with_reducible first | exact HB.out | apply below_alloc | apply pw_below_drewN | apply below_drew1) | exact HB.out)⟩

end Go.Proofs.YtnnlmackofopeaaDoor.PFr
