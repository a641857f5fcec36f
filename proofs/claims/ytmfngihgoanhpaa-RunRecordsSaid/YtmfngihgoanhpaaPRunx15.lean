/- Contracts of Go functions: called with what reads as these lists and numbers, a function returns what its plain Lean function says, and leaves what was there. Written by a program of this session. -/
import Derived.Test.YtmfngihgoanhpaaPRunx0
import Derived.Test.YtmfngihgoanhpaaPRunx2
import Derived.Test.YtmfngihgoanhpaaPRunx4
import Derived.Test.YtmfngihgoanhpaaPRunx6
import Derived.Test.YtmfngihgoanhpaaPRunx7
import Derived.Test.YtmfngihgoanhpaaPRunx10
namespace Go.Proofs.Ytmfngihgoanhpaa.PRun
open Go.RowKit Go.Proofs.YtmfngihgoanhpaaW.PrintWords Go.Proofs.YtmfngihgoanhpaaW.PrintLast Go.Proofs.YtmfngihgoanhpaaW.PrintMore
attribute [local go_sem] max2_int min2_int max_two min_two max_three min_three max_four min_four   -- for this text's walks alone
attribute [local go_sem] Go.Proofs.Ytmfngihgoanhpaa.MoreWords.str_leq Go.Proofs.Ytmfngihgoanhpaa.MoreWords.str_gtr Go.Proofs.Ytmfngihgoanhpaa.MoreWords.str_geq
set_option linter.unusedVariables false
set_option linter.unusedSimpArgs false

/-! ### manteletlaw09_RunRecords: function 8 -/
def manteletlaw09_RunRecords.j0 : Nat → List (S44) → Int → Bool → Bool → Option (Bool)
  | 0, _, _, _, _ => none
  | k + 1, x0, x1, x5, x20 => if x20 = true then (some x5) else ((run_Encode.f k x0 (wrap64 (1 + (wrap64 (Int.tmod x1 255))))).bind fun bt504 => ((manteletref03_Scan.f k bt504.1).bind fun bt508 => (if (wrap64 (1 + (wrap64 (Int.tmod x1 255)))) = 0 then (none) else (if x5 = true then (if bt504.2 = 0 then (if bt508.2 = (bt504.1.length : Int) then (if (bt508.1.length : Int) = (wrap64 ((wrap64 (Int.tdiv (wrap64 ((wrap64 ((x0.length : Int) + (wrap64 (1 + (wrap64 (Int.tmod x1 255)))))) - 1)) (wrap64 (1 + (wrap64 (Int.tmod x1 255)))))) + 2)) then (if 0 < (bt508.1.length : Int) then (if ((rd_L4 bt508.1 0).length : Int) ≥ 1 then (if 0 < ((rd_L4 bt508.1 0).length : Int) then (if (wrap64 (Int.tmod (rd (rd_L4 bt508.1 0) 0) 128)) = (Int.tmod (wrap64 (1 + (wrap64 (Int.tmod x1 255)))) 128) then (if 0 ≤ (wrap64 ((bt508.1.length : Int) - 1)) then (if (wrap64 ((bt508.1.length : Int) - 1)) < (bt508.1.length : Int) then (if ((rd_L4 bt508.1 (wrap64 ((bt508.1.length : Int) - 1))).length : Int) ≥ 2 then (if 0 < ((rd_L4 bt508.1 (wrap64 ((bt508.1.length : Int) - 1))).length : Int) then (some ((rd (rd_L4 bt508.1 (wrap64 ((bt508.1.length : Int) - 1))) 0) == 0)) else (none)) else (none)) else (none)) else (none)) else (none)) else (none)) else (none)) else (none)) else (none)) else (none)) else (none)) else (none)))))
def manteletlaw09_RunRecords.f (k : Nat) (l0 : List (S44)) (a1 : Int) : Option (Bool) := (manteletlaw09_shown.f k).bind fun t501 => ((manteletlaw09_few.f k l0).bind fun t502 => (if t502 = true then ((run_May.f k l0).bind fun t503 => (manteletlaw09_RunRecords.j0 k l0 a1 t501 (t503 != 0))) else (manteletlaw09_RunRecords.j0 k l0 a1 t501 true)))
theorem manteletlaw09_RunRecords.mono_l : ∀ k, (∀ y0 y1 y2 y3, LeO (manteletlaw09_RunRecords.j0 k y0 y1 y2 y3) (manteletlaw09_RunRecords.j0 (k + 1) y0 y1 y2 y3))
  | 0 => fun _ _ _ _ r h => by simp [manteletlaw09_RunRecords.j0] at h
  | k + 1 => by
    have ih0 := manteletlaw09_RunRecords.mono_l k
    · intro y0 y1 y2 y3
      unfold manteletlaw09_RunRecords.j0
      repeat' first
      | (with_reducible exact ih0 _ _ _ _)
      | (with_reducible exact manteletlaw09_few.mono _ _)
      | (with_reducible exact manteletlaw09_shown.mono _)
      | (with_reducible exact manteletref03_Scan.mono _ _)
      | (with_reducible exact run_Encode.mono _ _ _)
      | (with_reducible exact run_May.mono _ _)
      | (with_reducible exact LeO.refl _)
      | (with_reducible exact LeO.none _)
      | (with_reducible refine LeO.ite ?_ ?_)
      | (with_reducible refine LeO.bind ?_ (fun _ => ?_))
      | exact ih0 _ _ _ _
      | exact manteletlaw09_few.mono _ _
      | exact manteletlaw09_shown.mono _
      | exact manteletref03_Scan.mono _ _
      | exact run_Encode.mono _ _ _
      | exact run_May.mono _ _
      | exact LeO.none _
      | refine LeO.ite ?_ ?_
      | refine LeO.bind ?_ (fun _ => ?_)
theorem manteletlaw09_RunRecords.mono : ∀ a0 a1 k, LeO (manteletlaw09_RunRecords.f k a0 a1) (manteletlaw09_RunRecords.f (k + 1) a0 a1) := by
  intro a0 a1 k
  have ih0 := manteletlaw09_RunRecords.mono_l k
  unfold manteletlaw09_RunRecords.f
  repeat' first
      | (with_reducible exact ih0 _ _ _ _)
      | (with_reducible exact manteletlaw09_few.mono _ _)
      | (with_reducible exact manteletlaw09_shown.mono _)
      | (with_reducible exact manteletref03_Scan.mono _ _)
      | (with_reducible exact run_Encode.mono _ _ _)
      | (with_reducible exact run_May.mono _ _)
      | (with_reducible exact LeO.refl _)
      | (with_reducible exact LeO.none _)
      | (with_reducible refine LeO.ite ?_ ?_)
      | (with_reducible refine LeO.bind ?_ (fun _ => ?_))
      | exact ih0 _ _ _ _
      | exact manteletlaw09_few.mono _ _
      | exact manteletlaw09_shown.mono _
      | exact manteletref03_Scan.mono _ _
      | exact run_Encode.mono _ _ _
      | exact run_May.mono _ _
      | exact LeO.none _
      | refine LeO.ite ?_ ?_
      | refine LeO.bind ?_ (fun _ => ?_)
set_option maxHeartbeats 8000000 in
set_option maxRecDepth 100000 in
theorem manteletlaw09_RunRecords.calls (k : Nat) (A0 : Option Addr) (c0 : Nat) (l0 : List (S44)) (a1 : Int) (r : Bool) (w : World) (hr0 : Kd.C k44 w A0 l0.length l0) (hc0 : l0.length ≤ c0) (h : manteletlaw09_RunRecords.f k l0 a1 = some r) :
    Calls Try.prog 8 #[.slice A0 l0.length c0, .int .u8 a1] w fun e w' => e = .returned (.bool r) ∧ Below w.heap.size w w' := by
  have HR0 := Aside0.mk hr0
  have HC0 := Aside0.mk hc0
  clear hr0 hc0
  have HB := Aside0.mk (Below.refl w.heap.size w)
  have H : ((manteletlaw09_shown.f k).bind fun t501 => ((manteletlaw09_few.f k l0).bind fun t502 => (if t502 = true then ((run_May.f k l0).bind fun t503 => (manteletlaw09_RunRecords.j0 k l0 a1 t501 (t503 != 0))) else (manteletlaw09_RunRecords.j0 k l0 a1 t501 true)))) = some r := h
  clear h
  replace H := Option.bind_eq_some_iff.mp H
  obtain ⟨t501, A30, H⟩ := H
  replace H : ((manteletlaw09_few.f k l0).bind fun t502 => (if t502 = true then ((run_May.f k l0).bind fun t503 => (manteletlaw09_RunRecords.j0 k l0 a1 t501 (t503 != 0))) else (manteletlaw09_RunRecords.j0 k l0 a1 t501 true))) = some r := H
  have A3 := Aside0.mk A30
  clear A30
  have HC4 := Aside0.mk H
  clear H
  go_enter Try.func8, Try.ntmps8
  go_upto_region 2 with (first | ((with_reducible refine gate_callee (f := 9) rfl ?_); refine goesL_ (some 12) rfl rfl Try.func9 (by kernel_rfl) rfl #[] rfl (by (try simp only [List.map_toArray, List.map_cons, List.map_nil]); first | done | rfl | (simp only [List.length_drop, List.length_take]; rfl)) ?_; (with_reducible refine (manteletlaw09_shown.calls k  t501 _ A3.out).mono ?_); rintro e w5 ⟨rfl, hb⟩; refine ⟨_, rfl, ?_⟩; have n0_ := Aside0.mk (below_step (by repeat (first | (with_reducible first | exact HB.out | apply below_alloc | apply pw_below_drewN | apply below_drew1) | exact HB.out)) hb); clear HB; have HB := n0_; clear n0_; (try clear hb); (try clear hb2); (try clear hk); (try clear hi)))
  (try simp only [Act.put, List.setIfInBounds_toArray, List.set_cons_zero, List.set_cons_succ])
  go_cut [20] (fun v20 wc => ∃ (kq : Nat) (x20_3 : Bool), v20 = .bool x20_3 ∧ Aside0 (manteletlaw09_RunRecords.j0 kq l0 a1 t501 x20_3 = some r) ∧ Aside0 (kq ≤ k) ∧ Aside0 (Below w.heap.size w wc))
  case first =>
    have H := HC4.out
    clear HC4
    replace H := Option.bind_eq_some_iff.mp H
    obtain ⟨t502, A60, H⟩ := H
    replace H : (if t502 = true then ((run_May.f k l0).bind fun t503 => (manteletlaw09_RunRecords.j0 k l0 a1 t501 (t503 != 0))) else (manteletlaw09_RunRecords.j0 k l0 a1 t501 true)) = some r := H
    have A6 := Aside0.mk A60
    clear A60
    by_cases c7 : t502 = true
    · subst c7
      have H1 : ((run_May.f k l0).bind fun t503 => (manteletlaw09_RunRecords.j0 k l0 a1 t501 (t503 != 0))) = some r := by rw [if_pos rfl] at H; exact H
      clear H
      have H := H1
      clear H1
      replace H := Option.bind_eq_some_iff.mp H
      obtain ⟨t503, A80, H⟩ := H
      replace H : (manteletlaw09_RunRecords.j0 k l0 a1 t501 (t503 != 0)) = some r := H
      have A8 := Aside0.mk A80
      clear A80
      have H' := Aside0.mk H
      clear H
      go_wp2_with (first | ((with_reducible refine gate_callee (f := 10) rfl ?_); refine goesL_ (some 14) rfl rfl Try.func10 (by kernel_rfl) rfl #[.slice A0 l0.length c0] rfl (by (try simp only [List.map_toArray, List.map_cons, List.map_nil]); first | done | rfl | (simp only [List.length_drop, List.length_take]; rfl)) ?_; (with_reducible refine (manteletlaw09_few.calls k _ _ l0 true _ ?side1 ?side2 A6.out).mono ?_); (case side1 => repeat (first | exact (Kd.C_below HR0.out HB.out) | (with_reducible refine Kd.C_alloc ?_ _) | (with_reducible refine Kd.C_drewN ?_ _) | (with_reducible refine Kd.C_drew ?_))); (case side2 => exact HC0.out); rintro e w' ⟨rfl, ⟨nd, rfl⟩⟩; refine ⟨_, rfl, ?_⟩) | (go_at_call 15; (with_reducible refine (run_May.calls k _ _ l0 t503 _ ?side1 ?side2 A8.out).mono ?_); (case side1 => repeat (first | exact (Kd.C_below HR0.out (by repeat (first | (with_reducible first | exact HB.out | apply below_alloc | apply pw_below_drewN | apply below_drew1) | exact HB.out))) | (with_reducible refine Kd.C_alloc ?_ _) | (with_reducible refine Kd.C_drewN ?_ _) | (with_reducible refine Kd.C_drew ?_))); (case side2 => exact HC0.out); rintro e w9 ⟨rfl, hb⟩; have n0_ := Aside0.mk (below_step (by repeat (first | (with_reducible first | exact HB.out | apply below_alloc | apply pw_below_drewN | apply below_drew1) | exact HB.out)) hb); clear HB; have HB := n0_; clear n0_; (try clear hb); (try clear hb2); (try clear hk); (try clear hi)))
      go_meet
      case rel => exact ⟨_, ((t503 != 0)), (by first | rfl | (simp; done) | (simp [*]; done)), H', ⟨by first | omega | exact Nat.le_refl _⟩, ⟨by repeat (first | (with_reducible first | exact HB.out | apply below_alloc | apply pw_below_drewN | apply below_drew1) | exact HB.out)⟩⟩
    · replace c7 := Bool.eq_false_iff.mpr c7
      subst c7
      have H1 : (manteletlaw09_RunRecords.j0 k l0 a1 t501 true) = some r := by rw [if_neg (show ¬ (false = true) by decide)] at H; exact H
      clear H
      have H := H1
      clear H1
      have H' := Aside0.mk H
      clear H
      go_wp2_with (first | ((with_reducible refine gate_callee (f := 10) rfl ?_); refine goesL_ (some 14) rfl rfl Try.func10 (by kernel_rfl) rfl #[.slice A0 l0.length c0] rfl (by (try simp only [List.map_toArray, List.map_cons, List.map_nil]); first | done | rfl | (simp only [List.length_drop, List.length_take]; rfl)) ?_; (with_reducible refine (manteletlaw09_few.calls k _ _ l0 false _ ?side1 ?side2 A6.out).mono ?_); (case side1 => repeat (first | exact (Kd.C_below HR0.out HB.out) | (with_reducible refine Kd.C_alloc ?_ _) | (with_reducible refine Kd.C_drewN ?_ _) | (with_reducible refine Kd.C_drew ?_))); (case side2 => exact HC0.out); rintro e w' ⟨rfl, ⟨nd, rfl⟩⟩; refine ⟨_, rfl, ?_⟩))
      go_meet
      case rel => exact ⟨_, (true), (by first | rfl | (simp; done) | (simp [*]; done)), H', ⟨by first | omega | exact Nat.le_refl _⟩, ⟨by repeat (first | (with_reducible first | exact HB.out | apply below_alloc | apply pw_below_drewN | apply below_drew1) | exact HB.out)⟩⟩
  case rest =>
    clear HC4
    try clear c1
    try clear p2
    try clear c7
    try clear c8
    try clear c9
    obtain ⟨kq, x20_3, rfl, HA, HJ3, HB⟩ := hcut
    cases kq with
    | zero => exact absurd HA.out (by simp [manteletlaw09_RunRecords.j0])
    | succ kj3 =>
      have H := HA.out
      clear HA
      simp only [manteletlaw09_RunRecords.j0] at H
      by_cases c10 : x20_3 = true
      · subst c10
        have H1 : (some t501) = some r := by rw [if_pos rfl] at H; exact H
        clear H
        have H := H1
        clear H1
        obtain rfl := Option.some.inj H
        go_wp2
        go_ret
        exact ⟨by first | rfl | (simp [errW_none, errW_some] <;> rfl) | (have e_ := Option.some.inj (A3.out.symm.trans A6.out); subst e_; rfl) | (have e_ := Option.some.inj (A3.out.symm.trans A8.out); subst e_; rfl) | (have e_ := Option.some.inj (A6.out.symm.trans A8.out); subst e_; rfl) | (simp [*, errW_none, errW_some] <;> rfl), by repeat (first | (with_reducible first | exact HB.out | apply below_alloc | apply pw_below_drewN | apply below_drew1) | exact HB.out)⟩
      · replace c10 := Bool.eq_false_iff.mpr c10
        subst c10
        have H1 : ((run_Encode.f kj3 l0 (wrap64 (1 + (wrap64 (Int.tmod a1 255))))).bind fun bt504 => ((manteletref03_Scan.f kj3 bt504.1).bind fun bt508 => (if (wrap64 (1 + (wrap64 (Int.tmod a1 255)))) = 0 then (none) else (if t501 = true then (if bt504.2 = 0 then (if bt508.2 = (bt504.1.length : Int) then (if (bt508.1.length : Int) = (wrap64 ((wrap64 (Int.tdiv (wrap64 ((wrap64 ((l0.length : Int) + (wrap64 (1 + (wrap64 (Int.tmod a1 255)))))) - 1)) (wrap64 (1 + (wrap64 (Int.tmod a1 255)))))) + 2)) then (if 0 < (bt508.1.length : Int) then (if ((rd_L4 bt508.1 0).length : Int) ≥ 1 then (if 0 < ((rd_L4 bt508.1 0).length : Int) then (if (wrap64 (Int.tmod (rd (rd_L4 bt508.1 0) 0) 128)) = (Int.tmod (wrap64 (1 + (wrap64 (Int.tmod a1 255)))) 128) then (if 0 ≤ (wrap64 ((bt508.1.length : Int) - 1)) then (if (wrap64 ((bt508.1.length : Int) - 1)) < (bt508.1.length : Int) then (if ((rd_L4 bt508.1 (wrap64 ((bt508.1.length : Int) - 1))).length : Int) ≥ 2 then (if 0 < ((rd_L4 bt508.1 (wrap64 ((bt508.1.length : Int) - 1))).length : Int) then (some ((rd (rd_L4 bt508.1 (wrap64 ((bt508.1.length : Int) - 1))) 0) == 0)) else (none)) else (none)) else (none)) else (none)) else (none)) else (none)) else (none)) else (none)) else (none)) else (none)) else (none)) else (none))))) = some r := by rw [if_neg (show ¬ (false = true) by decide)] at H; exact H
        clear H
        have H := H1
        clear H1
        replace H := Option.bind_eq_some_iff.mp H
        obtain ⟨⟨t504, t505⟩, A110, H⟩ := H
        replace H : ((manteletref03_Scan.f kj3 t504).bind fun bt508 => (if (wrap64 (1 + (wrap64 (Int.tmod a1 255)))) = 0 then (none) else (if t501 = true then (if t505 = 0 then (if bt508.2 = (t504.length : Int) then (if (bt508.1.length : Int) = (wrap64 ((wrap64 (Int.tdiv (wrap64 ((wrap64 ((l0.length : Int) + (wrap64 (1 + (wrap64 (Int.tmod a1 255)))))) - 1)) (wrap64 (1 + (wrap64 (Int.tmod a1 255)))))) + 2)) then (if 0 < (bt508.1.length : Int) then (if ((rd_L4 bt508.1 0).length : Int) ≥ 1 then (if 0 < ((rd_L4 bt508.1 0).length : Int) then (if (wrap64 (Int.tmod (rd (rd_L4 bt508.1 0) 0) 128)) = (Int.tmod (wrap64 (1 + (wrap64 (Int.tmod a1 255)))) 128) then (if 0 ≤ (wrap64 ((bt508.1.length : Int) - 1)) then (if (wrap64 ((bt508.1.length : Int) - 1)) < (bt508.1.length : Int) then (if ((rd_L4 bt508.1 (wrap64 ((bt508.1.length : Int) - 1))).length : Int) ≥ 2 then (if 0 < ((rd_L4 bt508.1 (wrap64 ((bt508.1.length : Int) - 1))).length : Int) then (some ((rd (rd_L4 bt508.1 (wrap64 ((bt508.1.length : Int) - 1))) 0) == 0)) else (none)) else (none)) else (none)) else (none)) else (none)) else (none)) else (none)) else (none)) else (none)) else (none)) else (none)) else (none)))) = some r := H
        have A11 := Aside0.mk A110
        clear A110
        replace H := Option.bind_eq_some_iff.mp H
        obtain ⟨⟨t508, t509⟩, A120, H⟩ := H
        replace H : (if (wrap64 (1 + (wrap64 (Int.tmod a1 255)))) = 0 then (none) else (if t501 = true then (if t505 = 0 then (if t509 = (t504.length : Int) then (if (t508.length : Int) = (wrap64 ((wrap64 (Int.tdiv (wrap64 ((wrap64 ((l0.length : Int) + (wrap64 (1 + (wrap64 (Int.tmod a1 255)))))) - 1)) (wrap64 (1 + (wrap64 (Int.tmod a1 255)))))) + 2)) then (if 0 < (t508.length : Int) then (if ((rd_L4 t508 0).length : Int) ≥ 1 then (if 0 < ((rd_L4 t508 0).length : Int) then (if (wrap64 (Int.tmod (rd (rd_L4 t508 0) 0) 128)) = (Int.tmod (wrap64 (1 + (wrap64 (Int.tmod a1 255)))) 128) then (if 0 ≤ (wrap64 ((t508.length : Int) - 1)) then (if (wrap64 ((t508.length : Int) - 1)) < (t508.length : Int) then (if ((rd_L4 t508 (wrap64 ((t508.length : Int) - 1))).length : Int) ≥ 2 then (if 0 < ((rd_L4 t508 (wrap64 ((t508.length : Int) - 1))).length : Int) then (some ((rd (rd_L4 t508 (wrap64 ((t508.length : Int) - 1))) 0) == 0)) else (none)) else (none)) else (none)) else (none)) else (none)) else (none)) else (none)) else (none)) else (none)) else (none)) else (none)) else (none))) = some r := H
        have A12 := Aside0.mk A120
        clear A120
        by_cases c13 : (wrap64 (1 + (wrap64 (Int.tmod a1 255)))) = 0
        · rw [if_pos c13] at H
          exact absurd H (by simp)
        · rw [if_neg c13] at H
          have c13b0 : ((wrap64 (1 + (wrap64 (Int.tmod a1 255)))) == 0) = false := beq_eq_false_iff_ne.mpr c13
          have c13b1 : ((wrap64 (1 + (wrap64 (Int.tmod a1 255)))) != 0) = true := bne_iff_ne.mpr c13
          by_cases c14 : t501 = true
          · subst c14
            have H1 : (if t505 = 0 then (if t509 = (t504.length : Int) then (if (t508.length : Int) = (wrap64 ((wrap64 (Int.tdiv (wrap64 ((wrap64 ((l0.length : Int) + (wrap64 (1 + (wrap64 (Int.tmod a1 255)))))) - 1)) (wrap64 (1 + (wrap64 (Int.tmod a1 255)))))) + 2)) then (if 0 < (t508.length : Int) then (if ((rd_L4 t508 0).length : Int) ≥ 1 then (if 0 < ((rd_L4 t508 0).length : Int) then (if (wrap64 (Int.tmod (rd (rd_L4 t508 0) 0) 128)) = (Int.tmod (wrap64 (1 + (wrap64 (Int.tmod a1 255)))) 128) then (if 0 ≤ (wrap64 ((t508.length : Int) - 1)) then (if (wrap64 ((t508.length : Int) - 1)) < (t508.length : Int) then (if ((rd_L4 t508 (wrap64 ((t508.length : Int) - 1))).length : Int) ≥ 2 then (if 0 < ((rd_L4 t508 (wrap64 ((t508.length : Int) - 1))).length : Int) then (some ((rd (rd_L4 t508 (wrap64 ((t508.length : Int) - 1))) 0) == 0)) else (none)) else (none)) else (none)) else (none)) else (none)) else (none)) else (none)) else (none)) else (none)) else (none)) else (none)) = some r := by rw [if_pos rfl] at H; exact H
            clear H
            have H := H1
            clear H1
            by_cases c15 : t505 = 0
            · rw [if_pos c15] at H
              have c15b0 : (t505 == 0) = true := beq_iff_eq.mpr c15
              have c15b1 : (t505 != 0) = false := bne_eq_false_iff_eq.mpr c15
              clear c15
              by_cases c16 : t509 = (t504.length : Int)
              · rw [if_pos c16] at H
                have c16b0 : (t509 == (t504.length : Int)) = true := beq_iff_eq.mpr c16
                have c16b1 : (t509 != (t504.length : Int)) = false := bne_eq_false_iff_eq.mpr c16
                clear c16
                by_cases c17 : (t508.length : Int) = (wrap64 ((wrap64 (Int.tdiv (wrap64 ((wrap64 ((l0.length : Int) + (wrap64 (1 + (wrap64 (Int.tmod a1 255)))))) - 1)) (wrap64 (1 + (wrap64 (Int.tmod a1 255)))))) + 2))
                · rw [if_pos c17] at H
                  have c17b0 : ((t508.length : Int) == (wrap64 ((wrap64 (Int.tdiv (wrap64 ((wrap64 ((l0.length : Int) + (wrap64 (1 + (wrap64 (Int.tmod a1 255)))))) - 1)) (wrap64 (1 + (wrap64 (Int.tmod a1 255)))))) + 2))) = true := beq_iff_eq.mpr c17
                  have c17b1 : ((t508.length : Int) != (wrap64 ((wrap64 (Int.tdiv (wrap64 ((wrap64 ((l0.length : Int) + (wrap64 (1 + (wrap64 (Int.tmod a1 255)))))) - 1)) (wrap64 (1 + (wrap64 (Int.tmod a1 255)))))) + 2))) = false := bne_eq_false_iff_eq.mpr c17
                  clear c17
                  by_cases c18 : 0 < (t508.length : Int)
                  · rw [if_pos c18] at H
                    have c18b0 : decide (0 < (t508.length : Int)) = true := decide_eq_true c18
                    have c18b1 : decide (0 < t508.length) = true := decide_eq_true (by omega)
                    clear c18
                    by_cases c19 : ((rd_L4 t508 0).length : Int) ≥ 1
                    · rw [if_pos c19] at H
                      have c19b0 : decide (1 ≤ ((rd_L4 t508 0).length : Int)) = true := decide_eq_true c19
                      have c19b1 : decide (1 ≤ (rd_L4 t508 0).length) = true := decide_eq_true (by omega)
                      clear c19
                      by_cases c20 : 0 < ((rd_L4 t508 0).length : Int)
                      · rw [if_pos c20] at H
                        have c20b0 : decide (0 < ((rd_L4 t508 0).length : Int)) = true := decide_eq_true c20
                        have c20b1 : decide (0 < (rd_L4 t508 0).length) = true := decide_eq_true (by omega)
                        clear c20
                        by_cases c21 : (wrap64 (Int.tmod (rd (rd_L4 t508 0) 0) 128)) = (Int.tmod (wrap64 (1 + (wrap64 (Int.tmod a1 255)))) 128)
                        · rw [if_pos c21] at H
                          have c21b0 : ((wrap64 (Int.tmod (rd (rd_L4 t508 0) 0) 128)) == (Int.tmod (wrap64 (1 + (wrap64 (Int.tmod a1 255)))) 128)) = true := beq_iff_eq.mpr c21
                          have c21b1 : ((wrap64 (Int.tmod (rd (rd_L4 t508 0) 0) 128)) != (Int.tmod (wrap64 (1 + (wrap64 (Int.tmod a1 255)))) 128)) = false := bne_eq_false_iff_eq.mpr c21
                          clear c21
                          obtain ⟨ji22, hji22⟩ : ∃ j_ : Int, (wrap64 ((t508.length : Int) - 1)) = j_ := ⟨_, rfl⟩
                          replace H : (if 0 ≤ (ji22) then (if (ji22) < (t508.length : Int) then (if ((rd_L4 t508 (ji22)).length : Int) ≥ 2 then (if 0 < ((rd_L4 t508 (ji22)).length : Int) then (some ((rd (rd_L4 t508 (ji22)) 0) == 0)) else (none)) else (none)) else (none)) else (none)) = some r := by first | (rw [hji22] at H; exact H) | (simp only [hji22] at H ⊢; exact H)
                          (try rw [hji22] at A11)
                          (try rw [hji22] at A12)
                          have hji22w : (IntKind.i64.wrap ((t508.length : Int) - 1)) = ji22 := (i64_w _).trans hji22
                          by_cases c23 : 0 ≤ (ji22)
                          · rw [if_pos c23] at H
                            have c23b0 : decide (0 ≤ (ji22)) = true := decide_eq_true c23
                            clear c23
                            by_cases c24 : (ji22) < (t508.length : Int)
                            · rw [if_pos c24] at H
                              have c24b0 : decide ((ji22) < (t508.length : Int)) = true := decide_eq_true c24
                              clear c24
                              by_cases c25 : ((rd_L4 t508 (ji22)).length : Int) ≥ 2
                              · rw [if_pos c25] at H
                                have c25b0 : decide (2 ≤ ((rd_L4 t508 (ji22)).length : Int)) = true := decide_eq_true c25
                                have c25b1 : decide (2 ≤ (rd_L4 t508 (ji22)).length) = true := decide_eq_true (by omega)
                                clear c25
                                by_cases c26 : 0 < ((rd_L4 t508 (ji22)).length : Int)
                                · rw [if_pos c26] at H
                                  have c26b0 : decide (0 < ((rd_L4 t508 (ji22)).length : Int)) = true := decide_eq_true c26
                                  have c26b1 : decide (0 < (rd_L4 t508 (ji22)).length) = true := decide_eq_true (by omega)
                                  clear c26
                                  obtain rfl := Option.some.inj H
                                  go_wp2_with (first | ((with_reducible refine gate_callee (f := 11) rfl ?_); refine goesL_ (some 29) rfl rfl Try.func11 (by kernel_rfl) rfl #[.slice A0 l0.length c0, .int .i64 (wrap64 (1 + (wrap64 (Int.tmod a1 255))))] rfl (by (try simp only [List.map_toArray, List.map_cons, List.map_nil]); first | done | rfl | (simp only [List.length_drop, List.length_take]; rfl)) ?_; (with_reducible refine (run_Encode.calls kj3 _ _ l0 (wrap64 (1 + (wrap64 (Int.tmod a1 255)))) t504 t505 _ ?side1 ?side2 A11.out).mono ?_); (case side1 => repeat (first | exact (Kd.C_below HR0.out HB.out) | (with_reducible refine Kd.C_alloc ?_ _) | (with_reducible refine Kd.C_drewN ?_ _) | (with_reducible refine Kd.C_drew ?_))); (case side2 => exact HC0.out); rintro e w27 ⟨v506, rfl, ho0, hb⟩; refine ⟨_, rfl, ?_⟩; have n0_ := Aside0.mk (Kd.R_lower ho0 (below_size (by repeat (first | (with_reducible first | exact HB.out | apply below_alloc | apply pw_below_drewN | apply below_drew1) | exact HB.out)))); have n1_ := Aside0.mk (below_step (by repeat (first | (with_reducible first | exact HB.out | apply below_alloc | apply pw_below_drewN | apply below_drew1) | exact HB.out)) hb); clear HB; have HO507 := n0_; have HB := n1_; clear n0_ n1_; (try clear hb); (try clear hb2); (try clear hk); (try clear hi); (try clear ho0); obtain ⟨Ao28, co28, eo28⟩ := Kd.R_slice HO507.out; subst eo28) | ((with_reducible refine gate_callee (f := 18) rfl ?_); refine goesL_ (some 34) rfl rfl Try.func18 (by kernel_rfl) rfl #[.slice Ao28 t504.length co28] rfl (by (try simp only [List.map_toArray, List.map_cons, List.map_nil]); first | done | rfl | (simp only [List.length_drop, List.length_take]; rfl)) ?_; (with_reducible refine (manteletref03_Scan.calls kj3 _ _ t504 t508 t509 _ ?side1 ?side2 A12.out).mono ?_); (case side1 => repeat (first | exact (Kd.R_reads' HO507.out).2.2 | (with_reducible refine Kd.C_alloc ?_ _) | (with_reducible refine Kd.C_drewN ?_ _) | (with_reducible refine Kd.C_drew ?_))); (case side2 => exact (Kd.R_reads' HO507.out).2.1); rintro e w29 ⟨v510, rfl, ho0, hb⟩; refine ⟨_, rfl, ?_⟩; have n0_ := Aside0.mk (Kd.R_below (by (with_reducible repeat (first | apply Kd.R_alloc | apply Kd.R_drewN | apply Kd.R_drew)); exact HO507.out) hb); have n1_ := Aside0.mk (Kd.S_lower (Kd.S_new' ho0 (Kd.R_lt (by (with_reducible repeat (first | apply Kd.R_alloc | apply Kd.R_drewN | apply Kd.R_drew)); exact HO507.out))) (below_size (by repeat (first | (with_reducible first | exact HB.out | apply below_alloc | apply pw_below_drewN | apply below_drew1) | exact HB.out)))); have n2_ := Aside0.mk (below_step (by repeat (first | (with_reducible first | exact HB.out | apply below_alloc | apply pw_below_drewN | apply below_drew1) | exact HB.out)) hb); clear HO507; clear HB; have HO507 := n0_; have HO511 := n1_; have HB := n2_; clear n0_ n1_ n2_; (try clear hb); (try clear hb2); (try clear hk); (try clear hi); (try clear ho0); obtain ⟨Ao30, co30, eo30⟩ := Kd.S_slice HO511.out; subst eo30; have p512 : 0 ≤ (0 : Int) := (by omega); have q512 : 0 < (t508.length : Int) := of_decide_eq_true (by first | (with_reducible assumption) | assumption); obtain ⟨ad512, A512_0, c512_0, e512, hx512_0, hl512_0, hi512_0⟩ := at_L4 (Kd.S_reads' HO511.out).2.2 0 p512 q512; cases e512; obtain ⟨ce512, hce512, hMe512, hcc512⟩ := Kd.S_get HO511.out [] 0 p512 (by first | exact q512 | exact of_decide_eq_true (by first | (with_reducible assumption) | assumption) | (have e_ := (Kd.S_reads' HO511.out).1; omega)); obtain ⟨ve512_0, rfl, ge512_0⟩ := hMe512; have hv512_0 := hcc512 0 _ rfl; rw [Nat.add_zero, show ((Kd.slice 5 (Kd.int .u8))).sz = 1 from rfl, Nat.mul_one] at hv512_0; replace hv512_0 := Option.some.inj (hv512_0.symm.trans hx512_0); rw [hv512_0] at ge512_0; have HL512_0 := Aside0.mk (show Kd.R (Kd.int .u8) 5 _ _ _ _ (rd_L4 t508 0) from ge512_0); clear hv512_0 ge512_0; clear hcc512 hce512; have qi512 : (0 < t508.length) = True := eq_true (by omega); (try rw [show ((0 : Int)).toNat = 0 from rfl] at hx512_0); (try rw [Addr.add_zero'] at hx512_0); have HR512_0 := Aside0.mk hi512_0; have HC512_0 := Aside0.mk hl512_0; clear hi512_0 hl512_0; replace p512 := eq_true p512; replace q512 := eq_true q512; have p513 : 0 ≤ (0 : Int) := (by omega); have q513 : 0 < (t508.length : Int) := of_decide_eq_true (by first | (with_reducible assumption) | assumption); obtain ⟨ad513, A513_0, c513_0, e513, hx513_0, hl513_0, hi513_0⟩ := at_L4 (Kd.S_reads' HO511.out).2.2 0 p513 q513; obtain rfl : ad512 = ad513 := (by injection e513); obtain ⟨ce513, hce513, hMe513, hcc513⟩ := Kd.S_get HO511.out [] 0 p513 (by first | exact q513 | exact of_decide_eq_true (by first | (with_reducible assumption) | assumption) | (have e_ := (Kd.S_reads' HO511.out).1; omega)); obtain ⟨ve513_0, rfl, ge513_0⟩ := hMe513; have hv513_0 := hcc513 0 _ rfl; rw [Nat.add_zero, show ((Kd.slice 5 (Kd.int .u8))).sz = 1 from rfl, Nat.mul_one] at hv513_0; replace hv513_0 := Option.some.inj (hv513_0.symm.trans hx513_0); rw [hv513_0] at ge513_0; have HL513_0 := Aside0.mk (show Kd.R (Kd.int .u8) 5 _ _ _ _ (rd_L4 t508 0) from ge513_0); clear hv513_0 ge513_0; clear hcc513 hce513; have qi513 : (0 < t508.length) = True := eq_true (by omega); (try rw [show ((0 : Int)).toNat = 0 from rfl] at hx513_0); (try rw [Addr.add_zero'] at hx513_0); have HR513_0 := Aside0.mk hi513_0; have HC513_0 := Aside0.mk hl513_0; clear hi513_0 hl513_0; replace p513 := eq_true p513; replace q513 := eq_true q513; have ea_ := Option.some.inj (hx512_0.symm.trans hx513_0); injection ea_ with ea_ en_ ec_; subst ea_; subst ec_; clear en_; have p514 : 0 ≤ (0 : Int) := (by omega); have q514 : 0 < ((rd_L4 t508 0).length : Int) := of_decide_eq_true (by first | (with_reducible assumption) | assumption); obtain ⟨ad514, e514, hx514_0⟩ := Kd.at_int (by repeat (first | (with_reducible exact HR513_0.out) | (with_reducible refine Kd.C_alloc ?_ _) | (with_reducible refine Kd.C_drewN ?_ _) | (with_reducible refine Kd.C_drew ?_) | exact HR513_0.out)) 0 p514 q514; cases e514; have qi514 : (0 < (rd_L4 t508 0).length) = True := eq_true (by omega); (try rw [show ((0 : Int)).toNat = 0 from rfl] at hx514_0); (try rw [Addr.add_zero'] at hx514_0); replace p514 := eq_true p514; replace q514 := eq_true q514; have p515 : 0 ≤ ((ji22) : Int) := of_decide_eq_true (by first | (with_reducible assumption) | assumption); have q515 : (ji22) < (t508.length : Int) := of_decide_eq_true (by first | (with_reducible assumption) | assumption); obtain ⟨ad515, A515_0, c515_0, e515, hx515_0, hl515_0, hi515_0⟩ := at_L4 (Kd.S_reads' HO511.out).2.2 (ji22) p515 q515; obtain rfl : ad512 = ad515 := (by injection e515); obtain ⟨ce515, hce515, hMe515, hcc515⟩ := Kd.S_get HO511.out [] (ji22) p515 (by first | exact q515 | exact of_decide_eq_true (by first | (with_reducible assumption) | assumption) | (have e_ := (Kd.S_reads' HO511.out).1; omega)); obtain ⟨ve515_0, rfl, ge515_0⟩ := hMe515; have hv515_0 := hcc515 0 _ rfl; rw [Nat.add_zero, show ((Kd.slice 5 (Kd.int .u8))).sz = 1 from rfl, Nat.mul_one] at hv515_0; replace hv515_0 := Option.some.inj (hv515_0.symm.trans hx515_0); rw [hv515_0] at ge515_0; have HL515_0 := Aside0.mk (show Kd.R (Kd.int .u8) 5 _ _ _ _ (rd_L4 t508 (ji22)) from ge515_0); clear hv515_0 ge515_0; clear hcc515 hce515; have HR515_0 := Aside0.mk hi515_0; have HC515_0 := Aside0.mk hl515_0; clear hi515_0 hl515_0; replace p515 := eq_true p515; replace q515 := eq_true q515; have p516 : 0 ≤ ((ji22) : Int) := of_decide_eq_true (by first | (with_reducible assumption) | assumption); have q516 : (ji22) < (t508.length : Int) := of_decide_eq_true (by first | (with_reducible assumption) | assumption); obtain ⟨ad516, A516_0, c516_0, e516, hx516_0, hl516_0, hi516_0⟩ := at_L4 (Kd.S_reads' HO511.out).2.2 (ji22) p516 q516; obtain rfl : ad512 = ad516 := (by injection e516); obtain ⟨ce516, hce516, hMe516, hcc516⟩ := Kd.S_get HO511.out [] (ji22) p516 (by first | exact q516 | exact of_decide_eq_true (by first | (with_reducible assumption) | assumption) | (have e_ := (Kd.S_reads' HO511.out).1; omega)); obtain ⟨ve516_0, rfl, ge516_0⟩ := hMe516; have hv516_0 := hcc516 0 _ rfl; rw [Nat.add_zero, show ((Kd.slice 5 (Kd.int .u8))).sz = 1 from rfl, Nat.mul_one] at hv516_0; replace hv516_0 := Option.some.inj (hv516_0.symm.trans hx516_0); rw [hv516_0] at ge516_0; have HL516_0 := Aside0.mk (show Kd.R (Kd.int .u8) 5 _ _ _ _ (rd_L4 t508 (ji22)) from ge516_0); clear hv516_0 ge516_0; clear hcc516 hce516; have HR516_0 := Aside0.mk hi516_0; have HC516_0 := Aside0.mk hl516_0; clear hi516_0 hl516_0; replace p516 := eq_true p516; replace q516 := eq_true q516; have ea_ := Option.some.inj (hx515_0.symm.trans hx516_0); injection ea_ with ea_ en_ ec_; subst ea_; subst ec_; clear en_; have p517 : 0 ≤ (0 : Int) := (by omega); have q517 : 0 < ((rd_L4 t508 (ji22)).length : Int) := of_decide_eq_true (by first | (with_reducible assumption) | assumption); obtain ⟨ad517, e517, hx517_0⟩ := Kd.at_int (by repeat (first | (with_reducible exact HR516_0.out) | (with_reducible refine Kd.C_alloc ?_ _) | (with_reducible refine Kd.C_drewN ?_ _) | (with_reducible refine Kd.C_drew ?_) | exact HR516_0.out)) 0 p517 q517; cases e517; have qi517 : (0 < (rd_L4 t508 (ji22)).length) = True := eq_true (by omega); (try rw [show ((0 : Int)).toNat = 0 from rfl] at hx517_0); (try rw [Addr.add_zero'] at hx517_0); replace p517 := eq_true p517; replace q517 := eq_true q517))
                                  go_ret
                                  exact ⟨by first | rfl | (simp [errW_none, errW_some] <;> rfl) | (simp only [← hji22]; first | rfl | (simp [errW_none, errW_some] <;> rfl)) | (simp [*, errW_none, errW_some] <;> rfl), by repeat (first | (with_reducible first | exact HB.out | apply below_alloc | apply pw_below_drewN | apply below_drew1) | exact HB.out)⟩
                                · rw [if_neg c26] at H
                                  exact absurd H (by simp)
                              · rw [if_neg c25] at H
                                exact absurd H (by simp)
                            · rw [if_neg c24] at H
                              exact absurd H (by simp)
                          · rw [if_neg c23] at H
                            exact absurd H (by simp)
                        · rw [if_neg c21] at H
                          exact absurd H (by simp)
                      · rw [if_neg c20] at H
                        exact absurd H (by simp)
                    · rw [if_neg c19] at H
                      exact absurd H (by simp)
                  · rw [if_neg c18] at H
                    exact absurd H (by simp)
                · rw [if_neg c17] at H
                  exact absurd H (by simp)
              · rw [if_neg c16] at H
                exact absurd H (by simp)
            · rw [if_neg c15] at H
              exact absurd H (by simp)
          · replace c14 := Bool.eq_false_iff.mpr c14
            subst c14
            have H1 : (none) = some r := by rw [if_neg (show ¬ (false = true) by decide)] at H; exact H
            clear H
            have H := H1
            clear H1
            exact absurd H (by simp)

end Go.Proofs.Ytmfngihgoanhpaa.PRun
