/- Contracts of Go functions: called with what reads as these lists and numbers, a function returns what its plain Lean function says, and leaves what was there. Written by a program of this session. -/
import Derived.Test.YtmfngihgoanhpaaPRunx0
import Derived.Test.YtmfngihgoanhpaaPRunx2
import Derived.Test.YtmfngihgoanhpaaPRunx4
import Derived.Test.YtmfngihgoanhpaaPRunx6
import Derived.Test.YtmfngihgoanhpaaPRunx7
namespace Go.Proofs.Ytmfngihgoanhpaa.PRun
open Go.RowKit Go.Proofs.YtmfngihgoanhpaaW.PrintWords Go.Proofs.YtmfngihgoanhpaaW.PrintLast Go.Proofs.YtmfngihgoanhpaaW.PrintMore
attribute [local go_sem] max2_int min2_int max_two min_two max_three min_three max_four min_four   -- for this text's walks alone
attribute [local go_sem] Go.Proofs.Ytmfngihgoanhpaa.MoreWords.str_leq Go.Proofs.Ytmfngihgoanhpaa.MoreWords.str_gtr Go.Proofs.Ytmfngihgoanhpaa.MoreWords.str_geq
set_option linter.unusedVariables false
set_option linter.unusedSimpArgs false

/-! ### manteletlaw09_RunSizes: function 7 -/
def manteletlaw09_RunSizes.j0 : Nat → List (S44) → Int → Int → Bool → Bool → Option (Bool)
  | 0, _, _, _, _, _ => none
  | k + 1, x0, x1, x2, x7, x26 => if x26 = true then (some x7) else ((run_Encode.f k x0 (wrap64 (1 + (wrap64 (Int.tmod x1 255))))).bind fun bt484 => ((run_Encode.f k x0 (wrap64 (1 + (wrap64 (Int.tmod x2 255))))).bind fun bt488 => ((run_Decode.f k bt484.1).bind fun bt492 => ((run_Decode.f k bt488.1).bind fun bt496 => (if x7 = true then (if bt484.2 = 0 then (if bt488.2 = 0 then (if bt492.2 = 0 then (if bt496.2 = 0 then ((manteletref08_Same.f k bt492.1 bt496.1).bind fun t500 => (if t500 = true then (some (((strOfNums bt484.1).toList == (strOfNums bt488.1).toList) == ((wrap64 (1 + (wrap64 (Int.tmod x1 255)))) == (wrap64 (1 + (wrap64 (Int.tmod x2 255))))))) else (none))) else (none)) else (none)) else (none)) else (none)) else (none))))))
def manteletlaw09_RunSizes.f (k : Nat) (l0 : List (S44)) (a1 : Int) (a2 : Int) : Option (Bool) := (manteletlaw09_shown.f k).bind fun t481 => ((manteletlaw09_few.f k l0).bind fun t482 => (if t482 = true then ((run_May.f k l0).bind fun t483 => (manteletlaw09_RunSizes.j0 k l0 a1 a2 t481 (t483 != 0))) else (manteletlaw09_RunSizes.j0 k l0 a1 a2 t481 true)))
theorem manteletlaw09_RunSizes.mono_l : ∀ k, (∀ y0 y1 y2 y3 y4, LeO (manteletlaw09_RunSizes.j0 k y0 y1 y2 y3 y4) (manteletlaw09_RunSizes.j0 (k + 1) y0 y1 y2 y3 y4))
  | 0 => fun _ _ _ _ _ r h => by simp [manteletlaw09_RunSizes.j0] at h
  | k + 1 => by
    have ih0 := manteletlaw09_RunSizes.mono_l k
    · intro y0 y1 y2 y3 y4
      unfold manteletlaw09_RunSizes.j0
      repeat' first
      | (with_reducible exact ih0 _ _ _ _ _)
      | (with_reducible exact manteletlaw09_few.mono _ _)
      | (with_reducible exact manteletlaw09_shown.mono _)
      | (with_reducible exact manteletref08_Same.mono _ _ _)
      | (with_reducible exact run_Decode.mono _ _)
      | (with_reducible exact run_Encode.mono _ _ _)
      | (with_reducible exact run_May.mono _ _)
      | (with_reducible exact LeO.refl _)
      | (with_reducible exact LeO.none _)
      | (with_reducible refine LeO.ite ?_ ?_)
      | (with_reducible refine LeO.bind ?_ (fun _ => ?_))
      | exact ih0 _ _ _ _ _
      | exact manteletlaw09_few.mono _ _
      | exact manteletlaw09_shown.mono _
      | exact manteletref08_Same.mono _ _ _
      | exact run_Decode.mono _ _
      | exact run_Encode.mono _ _ _
      | exact run_May.mono _ _
      | exact LeO.none _
      | refine LeO.ite ?_ ?_
      | refine LeO.bind ?_ (fun _ => ?_)
theorem manteletlaw09_RunSizes.mono : ∀ a0 a1 a2 k, LeO (manteletlaw09_RunSizes.f k a0 a1 a2) (manteletlaw09_RunSizes.f (k + 1) a0 a1 a2) := by
  intro a0 a1 a2 k
  have ih0 := manteletlaw09_RunSizes.mono_l k
  unfold manteletlaw09_RunSizes.f
  repeat' first
      | (with_reducible exact ih0 _ _ _ _ _)
      | (with_reducible exact manteletlaw09_few.mono _ _)
      | (with_reducible exact manteletlaw09_shown.mono _)
      | (with_reducible exact manteletref08_Same.mono _ _ _)
      | (with_reducible exact run_Decode.mono _ _)
      | (with_reducible exact run_Encode.mono _ _ _)
      | (with_reducible exact run_May.mono _ _)
      | (with_reducible exact LeO.refl _)
      | (with_reducible exact LeO.none _)
      | (with_reducible refine LeO.ite ?_ ?_)
      | (with_reducible refine LeO.bind ?_ (fun _ => ?_))
      | exact ih0 _ _ _ _ _
      | exact manteletlaw09_few.mono _ _
      | exact manteletlaw09_shown.mono _
      | exact manteletref08_Same.mono _ _ _
      | exact run_Decode.mono _ _
      | exact run_Encode.mono _ _ _
      | exact run_May.mono _ _
      | exact LeO.none _
      | refine LeO.ite ?_ ?_
      | refine LeO.bind ?_ (fun _ => ?_)
set_option maxHeartbeats 8000000 in
set_option maxRecDepth 100000 in
theorem manteletlaw09_RunSizes.calls (k : Nat) (A0 : Option Addr) (c0 : Nat) (l0 : List (S44)) (a1 : Int) (a2 : Int) (r : Bool) (w : World) (hr0 : Kd.C k44 w A0 l0.length l0) (hc0 : l0.length ≤ c0) (h : manteletlaw09_RunSizes.f k l0 a1 a2 = some r) :
    Calls Try.prog 7 #[.slice A0 l0.length c0, .int .u8 a1, .int .u8 a2] w fun e w' => e = .returned (.bool r) ∧ Below w.heap.size w w' := by
  have HR0 := Aside0.mk hr0
  have HC0 := Aside0.mk hc0
  clear hr0 hc0
  have HB := Aside0.mk (Below.refl w.heap.size w)
  have H : ((manteletlaw09_shown.f k).bind fun t481 => ((manteletlaw09_few.f k l0).bind fun t482 => (if t482 = true then ((run_May.f k l0).bind fun t483 => (manteletlaw09_RunSizes.j0 k l0 a1 a2 t481 (t483 != 0))) else (manteletlaw09_RunSizes.j0 k l0 a1 a2 t481 true)))) = some r := h
  clear h
  replace H := Option.bind_eq_some_iff.mp H
  obtain ⟨t481, A40, H⟩ := H
  replace H : ((manteletlaw09_few.f k l0).bind fun t482 => (if t482 = true then ((run_May.f k l0).bind fun t483 => (manteletlaw09_RunSizes.j0 k l0 a1 a2 t481 (t483 != 0))) else (manteletlaw09_RunSizes.j0 k l0 a1 a2 t481 true))) = some r := H
  have A4 := Aside0.mk A40
  clear A40
  have HC5 := Aside0.mk H
  clear H
  go_enter Try.func7, Try.ntmps7
  go_upto_region 2 with (first | ((with_reducible refine gate_callee (f := 9) rfl ?_); refine goesL_ (some 18) rfl rfl Try.func9 (by kernel_rfl) rfl #[] rfl (by (try simp only [List.map_toArray, List.map_cons, List.map_nil]); first | done | rfl | (simp only [List.length_drop, List.length_take]; rfl)) ?_; (with_reducible refine (manteletlaw09_shown.calls k  t481 _ A4.out).mono ?_); rintro e w6 ⟨rfl, hb⟩; refine ⟨_, rfl, ?_⟩; have n0_ := Aside0.mk (below_step (by repeat (first | (with_reducible first | exact HB.out | apply below_alloc | apply pw_below_drewN | apply below_drew1) | exact HB.out)) hb); clear HB; have HB := n0_; clear n0_; (try clear hb); (try clear hb2); (try clear hk); (try clear hi)))
  (try simp only [Act.put, List.setIfInBounds_toArray, List.set_cons_zero, List.set_cons_succ])
  go_cut [26] (fun v26 wc => ∃ (kq : Nat) (x26_4 : Bool), v26 = .bool x26_4 ∧ Aside0 (manteletlaw09_RunSizes.j0 kq l0 a1 a2 t481 x26_4 = some r) ∧ Aside0 (kq ≤ k) ∧ Aside0 (Below w.heap.size w wc))
  case first =>
    have H := HC5.out
    clear HC5
    replace H := Option.bind_eq_some_iff.mp H
    obtain ⟨t482, A70, H⟩ := H
    replace H : (if t482 = true then ((run_May.f k l0).bind fun t483 => (manteletlaw09_RunSizes.j0 k l0 a1 a2 t481 (t483 != 0))) else (manteletlaw09_RunSizes.j0 k l0 a1 a2 t481 true)) = some r := H
    have A7 := Aside0.mk A70
    clear A70
    by_cases c8 : t482 = true
    · subst c8
      have H1 : ((run_May.f k l0).bind fun t483 => (manteletlaw09_RunSizes.j0 k l0 a1 a2 t481 (t483 != 0))) = some r := by rw [if_pos rfl] at H; exact H
      clear H
      have H := H1
      clear H1
      replace H := Option.bind_eq_some_iff.mp H
      obtain ⟨t483, A90, H⟩ := H
      replace H : (manteletlaw09_RunSizes.j0 k l0 a1 a2 t481 (t483 != 0)) = some r := H
      have A9 := Aside0.mk A90
      clear A90
      have H' := Aside0.mk H
      clear H
      go_wp2_with (first | ((with_reducible refine gate_callee (f := 10) rfl ?_); refine goesL_ (some 20) rfl rfl Try.func10 (by kernel_rfl) rfl #[.slice A0 l0.length c0] rfl (by (try simp only [List.map_toArray, List.map_cons, List.map_nil]); first | done | rfl | (simp only [List.length_drop, List.length_take]; rfl)) ?_; (with_reducible refine (manteletlaw09_few.calls k _ _ l0 true _ ?side1 ?side2 A7.out).mono ?_); (case side1 => repeat (first | exact (Kd.C_below HR0.out HB.out) | (with_reducible refine Kd.C_alloc ?_ _) | (with_reducible refine Kd.C_drewN ?_ _) | (with_reducible refine Kd.C_drew ?_))); (case side2 => exact HC0.out); rintro e w' ⟨rfl, ⟨nd, rfl⟩⟩; refine ⟨_, rfl, ?_⟩) | (go_at_call 15; (with_reducible refine (run_May.calls k _ _ l0 t483 _ ?side1 ?side2 A9.out).mono ?_); (case side1 => repeat (first | exact (Kd.C_below HR0.out (by repeat (first | (with_reducible first | exact HB.out | apply below_alloc | apply pw_below_drewN | apply below_drew1) | exact HB.out))) | (with_reducible refine Kd.C_alloc ?_ _) | (with_reducible refine Kd.C_drewN ?_ _) | (with_reducible refine Kd.C_drew ?_))); (case side2 => exact HC0.out); rintro e w10 ⟨rfl, hb⟩; have n0_ := Aside0.mk (below_step (by repeat (first | (with_reducible first | exact HB.out | apply below_alloc | apply pw_below_drewN | apply below_drew1) | exact HB.out)) hb); clear HB; have HB := n0_; clear n0_; (try clear hb); (try clear hb2); (try clear hk); (try clear hi)))
      go_meet
      case rel => exact ⟨_, ((t483 != 0)), (by first | rfl | (simp; done) | (simp [*]; done)), H', ⟨by first | omega | exact Nat.le_refl _⟩, ⟨by repeat (first | (with_reducible first | exact HB.out | apply below_alloc | apply pw_below_drewN | apply below_drew1) | exact HB.out)⟩⟩
    · replace c8 := Bool.eq_false_iff.mpr c8
      subst c8
      have H1 : (manteletlaw09_RunSizes.j0 k l0 a1 a2 t481 true) = some r := by rw [if_neg (show ¬ (false = true) by decide)] at H; exact H
      clear H
      have H := H1
      clear H1
      have H' := Aside0.mk H
      clear H
      go_wp2_with (first | ((with_reducible refine gate_callee (f := 10) rfl ?_); refine goesL_ (some 20) rfl rfl Try.func10 (by kernel_rfl) rfl #[.slice A0 l0.length c0] rfl (by (try simp only [List.map_toArray, List.map_cons, List.map_nil]); first | done | rfl | (simp only [List.length_drop, List.length_take]; rfl)) ?_; (with_reducible refine (manteletlaw09_few.calls k _ _ l0 false _ ?side1 ?side2 A7.out).mono ?_); (case side1 => repeat (first | exact (Kd.C_below HR0.out HB.out) | (with_reducible refine Kd.C_alloc ?_ _) | (with_reducible refine Kd.C_drewN ?_ _) | (with_reducible refine Kd.C_drew ?_))); (case side2 => exact HC0.out); rintro e w' ⟨rfl, ⟨nd, rfl⟩⟩; refine ⟨_, rfl, ?_⟩))
      go_meet
      case rel => exact ⟨_, (true), (by first | rfl | (simp; done) | (simp [*]; done)), H', ⟨by first | omega | exact Nat.le_refl _⟩, ⟨by repeat (first | (with_reducible first | exact HB.out | apply below_alloc | apply pw_below_drewN | apply below_drew1) | exact HB.out)⟩⟩
  case rest =>
    clear HC5
    try clear c1
    try clear p2
    try clear c7
    try clear c8
    try clear c9
    try clear c10
    obtain ⟨kq, x26_4, rfl, HA, HJ4, HB⟩ := hcut
    cases kq with
    | zero => exact absurd HA.out (by simp [manteletlaw09_RunSizes.j0])
    | succ kj4 =>
      have H := HA.out
      clear HA
      simp only [manteletlaw09_RunSizes.j0] at H
      by_cases c11 : x26_4 = true
      · subst c11
        have H1 : (some t481) = some r := by rw [if_pos rfl] at H; exact H
        clear H
        have H := H1
        clear H1
        obtain rfl := Option.some.inj H
        go_wp2
        go_ret
        exact ⟨by first | rfl | (simp [errW_none, errW_some] <;> rfl) | (have e_ := Option.some.inj (A4.out.symm.trans A7.out); subst e_; rfl) | (have e_ := Option.some.inj (A4.out.symm.trans A9.out); subst e_; rfl) | (have e_ := Option.some.inj (A7.out.symm.trans A9.out); subst e_; rfl) | (simp [*, errW_none, errW_some] <;> rfl), by repeat (first | (with_reducible first | exact HB.out | apply below_alloc | apply pw_below_drewN | apply below_drew1) | exact HB.out)⟩
      · replace c11 := Bool.eq_false_iff.mpr c11
        subst c11
        have H1 : ((run_Encode.f kj4 l0 (wrap64 (1 + (wrap64 (Int.tmod a1 255))))).bind fun bt484 => ((run_Encode.f kj4 l0 (wrap64 (1 + (wrap64 (Int.tmod a2 255))))).bind fun bt488 => ((run_Decode.f kj4 bt484.1).bind fun bt492 => ((run_Decode.f kj4 bt488.1).bind fun bt496 => (if t481 = true then (if bt484.2 = 0 then (if bt488.2 = 0 then (if bt492.2 = 0 then (if bt496.2 = 0 then ((manteletref08_Same.f kj4 bt492.1 bt496.1).bind fun t500 => (if t500 = true then (some (((strOfNums bt484.1).toList == (strOfNums bt488.1).toList) == ((wrap64 (1 + (wrap64 (Int.tmod a1 255)))) == (wrap64 (1 + (wrap64 (Int.tmod a2 255))))))) else (none))) else (none)) else (none)) else (none)) else (none)) else (none)))))) = some r := by rw [if_neg (show ¬ (false = true) by decide)] at H; exact H
        clear H
        have H := H1
        clear H1
        replace H := Option.bind_eq_some_iff.mp H
        obtain ⟨⟨t484, t485⟩, A120, H⟩ := H
        replace H : ((run_Encode.f kj4 l0 (wrap64 (1 + (wrap64 (Int.tmod a2 255))))).bind fun bt488 => ((run_Decode.f kj4 t484).bind fun bt492 => ((run_Decode.f kj4 bt488.1).bind fun bt496 => (if t481 = true then (if t485 = 0 then (if bt488.2 = 0 then (if bt492.2 = 0 then (if bt496.2 = 0 then ((manteletref08_Same.f kj4 bt492.1 bt496.1).bind fun t500 => (if t500 = true then (some (((strOfNums t484).toList == (strOfNums bt488.1).toList) == ((wrap64 (1 + (wrap64 (Int.tmod a1 255)))) == (wrap64 (1 + (wrap64 (Int.tmod a2 255))))))) else (none))) else (none)) else (none)) else (none)) else (none)) else (none))))) = some r := H
        have A12 := Aside0.mk A120
        clear A120
        replace H := Option.bind_eq_some_iff.mp H
        obtain ⟨⟨t488, t489⟩, A130, H⟩ := H
        replace H : ((run_Decode.f kj4 t484).bind fun bt492 => ((run_Decode.f kj4 t488).bind fun bt496 => (if t481 = true then (if t485 = 0 then (if t489 = 0 then (if bt492.2 = 0 then (if bt496.2 = 0 then ((manteletref08_Same.f kj4 bt492.1 bt496.1).bind fun t500 => (if t500 = true then (some (((strOfNums t484).toList == (strOfNums t488).toList) == ((wrap64 (1 + (wrap64 (Int.tmod a1 255)))) == (wrap64 (1 + (wrap64 (Int.tmod a2 255))))))) else (none))) else (none)) else (none)) else (none)) else (none)) else (none)))) = some r := H
        have A13 := Aside0.mk A130
        clear A130
        replace H := Option.bind_eq_some_iff.mp H
        obtain ⟨⟨t492, t493⟩, A140, H⟩ := H
        replace H : ((run_Decode.f kj4 t488).bind fun bt496 => (if t481 = true then (if t485 = 0 then (if t489 = 0 then (if t493 = 0 then (if bt496.2 = 0 then ((manteletref08_Same.f kj4 t492 bt496.1).bind fun t500 => (if t500 = true then (some (((strOfNums t484).toList == (strOfNums t488).toList) == ((wrap64 (1 + (wrap64 (Int.tmod a1 255)))) == (wrap64 (1 + (wrap64 (Int.tmod a2 255))))))) else (none))) else (none)) else (none)) else (none)) else (none)) else (none))) = some r := H
        have A14 := Aside0.mk A140
        clear A140
        replace H := Option.bind_eq_some_iff.mp H
        obtain ⟨⟨t496, t497⟩, A150, H⟩ := H
        replace H : (if t481 = true then (if t485 = 0 then (if t489 = 0 then (if t493 = 0 then (if t497 = 0 then ((manteletref08_Same.f kj4 t492 t496).bind fun t500 => (if t500 = true then (some (((strOfNums t484).toList == (strOfNums t488).toList) == ((wrap64 (1 + (wrap64 (Int.tmod a1 255)))) == (wrap64 (1 + (wrap64 (Int.tmod a2 255))))))) else (none))) else (none)) else (none)) else (none)) else (none)) else (none)) = some r := H
        have A15 := Aside0.mk A150
        clear A150
        by_cases c16 : t481 = true
        · subst c16
          have H1 : (if t485 = 0 then (if t489 = 0 then (if t493 = 0 then (if t497 = 0 then ((manteletref08_Same.f kj4 t492 t496).bind fun t500 => (if t500 = true then (some (((strOfNums t484).toList == (strOfNums t488).toList) == ((wrap64 (1 + (wrap64 (Int.tmod a1 255)))) == (wrap64 (1 + (wrap64 (Int.tmod a2 255))))))) else (none))) else (none)) else (none)) else (none)) else (none)) = some r := by rw [if_pos rfl] at H; exact H
          clear H
          have H := H1
          clear H1
          by_cases c17 : t485 = 0
          · rw [if_pos c17] at H
            have c17b0 : (t485 == 0) = true := beq_iff_eq.mpr c17
            have c17b1 : (t485 != 0) = false := bne_eq_false_iff_eq.mpr c17
            clear c17
            by_cases c18 : t489 = 0
            · rw [if_pos c18] at H
              have c18b0 : (t489 == 0) = true := beq_iff_eq.mpr c18
              have c18b1 : (t489 != 0) = false := bne_eq_false_iff_eq.mpr c18
              clear c18
              by_cases c19 : t493 = 0
              · rw [if_pos c19] at H
                have c19b0 : (t493 == 0) = true := beq_iff_eq.mpr c19
                have c19b1 : (t493 != 0) = false := bne_eq_false_iff_eq.mpr c19
                clear c19
                by_cases c20 : t497 = 0
                · rw [if_pos c20] at H
                  have c20b0 : (t497 == 0) = true := beq_iff_eq.mpr c20
                  have c20b1 : (t497 != 0) = false := bne_eq_false_iff_eq.mpr c20
                  clear c20
                  replace H := Option.bind_eq_some_iff.mp H
                  obtain ⟨t500, A210, H⟩ := H
                  replace H : (if t500 = true then (some (((strOfNums t484).toList == (strOfNums t488).toList) == ((wrap64 (1 + (wrap64 (Int.tmod a1 255)))) == (wrap64 (1 + (wrap64 (Int.tmod a2 255))))))) else (none)) = some r := H
                  have A21 := Aside0.mk A210
                  clear A210
                  by_cases c22 : t500 = true
                  · subst c22
                    have H1 : (some (((strOfNums t484).toList == (strOfNums t488).toList) == ((wrap64 (1 + (wrap64 (Int.tmod a1 255)))) == (wrap64 (1 + (wrap64 (Int.tmod a2 255))))))) = some r := by rw [if_pos rfl] at H; exact H
                    clear H
                    have H := H1
                    clear H1
                    obtain rfl := Option.some.inj H
                    go_wp2_with (first | ((with_reducible refine gate_callee (f := 11) rfl ?_); refine goesL_ (some 39) rfl rfl Try.func11 (by kernel_rfl) rfl #[.slice A0 l0.length c0, .int .i64 (wrap64 (1 + (wrap64 (Int.tmod a1 255))))] rfl (by (try simp only [List.map_toArray, List.map_cons, List.map_nil]); first | done | rfl | (simp only [List.length_drop, List.length_take]; rfl)) ?_; (with_reducible refine (run_Encode.calls kj4 _ _ l0 (wrap64 (1 + (wrap64 (Int.tmod a1 255)))) t484 t485 _ ?side1 ?side2 A12.out).mono ?_); (case side1 => repeat (first | exact (Kd.C_below HR0.out HB.out) | (with_reducible refine Kd.C_alloc ?_ _) | (with_reducible refine Kd.C_drewN ?_ _) | (with_reducible refine Kd.C_drew ?_))); (case side2 => exact HC0.out); rintro e w23 ⟨v486, rfl, ho0, hb⟩; refine ⟨_, rfl, ?_⟩; have n0_ := Aside0.mk (Kd.R_lower ho0 (below_size (by repeat (first | (with_reducible first | exact HB.out | apply below_alloc | apply pw_below_drewN | apply below_drew1) | exact HB.out)))); have n1_ := Aside0.mk (below_step (by repeat (first | (with_reducible first | exact HB.out | apply below_alloc | apply pw_below_drewN | apply below_drew1) | exact HB.out)) hb); clear HB; have HO487 := n0_; have HB := n1_; clear n0_ n1_; (try clear hb); (try clear hb2); (try clear hk); (try clear hi); (try clear ho0)) | ((with_reducible refine gate_callee (f := 11) rfl ?_); refine goesL_ (some 45) rfl rfl Try.func11 (by kernel_rfl) rfl #[.slice A0 l0.length c0, .int .i64 (wrap64 (1 + (wrap64 (Int.tmod a2 255))))] rfl (by (try simp only [List.map_toArray, List.map_cons, List.map_nil]); first | done | rfl | (simp only [List.length_drop, List.length_take]; rfl)) ?_; (with_reducible refine (run_Encode.calls kj4 _ _ l0 (wrap64 (1 + (wrap64 (Int.tmod a2 255)))) t488 t489 _ ?side1 ?side2 A13.out).mono ?_); (case side1 => repeat (first | exact (Kd.C_below HR0.out HB.out) | (with_reducible refine Kd.C_alloc ?_ _) | (with_reducible refine Kd.C_drewN ?_ _) | (with_reducible refine Kd.C_drew ?_))); (case side2 => exact HC0.out); rintro e w24 ⟨v490, rfl, ho0, hb⟩; refine ⟨_, rfl, ?_⟩; have n0_ := Aside0.mk (Kd.R_elder' (by (with_reducible repeat (first | apply Kd.R_alloc | apply Kd.R_drewN | apply Kd.R_drew)); exact HO487.out) (Kd.R_base ho0) hb); have n1_ := Aside0.mk (Kd.R_lower (Kd.R_new' ho0 (Kd.R_lt (by (with_reducible repeat (first | apply Kd.R_alloc | apply Kd.R_drewN | apply Kd.R_drew)); exact HO487.out))) (below_size (by repeat (first | (with_reducible first | exact HB.out | apply below_alloc | apply pw_below_drewN | apply below_drew1) | exact HB.out)))); have n2_ := Aside0.mk (below_step (by repeat (first | (with_reducible first | exact HB.out | apply below_alloc | apply pw_below_drewN | apply below_drew1) | exact HB.out)) hb); clear HO487; clear HB; have HO487 := n0_; have HO491 := n1_; have HB := n2_; clear n0_ n1_ n2_; (try clear hb); (try clear hb2); (try clear hk); (try clear hi); (try clear ho0); obtain ⟨Ao25, co25, eo25⟩ := Kd.R_slice HO487.out; subst eo25) | ((with_reducible refine gate_callee (f := 13) rfl ?_); refine goesL_ (some 50) rfl rfl Try.func13 (by kernel_rfl) rfl #[.slice Ao25 t484.length co25] rfl (by (try simp only [List.map_toArray, List.map_cons, List.map_nil]); first | done | rfl | (simp only [List.length_drop, List.length_take]; rfl)) ?_; (with_reducible refine (run_Decode.calls kj4 _ _ t484 t492 t493 _ ?side1 ?side2 A14.out).mono ?_); (case side1 => repeat (first | exact (Kd.R_reads' HO487.out).2.2 | (with_reducible refine Kd.C_alloc ?_ _) | (with_reducible refine Kd.C_drewN ?_ _) | (with_reducible refine Kd.C_drew ?_))); (case side2 => exact (Kd.R_reads' HO487.out).2.1); rintro e w26 ⟨v494, rfl, ho0, hb⟩; refine ⟨_, rfl, ?_⟩; have n0_ := Aside0.mk (Kd.R_below (by (with_reducible repeat (first | apply Kd.R_alloc | apply Kd.R_drewN | apply Kd.R_drew)); exact HO487.out) hb); have n1_ := Aside0.mk (Kd.R_below (by (with_reducible repeat (first | apply Kd.R_alloc | apply Kd.R_drewN | apply Kd.R_drew)); exact HO491.out) hb); have n2_ := Aside0.mk (Kd.R_lower ho0 (below_size (by repeat (first | (with_reducible first | exact HB.out | apply below_alloc | apply pw_below_drewN | apply below_drew1) | exact HB.out)))); have n3_ := Aside0.mk (below_step (by repeat (first | (with_reducible first | exact HB.out | apply below_alloc | apply pw_below_drewN | apply below_drew1) | exact HB.out)) hb); clear HO487; clear HO491; clear HB; have HO487 := n0_; have HO491 := n1_; have HO495 := n2_; have HB := n3_; clear n0_ n1_ n2_ n3_; (try clear hb); (try clear hb2); (try clear hk); (try clear hi); (try clear ho0); obtain ⟨Ao27, co27, eo27⟩ := Kd.R_slice HO491.out; subst eo27) | ((with_reducible refine gate_callee (f := 13) rfl ?_); refine goesL_ (some 55) rfl rfl Try.func13 (by kernel_rfl) rfl #[.slice Ao27 t488.length co27] rfl (by (try simp only [List.map_toArray, List.map_cons, List.map_nil]); first | done | rfl | (simp only [List.length_drop, List.length_take]; rfl)) ?_; (with_reducible refine (run_Decode.calls kj4 _ _ t488 t496 t497 _ ?side1 ?side2 A15.out).mono ?_); (case side1 => repeat (first | exact (Kd.R_reads' HO491.out).2.2 | (with_reducible refine Kd.C_alloc ?_ _) | (with_reducible refine Kd.C_drewN ?_ _) | (with_reducible refine Kd.C_drew ?_))); (case side2 => exact (Kd.R_reads' HO491.out).2.1); rintro e w28 ⟨v498, rfl, ho0, hb⟩; refine ⟨_, rfl, ?_⟩; have n0_ := Aside0.mk (Kd.R_below (by (with_reducible repeat (first | apply Kd.R_alloc | apply Kd.R_drewN | apply Kd.R_drew)); exact HO487.out) hb); have n1_ := Aside0.mk (Kd.R_below (by (with_reducible repeat (first | apply Kd.R_alloc | apply Kd.R_drewN | apply Kd.R_drew)); exact HO491.out) hb); have n2_ := Aside0.mk (Kd.R_elder' (by (with_reducible repeat (first | apply Kd.R_alloc | apply Kd.R_drewN | apply Kd.R_drew)); exact HO495.out) (Kd.R_base ho0) hb); have n3_ := Aside0.mk (Kd.R_lower (Kd.R_new' ho0 (Kd.R_lt (by (with_reducible repeat (first | apply Kd.R_alloc | apply Kd.R_drewN | apply Kd.R_drew)); exact HO495.out))) (below_size (by repeat (first | (with_reducible first | exact HB.out | apply below_alloc | apply pw_below_drewN | apply below_drew1) | exact HB.out)))); have n4_ := Aside0.mk (below_step (by repeat (first | (with_reducible first | exact HB.out | apply below_alloc | apply pw_below_drewN | apply below_drew1) | exact HB.out)) hb); clear HO487; clear HO491; clear HO495; clear HB; have HO487 := n0_; have HO491 := n1_; have HO495 := n2_; have HO499 := n3_; have HB := n4_; clear n0_ n1_ n2_ n3_ n4_; (try clear hb); (try clear hb2); (try clear hk); (try clear hi); (try clear ho0); obtain ⟨Ao29, co29, eo29⟩ := Kd.R_slice HO495.out; subst eo29; obtain ⟨Ao30, co30, eo30⟩ := Kd.R_slice HO499.out; subst eo30) | (go_at_call 17; (with_reducible refine (manteletref08_Same.calls kj4 _ _ t492 _ _ t496 true _ ?side1 ?side2 ?side3 ?side4 A21.out).mono ?_); (case side1 => repeat (first | exact (Kd.R_reads' HO495.out).2.2 | (with_reducible refine Kd.C_alloc ?_ _) | (with_reducible refine Kd.C_drewN ?_ _) | (with_reducible refine Kd.C_drew ?_))); (case side2 => exact (Kd.R_reads' HO495.out).2.1); (case side3 => repeat (first | exact (Kd.R_reads' HO499.out).2.2 | (with_reducible refine Kd.C_alloc ?_ _) | (with_reducible refine Kd.C_drewN ?_ _) | (with_reducible refine Kd.C_drew ?_))); (case side4 => exact (Kd.R_reads' HO499.out).2.1); rintro e w' ⟨rfl, ⟨nd, rfl⟩⟩; have hcv31 := own_string (P := Try.prog) Try.underlying23 Try.underlying5 Try.underlying9 (Kd.own_of_R HO487.out); have hcv32 := own_string (P := Try.prog) Try.underlying23 Try.underlying5 Try.underlying9 (Kd.own_of_R HO491.out); have hcv31d_ := own_string (P := Try.prog) Try.underlying23 Try.underlying5 Try.underlying9 (Kd.own_of_R (Kd.R_drewN HO487.out nd)); have hcv32d_ := own_string (P := Try.prog) Try.underlying23 Try.underlying5 Try.underlying9 (Kd.own_of_R (Kd.R_drewN HO491.out nd))))
                    go_ret
                    exact ⟨by first | rfl | (simp [errW_none, errW_some] <;> rfl) | (have e_ := Option.some.inj (A4.out.symm.trans A7.out); subst e_; rfl) | (have e_ := Option.some.inj (A4.out.symm.trans A9.out); subst e_; rfl) | (have e_ := Option.some.inj (A7.out.symm.trans A9.out); subst e_; rfl) | (have e_ := Option.some.inj (A4.out.symm.trans A12.out); subst e_; rfl) | (have e_ := Option.some.inj (A7.out.symm.trans A12.out); subst e_; rfl) | (have e_ := Option.some.inj (A9.out.symm.trans A12.out); subst e_; rfl) | (have e_ := Option.some.inj (A4.out.symm.trans A13.out); subst e_; rfl) | (have e_ := Option.some.inj (A7.out.symm.trans A13.out); subst e_; rfl) | (have e_ := Option.some.inj (A9.out.symm.trans A13.out); subst e_; rfl) | (have e_ := Option.some.inj (A12.out.symm.trans A13.out); subst e_; rfl) | (have e_ := Option.some.inj (A4.out.symm.trans A14.out); subst e_; rfl) | (have e_ := Option.some.inj (A7.out.symm.trans A14.out); subst e_; rfl) | (have e_ := Option.some.inj (A9.out.symm.trans A14.out); subst e_; rfl) | (have e_ := Option.some.inj (A12.out.symm.trans A14.out); subst e_; rfl) | (have e_ := Option.some.inj (A13.out.symm.trans A14.out); subst e_; rfl) | (have e_ := Option.some.inj (A4.out.symm.trans A15.out); subst e_; rfl) | (have e_ := Option.some.inj (A7.out.symm.trans A15.out); subst e_; rfl) | (have e_ := Option.some.inj (A9.out.symm.trans A15.out); subst e_; rfl) | (have e_ := Option.some.inj (A12.out.symm.trans A15.out); subst e_; rfl) | (have e_ := Option.some.inj (A13.out.symm.trans A15.out); subst e_; rfl) | (have e_ := Option.some.inj (A14.out.symm.trans A15.out); subst e_; rfl) | (have e_ := Option.some.inj (A4.out.symm.trans A21.out); subst e_; rfl) | (have e_ := Option.some.inj (A7.out.symm.trans A21.out); subst e_; rfl) | (have e_ := Option.some.inj (A9.out.symm.trans A21.out); subst e_; rfl) | (have e_ := Option.some.inj (A12.out.symm.trans A21.out); subst e_; rfl) | (have e_ := Option.some.inj (A13.out.symm.trans A21.out); subst e_; rfl) | (have e_ := Option.some.inj (A14.out.symm.trans A21.out); subst e_; rfl) | (have e_ := Option.some.inj (A15.out.symm.trans A21.out); subst e_; rfl) | (simp [*, errW_none, errW_some] <;> rfl), by repeat (first | (with_reducible first | exact HB.out | apply below_alloc | apply pw_below_drewN | apply below_drew1) | exact HB.out)⟩
                  · replace c22 := Bool.eq_false_iff.mpr c22
                    subst c22
                    have H1 : (none) = some r := by rw [if_neg (show ¬ (false = true) by decide)] at H; exact H
                    clear H
                    have H := H1
                    clear H1
                    exact absurd H (by simp)
                · rw [if_neg c20] at H
                  exact absurd H (by simp)
              · rw [if_neg c19] at H
                exact absurd H (by simp)
            · rw [if_neg c18] at H
              exact absurd H (by simp)
          · rw [if_neg c17] at H
            exact absurd H (by simp)
        · replace c16 := Bool.eq_false_iff.mpr c16
          subst c16
          have H1 : (none) = some r := by rw [if_neg (show ¬ (false = true) by decide)] at H; exact H
          clear H
          have H := H1
          clear H1
          exact absurd H (by simp)

end Go.Proofs.Ytmfngihgoanhpaa.PRun
