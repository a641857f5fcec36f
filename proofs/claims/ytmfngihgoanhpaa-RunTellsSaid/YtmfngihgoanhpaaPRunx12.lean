/- Contracts of Go functions: called with what reads as these lists and numbers, a function returns what its plain Lean function says, and leaves what was there. Written by a program of this session. -/
import Derived.Test.YtmfngihgoanhpaaPRunx0
import Derived.Test.YtmfngihgoanhpaaPRunx2
import Derived.Test.YtmfngihgoanhpaaPRunx4
import Derived.Test.YtmfngihgoanhpaaPRunx6
import Derived.Test.YtmfngihgoanhpaaPRunx7
import Derived.Test.YtmfngihgoanhpaaPRunx9
import Derived.Test.YtmfngihgoanhpaaPRunx11
namespace Go.Proofs.Ytmfngihgoanhpaa.PRun
open Go.RowKit Go.Proofs.YtmfngihgoanhpaaW.PrintWords Go.Proofs.YtmfngihgoanhpaaW.PrintLast Go.Proofs.YtmfngihgoanhpaaW.PrintMore
attribute [local go_sem] max2_int min2_int max_two min_two max_three min_three max_four min_four   -- for this text's walks alone
attribute [local go_sem] Go.Proofs.Ytmfngihgoanhpaa.MoreWords.str_leq Go.Proofs.Ytmfngihgoanhpaa.MoreWords.str_gtr Go.Proofs.Ytmfngihgoanhpaa.MoreWords.str_geq
set_option linter.unusedVariables false
set_option linter.unusedSimpArgs false

/-! ### manteletlaw09_RunTells: function 3 -/
def manteletlaw09_RunTells.j0 : Nat → List (S44) → Int → List Int → Bool → Bool → Option (Bool)
  | 0, _, _, _, _, _ => none
  | k + 1, x0, x1, x2, x7, x24 => if x24 = true then (some x7) else ((run_Encode.f k x0 x1).bind fun bt392 => ((manteletref09_Encode.f k x0 x1).bind fun bt396 => ((run_Decode.f k x2).bind fun bt400 => ((manteletref09_Decode.f k x2).bind fun bt404 => (if x7 = true then (if (strOfNums bt392.1).toList = (strOfNums bt396.1).toList then (if bt392.2 = bt396.2 then ((run_May.f k x0).bind fun t408 => ((manteletref09_May.f k x0).bind fun t409 => (if t408 = t409 then ((manteletref08_Same.f k bt400.1 bt404.1).bind fun t410 => (if t410 = true then (some (bt400.2 == bt404.2)) else (none))) else (none)))) else (none)) else (none)) else (none))))))
def manteletlaw09_RunTells.f (k : Nat) (l0 : List (S44)) (a1 : Int) (l2 : List Int) : Option (Bool) := (manteletlaw09_shown.f k).bind fun t390 => ((manteletlaw09_few.f k l0).bind fun t391 => (if t391 = true then (manteletlaw09_RunTells.j0 k l0 a1 l2 t390 (decide ((l2.length : Int) > 20000))) else (manteletlaw09_RunTells.j0 k l0 a1 l2 t390 true)))
theorem manteletlaw09_RunTells.mono_l : ∀ k, (∀ y0 y1 y2 y3 y4, LeO (manteletlaw09_RunTells.j0 k y0 y1 y2 y3 y4) (manteletlaw09_RunTells.j0 (k + 1) y0 y1 y2 y3 y4))
  | 0 => fun _ _ _ _ _ r h => by simp [manteletlaw09_RunTells.j0] at h
  | k + 1 => by
    have ih0 := manteletlaw09_RunTells.mono_l k
    · intro y0 y1 y2 y3 y4
      unfold manteletlaw09_RunTells.j0
      repeat' first
      | (with_reducible exact ih0 _ _ _ _ _)
      | (with_reducible exact manteletlaw09_few.mono _ _)
      | (with_reducible exact manteletlaw09_shown.mono _)
      | (with_reducible exact manteletref08_Same.mono _ _ _)
      | (with_reducible exact manteletref09_Decode.mono _ _)
      | (with_reducible exact manteletref09_Encode.mono _ _ _)
      | (with_reducible exact manteletref09_May.mono _ _)
      | (with_reducible exact run_Decode.mono _ _)
      | (with_reducible exact run_Encode.mono _ _ _)
      | (with_reducible exact run_May.mono _ _)
      | (with_reducible exact LeO.refl _)
      | (with_reducible exact LeO.none _)
      | (with_reducible refine LeO.ite ?_ ?_)
      | (with_reducible refine LeO.bind ?_ (fun _ => ?_))
      | exact ih0 _ _ _ _ _
      | exact manteletlaw09_few.mono _ _
      | exact manteletlaw09_shown.mono _
      | exact manteletref08_Same.mono _ _ _
      | exact manteletref09_Decode.mono _ _
      | exact manteletref09_Encode.mono _ _ _
      | exact manteletref09_May.mono _ _
      | exact run_Decode.mono _ _
      | exact run_Encode.mono _ _ _
      | exact run_May.mono _ _
      | exact LeO.none _
      | refine LeO.ite ?_ ?_
      | refine LeO.bind ?_ (fun _ => ?_)
theorem manteletlaw09_RunTells.mono : ∀ a0 a1 a2 k, LeO (manteletlaw09_RunTells.f k a0 a1 a2) (manteletlaw09_RunTells.f (k + 1) a0 a1 a2) := by
  intro a0 a1 a2 k
  have ih0 := manteletlaw09_RunTells.mono_l k
  unfold manteletlaw09_RunTells.f
  repeat' first
      | (with_reducible exact ih0 _ _ _ _ _)
      | (with_reducible exact manteletlaw09_few.mono _ _)
      | (with_reducible exact manteletlaw09_shown.mono _)
      | (with_reducible exact manteletref08_Same.mono _ _ _)
      | (with_reducible exact manteletref09_Decode.mono _ _)
      | (with_reducible exact manteletref09_Encode.mono _ _ _)
      | (with_reducible exact manteletref09_May.mono _ _)
      | (with_reducible exact run_Decode.mono _ _)
      | (with_reducible exact run_Encode.mono _ _ _)
      | (with_reducible exact run_May.mono _ _)
      | (with_reducible exact LeO.refl _)
      | (with_reducible exact LeO.none _)
      | (with_reducible refine LeO.ite ?_ ?_)
      | (with_reducible refine LeO.bind ?_ (fun _ => ?_))
      | exact ih0 _ _ _ _ _
      | exact manteletlaw09_few.mono _ _
      | exact manteletlaw09_shown.mono _
      | exact manteletref08_Same.mono _ _ _
      | exact manteletref09_Decode.mono _ _
      | exact manteletref09_Encode.mono _ _ _
      | exact manteletref09_May.mono _ _
      | exact run_Decode.mono _ _
      | exact run_Encode.mono _ _ _
      | exact run_May.mono _ _
      | exact LeO.none _
      | refine LeO.ite ?_ ?_
      | refine LeO.bind ?_ (fun _ => ?_)
set_option maxHeartbeats 8000000 in
set_option maxRecDepth 100000 in
theorem manteletlaw09_RunTells.calls (k : Nat) (A0 : Option Addr) (c0 : Nat) (l0 : List (S44)) (a1 : Int) (A2 : Option Addr) (c2 : Nat) (l2 : List Int) (r : Bool) (w : World) (hr0 : Kd.C k44 w A0 l0.length l0) (hc0 : l0.length ≤ c0) (hr2 : Kd.C (Kd.int .u8) w A2 l2.length l2) (hc2 : l2.length ≤ c2) (h : manteletlaw09_RunTells.f k l0 a1 l2 = some r) :
    Calls Try.prog 3 #[.slice A0 l0.length c0, .int .i64 a1, .slice A2 l2.length c2] w fun e w' => e = .returned (.bool r) ∧ Below w.heap.size w w' := by
  have HR0 := Aside0.mk hr0
  have HC0 := Aside0.mk hc0
  clear hr0 hc0
  have HR2 := Aside0.mk hr2
  have HC2 := Aside0.mk hc2
  clear hr2 hc2
  have HB := Aside0.mk (Below.refl w.heap.size w)
  have H : ((manteletlaw09_shown.f k).bind fun t390 => ((manteletlaw09_few.f k l0).bind fun t391 => (if t391 = true then (manteletlaw09_RunTells.j0 k l0 a1 l2 t390 (decide ((l2.length : Int) > 20000))) else (manteletlaw09_RunTells.j0 k l0 a1 l2 t390 true)))) = some r := h
  clear h
  replace H := Option.bind_eq_some_iff.mp H
  obtain ⟨t390, A40, H⟩ := H
  replace H : ((manteletlaw09_few.f k l0).bind fun t391 => (if t391 = true then (manteletlaw09_RunTells.j0 k l0 a1 l2 t390 (decide ((l2.length : Int) > 20000))) else (manteletlaw09_RunTells.j0 k l0 a1 l2 t390 true))) = some r := H
  have A4 := Aside0.mk A40
  clear A40
  have HC5 := Aside0.mk H
  clear H
  go_enter Try.func3, Try.ntmps3
  go_upto_region 2 with (first | ((with_reducible refine gate_callee (f := 9) rfl ?_); refine goesL_ (some 16) rfl rfl Try.func9 (by kernel_rfl) rfl #[] rfl (by (try simp only [List.map_toArray, List.map_cons, List.map_nil]); first | done | rfl | (simp only [List.length_drop, List.length_take]; rfl)) ?_; (with_reducible refine (manteletlaw09_shown.calls k  t390 _ A4.out).mono ?_); rintro e w6 ⟨rfl, hb⟩; refine ⟨_, rfl, ?_⟩; have n0_ := Aside0.mk (below_step (by repeat (first | (with_reducible first | exact HB.out | apply below_alloc | apply pw_below_drewN | apply below_drew1) | exact HB.out)) hb); clear HB; have HB := n0_; clear n0_; (try clear hb); (try clear hb2); (try clear hk); (try clear hi)))
  (try simp only [Act.put, List.setIfInBounds_toArray, List.set_cons_zero, List.set_cons_succ])
  go_cut [24] (fun v24 wc => ∃ (kq : Nat) (x24_4 : Bool), v24 = .bool x24_4 ∧ Aside0 (manteletlaw09_RunTells.j0 kq l0 a1 l2 t390 x24_4 = some r) ∧ Aside0 (kq ≤ k) ∧ Aside0 (Below w.heap.size w wc))
  case first =>
    have H := HC5.out
    clear HC5
    replace H := Option.bind_eq_some_iff.mp H
    obtain ⟨t391, A70, H⟩ := H
    replace H : (if t391 = true then (manteletlaw09_RunTells.j0 k l0 a1 l2 t390 (decide ((l2.length : Int) > 20000))) else (manteletlaw09_RunTells.j0 k l0 a1 l2 t390 true)) = some r := H
    have A7 := Aside0.mk A70
    clear A70
    by_cases c8 : t391 = true
    · subst c8
      have H1 : (manteletlaw09_RunTells.j0 k l0 a1 l2 t390 (decide ((l2.length : Int) > 20000))) = some r := by rw [if_pos rfl] at H; exact H
      clear H
      have H := H1
      clear H1
      have H' := Aside0.mk H
      clear H
      go_wp2_with (first | ((with_reducible refine gate_callee (f := 10) rfl ?_); refine goesL_ (some 18) rfl rfl Try.func10 (by kernel_rfl) rfl #[.slice A0 l0.length c0] rfl (by (try simp only [List.map_toArray, List.map_cons, List.map_nil]); first | done | rfl | (simp only [List.length_drop, List.length_take]; rfl)) ?_; (with_reducible refine (manteletlaw09_few.calls k _ _ l0 true _ ?side1 ?side2 A7.out).mono ?_); (case side1 => repeat (first | exact (Kd.C_below HR0.out HB.out) | (with_reducible refine Kd.C_alloc ?_ _) | (with_reducible refine Kd.C_drewN ?_ _) | (with_reducible refine Kd.C_drew ?_))); (case side2 => exact HC0.out); rintro e w' ⟨rfl, ⟨nd, rfl⟩⟩; refine ⟨_, rfl, ?_⟩))
      go_meet
      case rel => exact ⟨_, (decide ((l2.length : Int) > 20000)), (by first | rfl | (simp; done) | (simp [*]; done)), H', ⟨by first | omega | exact Nat.le_refl _⟩, ⟨by repeat (first | (with_reducible first | exact HB.out | apply below_alloc | apply pw_below_drewN | apply below_drew1) | exact HB.out)⟩⟩
    · replace c8 := Bool.eq_false_iff.mpr c8
      subst c8
      have H1 : (manteletlaw09_RunTells.j0 k l0 a1 l2 t390 true) = some r := by rw [if_neg (show ¬ (false = true) by decide)] at H; exact H
      clear H
      have H := H1
      clear H1
      have H' := Aside0.mk H
      clear H
      go_wp2_with (first | ((with_reducible refine gate_callee (f := 10) rfl ?_); refine goesL_ (some 18) rfl rfl Try.func10 (by kernel_rfl) rfl #[.slice A0 l0.length c0] rfl (by (try simp only [List.map_toArray, List.map_cons, List.map_nil]); first | done | rfl | (simp only [List.length_drop, List.length_take]; rfl)) ?_; (with_reducible refine (manteletlaw09_few.calls k _ _ l0 false _ ?side1 ?side2 A7.out).mono ?_); (case side1 => repeat (first | exact (Kd.C_below HR0.out HB.out) | (with_reducible refine Kd.C_alloc ?_ _) | (with_reducible refine Kd.C_drewN ?_ _) | (with_reducible refine Kd.C_drew ?_))); (case side2 => exact HC0.out); rintro e w' ⟨rfl, ⟨nd, rfl⟩⟩; refine ⟨_, rfl, ?_⟩))
      go_meet
      case rel => exact ⟨_, (true), (by first | rfl | (simp; done) | (simp [*]; done)), H', ⟨by first | omega | exact Nat.le_refl _⟩, ⟨by repeat (first | (with_reducible first | exact HB.out | apply below_alloc | apply pw_below_drewN | apply below_drew1) | exact HB.out)⟩⟩
  case rest =>
    clear HC5
    try clear c1
    try clear c2
    try clear p2
    try clear c3
    try clear c8
    obtain ⟨kq, x24_4, rfl, HA, HJ4, HB⟩ := hcut
    cases kq with
    | zero => exact absurd HA.out (by simp [manteletlaw09_RunTells.j0])
    | succ kj4 =>
      have H := HA.out
      clear HA
      simp only [manteletlaw09_RunTells.j0] at H
      by_cases c9 : x24_4 = true
      · subst c9
        have H1 : (some t390) = some r := by rw [if_pos rfl] at H; exact H
        clear H
        have H := H1
        clear H1
        obtain rfl := Option.some.inj H
        go_wp2
        go_ret
        exact ⟨by first | rfl | (simp [errW_none, errW_some] <;> rfl) | (have e_ := Option.some.inj (A4.out.symm.trans A7.out); subst e_; rfl) | (simp [*, errW_none, errW_some] <;> rfl), by repeat (first | (with_reducible first | exact HB.out | apply below_alloc | apply pw_below_drewN | apply below_drew1) | exact HB.out)⟩
      · replace c9 := Bool.eq_false_iff.mpr c9
        subst c9
        have H1 : ((run_Encode.f kj4 l0 a1).bind fun bt392 => ((manteletref09_Encode.f kj4 l0 a1).bind fun bt396 => ((run_Decode.f kj4 l2).bind fun bt400 => ((manteletref09_Decode.f kj4 l2).bind fun bt404 => (if t390 = true then (if (strOfNums bt392.1).toList = (strOfNums bt396.1).toList then (if bt392.2 = bt396.2 then ((run_May.f kj4 l0).bind fun t408 => ((manteletref09_May.f kj4 l0).bind fun t409 => (if t408 = t409 then ((manteletref08_Same.f kj4 bt400.1 bt404.1).bind fun t410 => (if t410 = true then (some (bt400.2 == bt404.2)) else (none))) else (none)))) else (none)) else (none)) else (none)))))) = some r := by rw [if_neg (show ¬ (false = true) by decide)] at H; exact H
        clear H
        have H := H1
        clear H1
        replace H := Option.bind_eq_some_iff.mp H
        obtain ⟨⟨t392, t393⟩, A100, H⟩ := H
        replace H : ((manteletref09_Encode.f kj4 l0 a1).bind fun bt396 => ((run_Decode.f kj4 l2).bind fun bt400 => ((manteletref09_Decode.f kj4 l2).bind fun bt404 => (if t390 = true then (if (strOfNums t392).toList = (strOfNums bt396.1).toList then (if t393 = bt396.2 then ((run_May.f kj4 l0).bind fun t408 => ((manteletref09_May.f kj4 l0).bind fun t409 => (if t408 = t409 then ((manteletref08_Same.f kj4 bt400.1 bt404.1).bind fun t410 => (if t410 = true then (some (bt400.2 == bt404.2)) else (none))) else (none)))) else (none)) else (none)) else (none))))) = some r := H
        have A10 := Aside0.mk A100
        clear A100
        replace H := Option.bind_eq_some_iff.mp H
        obtain ⟨⟨t396, t397⟩, A110, H⟩ := H
        replace H : ((run_Decode.f kj4 l2).bind fun bt400 => ((manteletref09_Decode.f kj4 l2).bind fun bt404 => (if t390 = true then (if (strOfNums t392).toList = (strOfNums t396).toList then (if t393 = t397 then ((run_May.f kj4 l0).bind fun t408 => ((manteletref09_May.f kj4 l0).bind fun t409 => (if t408 = t409 then ((manteletref08_Same.f kj4 bt400.1 bt404.1).bind fun t410 => (if t410 = true then (some (bt400.2 == bt404.2)) else (none))) else (none)))) else (none)) else (none)) else (none)))) = some r := H
        have A11 := Aside0.mk A110
        clear A110
        replace H := Option.bind_eq_some_iff.mp H
        obtain ⟨⟨t400, t401⟩, A120, H⟩ := H
        replace H : ((manteletref09_Decode.f kj4 l2).bind fun bt404 => (if t390 = true then (if (strOfNums t392).toList = (strOfNums t396).toList then (if t393 = t397 then ((run_May.f kj4 l0).bind fun t408 => ((manteletref09_May.f kj4 l0).bind fun t409 => (if t408 = t409 then ((manteletref08_Same.f kj4 t400 bt404.1).bind fun t410 => (if t410 = true then (some (t401 == bt404.2)) else (none))) else (none)))) else (none)) else (none)) else (none))) = some r := H
        have A12 := Aside0.mk A120
        clear A120
        replace H := Option.bind_eq_some_iff.mp H
        obtain ⟨⟨t404, t405⟩, A130, H⟩ := H
        replace H : (if t390 = true then (if (strOfNums t392).toList = (strOfNums t396).toList then (if t393 = t397 then ((run_May.f kj4 l0).bind fun t408 => ((manteletref09_May.f kj4 l0).bind fun t409 => (if t408 = t409 then ((manteletref08_Same.f kj4 t400 t404).bind fun t410 => (if t410 = true then (some (t401 == t405)) else (none))) else (none)))) else (none)) else (none)) else (none)) = some r := H
        have A13 := Aside0.mk A130
        clear A130
        by_cases c14 : t390 = true
        · subst c14
          have H1 : (if (strOfNums t392).toList = (strOfNums t396).toList then (if t393 = t397 then ((run_May.f kj4 l0).bind fun t408 => ((manteletref09_May.f kj4 l0).bind fun t409 => (if t408 = t409 then ((manteletref08_Same.f kj4 t400 t404).bind fun t410 => (if t410 = true then (some (t401 == t405)) else (none))) else (none)))) else (none)) else (none)) = some r := by rw [if_pos rfl] at H; exact H
          clear H
          have H := H1
          clear H1
          by_cases c15 : (strOfNums t392).toList = (strOfNums t396).toList
          · rw [if_pos c15] at H
            have c15b0 : ((strOfNums t392).toList == (strOfNums t396).toList) = true := beq_iff_eq.mpr c15
            have c15b1 : ((strOfNums t392).toList != (strOfNums t396).toList) = false := bne_eq_false_iff_eq.mpr c15
            clear c15
            by_cases c16 : t393 = t397
            · rw [if_pos c16] at H
              have c16b0 : (t393 == t397) = true := beq_iff_eq.mpr c16
              have c16b1 : (t393 != t397) = false := bne_eq_false_iff_eq.mpr c16
              clear c16
              replace H := Option.bind_eq_some_iff.mp H
              obtain ⟨t408, A170, H⟩ := H
              replace H : ((manteletref09_May.f kj4 l0).bind fun t409 => (if t408 = t409 then ((manteletref08_Same.f kj4 t400 t404).bind fun t410 => (if t410 = true then (some (t401 == t405)) else (none))) else (none))) = some r := H
              have A17 := Aside0.mk A170
              clear A170
              replace H := Option.bind_eq_some_iff.mp H
              obtain ⟨t409, A180, H⟩ := H
              replace H : (if t408 = t409 then ((manteletref08_Same.f kj4 t400 t404).bind fun t410 => (if t410 = true then (some (t401 == t405)) else (none))) else (none)) = some r := H
              have A18 := Aside0.mk A180
              clear A180
              by_cases c19 : t408 = t409
              · rw [if_pos c19] at H
                have c19b0 : (t408 == t409) = true := beq_iff_eq.mpr c19
                have c19b1 : (t408 != t409) = false := bne_eq_false_iff_eq.mpr c19
                clear c19
                replace H := Option.bind_eq_some_iff.mp H
                obtain ⟨t410, A200, H⟩ := H
                replace H : (if t410 = true then (some (t401 == t405)) else (none)) = some r := H
                have A20 := Aside0.mk A200
                clear A200
                by_cases c21 : t410 = true
                · subst c21
                  have H1 : (some (t401 == t405)) = some r := by rw [if_pos rfl] at H; exact H
                  clear H
                  have H := H1
                  clear H1
                  obtain rfl := Option.some.inj H
                  go_wp2_with (first | ((with_reducible refine gate_callee (f := 11) rfl ?_); refine goesL_ (some 29) rfl rfl Try.func11 (by kernel_rfl) rfl #[.slice A0 l0.length c0, .int .i64 a1] rfl (by (try simp only [List.map_toArray, List.map_cons, List.map_nil]); first | done | rfl | (simp only [List.length_drop, List.length_take]; rfl)) ?_; (with_reducible refine (run_Encode.calls kj4 _ _ l0 a1 t392 t393 _ ?side1 ?side2 A10.out).mono ?_); (case side1 => repeat (first | exact (Kd.C_below HR0.out HB.out) | (with_reducible refine Kd.C_alloc ?_ _) | (with_reducible refine Kd.C_drewN ?_ _) | (with_reducible refine Kd.C_drew ?_))); (case side2 => exact HC0.out); rintro e w22 ⟨v394, rfl, ho0, hb⟩; refine ⟨_, rfl, ?_⟩; have n0_ := Aside0.mk (Kd.R_lower ho0 (below_size (by repeat (first | (with_reducible first | exact HB.out | apply below_alloc | apply pw_below_drewN | apply below_drew1) | exact HB.out)))); have n1_ := Aside0.mk (below_step (by repeat (first | (with_reducible first | exact HB.out | apply below_alloc | apply pw_below_drewN | apply below_drew1) | exact HB.out)) hb); clear HB; have HO395 := n0_; have HB := n1_; clear n0_ n1_; (try clear hb); (try clear hb2); (try clear hk); (try clear hi); (try clear ho0)) | ((with_reducible refine gate_callee (f := 12) rfl ?_); refine goesL_ (some 35) rfl rfl Try.func12 (by kernel_rfl) rfl #[.slice A0 l0.length c0, .int .i64 a1] rfl (by (try simp only [List.map_toArray, List.map_cons, List.map_nil]); first | done | rfl | (simp only [List.length_drop, List.length_take]; rfl)) ?_; (with_reducible refine (manteletref09_Encode.calls kj4 _ _ l0 a1 t396 t397 _ ?side1 ?side2 A11.out).mono ?_); (case side1 => repeat (first | exact (Kd.C_below HR0.out HB.out) | (with_reducible refine Kd.C_alloc ?_ _) | (with_reducible refine Kd.C_drewN ?_ _) | (with_reducible refine Kd.C_drew ?_))); (case side2 => exact HC0.out); rintro e w23 ⟨v398, rfl, ho0, hb⟩; refine ⟨_, rfl, ?_⟩; have n0_ := Aside0.mk (Kd.R_elder' (by (with_reducible repeat (first | apply Kd.R_alloc | apply Kd.R_drewN | apply Kd.R_drew)); exact HO395.out) (Kd.R_base ho0) hb); have n1_ := Aside0.mk (Kd.R_lower (Kd.R_new' ho0 (Kd.R_lt (by (with_reducible repeat (first | apply Kd.R_alloc | apply Kd.R_drewN | apply Kd.R_drew)); exact HO395.out))) (below_size (by repeat (first | (with_reducible first | exact HB.out | apply below_alloc | apply pw_below_drewN | apply below_drew1) | exact HB.out)))); have n2_ := Aside0.mk (below_step (by repeat (first | (with_reducible first | exact HB.out | apply below_alloc | apply pw_below_drewN | apply below_drew1) | exact HB.out)) hb); clear HO395; clear HB; have HO395 := n0_; have HO399 := n1_; have HB := n2_; clear n0_ n1_ n2_; (try clear hb); (try clear hb2); (try clear hk); (try clear hi); (try clear ho0)) | ((with_reducible refine gate_callee (f := 13) rfl ?_); refine goesL_ (some 40) rfl rfl Try.func13 (by kernel_rfl) rfl #[.slice A2 l2.length c2] rfl (by (try simp only [List.map_toArray, List.map_cons, List.map_nil]); first | done | rfl | (simp only [List.length_drop, List.length_take]; rfl)) ?_; (with_reducible refine (run_Decode.calls kj4 _ _ l2 t400 t401 _ ?side1 ?side2 A12.out).mono ?_); (case side1 => repeat (first | exact (Kd.C_below HR2.out HB.out) | (with_reducible refine Kd.C_alloc ?_ _) | (with_reducible refine Kd.C_drewN ?_ _) | (with_reducible refine Kd.C_drew ?_))); (case side2 => exact HC2.out); rintro e w24 ⟨v402, rfl, ho0, hb⟩; refine ⟨_, rfl, ?_⟩; have n0_ := Aside0.mk (Kd.R_below (by (with_reducible repeat (first | apply Kd.R_alloc | apply Kd.R_drewN | apply Kd.R_drew)); exact HO395.out) hb); have n1_ := Aside0.mk (Kd.R_below (by (with_reducible repeat (first | apply Kd.R_alloc | apply Kd.R_drewN | apply Kd.R_drew)); exact HO399.out) hb); have n2_ := Aside0.mk (Kd.R_lower ho0 (below_size (by repeat (first | (with_reducible first | exact HB.out | apply below_alloc | apply pw_below_drewN | apply below_drew1) | exact HB.out)))); have n3_ := Aside0.mk (below_step (by repeat (first | (with_reducible first | exact HB.out | apply below_alloc | apply pw_below_drewN | apply below_drew1) | exact HB.out)) hb); clear HO395; clear HO399; clear HB; have HO395 := n0_; have HO399 := n1_; have HO403 := n2_; have HB := n3_; clear n0_ n1_ n2_ n3_; (try clear hb); (try clear hb2); (try clear hk); (try clear hi); (try clear ho0)) | ((with_reducible refine gate_callee (f := 14) rfl ?_); refine goesL_ (some 45) rfl rfl Try.func14 (by kernel_rfl) rfl #[.slice A2 l2.length c2] rfl (by (try simp only [List.map_toArray, List.map_cons, List.map_nil]); first | done | rfl | (simp only [List.length_drop, List.length_take]; rfl)) ?_; (with_reducible refine (manteletref09_Decode.calls kj4 _ _ l2 t404 t405 _ ?side1 ?side2 A13.out).mono ?_); (case side1 => repeat (first | exact (Kd.C_below HR2.out HB.out) | (with_reducible refine Kd.C_alloc ?_ _) | (with_reducible refine Kd.C_drewN ?_ _) | (with_reducible refine Kd.C_drew ?_))); (case side2 => exact HC2.out); rintro e w25 ⟨v406, rfl, ho0, hb⟩; refine ⟨_, rfl, ?_⟩; have n0_ := Aside0.mk (Kd.R_below (by (with_reducible repeat (first | apply Kd.R_alloc | apply Kd.R_drewN | apply Kd.R_drew)); exact HO395.out) hb); have n1_ := Aside0.mk (Kd.R_below (by (with_reducible repeat (first | apply Kd.R_alloc | apply Kd.R_drewN | apply Kd.R_drew)); exact HO399.out) hb); have n2_ := Aside0.mk (Kd.R_elder' (by (with_reducible repeat (first | apply Kd.R_alloc | apply Kd.R_drewN | apply Kd.R_drew)); exact HO403.out) (Kd.R_base ho0) hb); have n3_ := Aside0.mk (Kd.R_lower (Kd.R_new' ho0 (Kd.R_lt (by (with_reducible repeat (first | apply Kd.R_alloc | apply Kd.R_drewN | apply Kd.R_drew)); exact HO403.out))) (below_size (by repeat (first | (with_reducible first | exact HB.out | apply below_alloc | apply pw_below_drewN | apply below_drew1) | exact HB.out)))); have n4_ := Aside0.mk (below_step (by repeat (first | (with_reducible first | exact HB.out | apply below_alloc | apply pw_below_drewN | apply below_drew1) | exact HB.out)) hb); clear HO395; clear HO399; clear HO403; clear HB; have HO395 := n0_; have HO399 := n1_; have HO403 := n2_; have HO407 := n3_; have HB := n4_; clear n0_ n1_ n2_ n3_ n4_; (try clear hb); (try clear hb2); (try clear hk); (try clear hi); (try clear ho0); have hcv26 := own_string (P := Try.prog) Try.underlying23 Try.underlying5 Try.underlying9 (Kd.own_of_R HO395.out); have hcv27 := own_string (P := Try.prog) Try.underlying23 Try.underlying5 Try.underlying9 (Kd.own_of_R HO399.out)) | (go_at_call 15; (with_reducible refine (run_May.calls kj4 _ _ l0 t408 _ ?side1 ?side2 A17.out).mono ?_); (case side1 => repeat (first | exact (Kd.C_below HR0.out HB.out) | (with_reducible refine Kd.C_alloc ?_ _) | (with_reducible refine Kd.C_drewN ?_ _) | (with_reducible refine Kd.C_drew ?_))); (case side2 => exact HC0.out); rintro e w28 ⟨rfl, hb⟩; have n0_ := Aside0.mk (Kd.R_below (by (with_reducible repeat (first | apply Kd.R_alloc | apply Kd.R_drewN | apply Kd.R_drew)); exact HO395.out) hb); have n1_ := Aside0.mk (Kd.R_below (by (with_reducible repeat (first | apply Kd.R_alloc | apply Kd.R_drewN | apply Kd.R_drew)); exact HO399.out) hb); have n2_ := Aside0.mk (Kd.R_below (by (with_reducible repeat (first | apply Kd.R_alloc | apply Kd.R_drewN | apply Kd.R_drew)); exact HO403.out) hb); have n3_ := Aside0.mk (Kd.R_below (by (with_reducible repeat (first | apply Kd.R_alloc | apply Kd.R_drewN | apply Kd.R_drew)); exact HO407.out) hb); have n4_ := Aside0.mk (below_step (by repeat (first | (with_reducible first | exact HB.out | apply below_alloc | apply pw_below_drewN | apply below_drew1) | exact HB.out)) hb); clear HO395; clear HO399; clear HO403; clear HO407; clear HB; have HO395 := n0_; have HO399 := n1_; have HO403 := n2_; have HO407 := n3_; have HB := n4_; clear n0_ n1_ n2_ n3_ n4_; (try clear hb); (try clear hb2); (try clear hk); (try clear hi)) | (go_at_call 16; (with_reducible refine (manteletref09_May.calls kj4 _ _ l0 t409 _ ?side1 ?side2 A18.out).mono ?_); (case side1 => repeat (first | exact (Kd.C_below HR0.out HB.out) | (with_reducible refine Kd.C_alloc ?_ _) | (with_reducible refine Kd.C_drewN ?_ _) | (with_reducible refine Kd.C_drew ?_))); (case side2 => exact HC0.out); rintro e w' ⟨rfl, ⟨nd, rfl⟩⟩; obtain ⟨Ao29, co29, eo29⟩ := Kd.R_slice HO403.out; subst eo29; obtain ⟨Ao30, co30, eo30⟩ := Kd.R_slice HO407.out; subst eo30) | (go_at_call 17; (with_reducible refine (manteletref08_Same.calls kj4 _ _ t400 _ _ t404 true _ ?side1 ?side2 ?side3 ?side4 A20.out).mono ?_); (case side1 => repeat (first | exact (Kd.R_reads' HO403.out).2.2 | (with_reducible refine Kd.C_alloc ?_ _) | (with_reducible refine Kd.C_drewN ?_ _) | (with_reducible refine Kd.C_drew ?_))); (case side2 => exact (Kd.R_reads' HO403.out).2.1); (case side3 => repeat (first | exact (Kd.R_reads' HO407.out).2.2 | (with_reducible refine Kd.C_alloc ?_ _) | (with_reducible refine Kd.C_drewN ?_ _) | (with_reducible refine Kd.C_drew ?_))); (case side4 => exact (Kd.R_reads' HO407.out).2.1); rintro e w' ⟨rfl, ⟨nd, rfl⟩⟩))
                  go_ret
                  exact ⟨by first | rfl | (simp [errW_none, errW_some] <;> rfl) | (simp [*, errW_none, errW_some] <;> rfl), by repeat (first | (with_reducible first | exact HB.out | apply below_alloc | apply pw_below_drewN | apply below_drew1) | exact HB.out)⟩
                · replace c21 := Bool.eq_false_iff.mpr c21
                  subst c21
                  have H1 : (none) = some r := by rw [if_neg (show ¬ (false = true) by decide)] at H; exact H
                  clear H
                  have H := H1
                  clear H1
                  exact absurd H (by simp)
              · rw [if_neg c19] at H
                exact absurd H (by simp)
            · rw [if_neg c16] at H
              exact absurd H (by simp)
          · rw [if_neg c15] at H
            exact absurd H (by simp)
        · replace c14 := Bool.eq_false_iff.mpr c14
          subst c14
          have H1 : (none) = some r := by rw [if_neg (show ¬ (false = true) by decide)] at H; exact H
          clear H
          have H := H1
          clear H1
          exact absurd H (by simp)

end Go.Proofs.Ytmfngihgoanhpaa.PRun
