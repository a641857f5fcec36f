/- Contracts of Go functions: called with what reads as these lists and numbers, a function returns what its plain Lean function says, and leaves what was there. Written by a program of this session. -/
import Derived.Test.YtmfngihgoanhpaaPRunx0
import Derived.Test.YtmfngihgoanhpaaPRunx2
import Derived.Test.YtmfngihgoanhpaaPRunx4
import Derived.Test.YtmfngihgoanhpaaPRunx6
import Derived.Test.YtmfngihgoanhpaaPRunx7
namespace Go.Proofs.Ytmfngihgoanhpaa.PRun
open Go.RowKit Go.Proofs.YtmfngihgoanhpaaW.PrintWords Go.Proofs.YtmfngihgoanhpaaW.PrintLast Go.Proofs.YtmfngihgoanhpaaW.PrintMore
attribute [local go_sem] max2_int min2_int max_two min_two max_three min_three max_four min_four   -- for this text's walks alone
attribute [local go_sem] Go.Proofs.Ytmfngihgoanhpaa.MoreWords.str_leq Go.Proofs.Ytmfngihgoanhpaa.MoreWords.str_gtr Go.Proofs.Ytmfngihgoanhpaa.MoreWords.str_geq
set_option linter.unusedVariables false
set_option linter.unusedSimpArgs false

/-! ### manteletlaw09_RunOnes: function 5 -/
mutual
def manteletlaw09_RunOnes.j0 : Nat → List (S44) → Int → Int → Int → Bool → Bool → Option (Bool)
  | 0, _, _, _, _, _, _ => none
  | k + 1, x0, x1, x2, x3, x9, x28 => if x28 = true then (some x9) else ((run_Encode.f k x0 (wrap64 (1 + (wrap64 (Int.tmod x1 255))))).bind fun bt432 => (if bt432.2 = 0 then (manteletlaw09_RunOnes.j1 k x2 x3 x9 bt432.1 ((bt432.1.length : Int) == 0)) else (manteletlaw09_RunOnes.j1 k x2 x3 x9 bt432.1 true)))
def manteletlaw09_RunOnes.j1 : Nat → Int → Int → Bool → List Int → Bool → Option (Bool)
  | 0, _, _, _, _, _ => none
  | k + 1, x2, x3, x9, x10, x45 => if x45 = true then (none) else (if (x10.length : Int) = 0 then (none) else ((some (([] : List Int) : List Int)).bind fun y436 => (if y436.length + x10.length < 140737488355328 then ((some (y436 ++ x10 : List Int)).bind fun y439 => (if 0 ≤ (Int.tmod (wrap64 (x2)) (x10.length : Int)) then (if (Int.tmod (wrap64 (x2)) (x10.length : Int)) < (y439.length : Int) then (if (Int.tmod (wrap64 (x2)) (x10.length : Int)) ≤ (x10.length : Int) then ((run_Decode.f k (x10.take ((Int.tmod (wrap64 (x2)) (x10.length : Int)) : Int).toNat)).bind fun bt448 => ((some (([] : List Int) : List Int)).bind fun y452 => (if y452.length + x10.length < 140737488355328 then ((some (y452 ++ x10 : List Int)).bind fun y455 => (if y455.length < 140737488355328 then ((run_Decode.f k (y455 ++ [x3])).bind fun bt461 => ((run_Decode.f k (y439.set ((Int.tmod (wrap64 (x2)) (x10.length : Int)) : Int).toNat (Go.bits .xor .u8 (rd y439 (Int.tmod (wrap64 (x2)) (x10.length : Int))) (Go.bits .or .u8 x3 1)))).bind fun bt465 => (if x9 = true then (if bt448.2 = 2 then (if bt461.2 = 2 then (some (bt465.2 == 2)) else (none)) else (none)) else (none)))) else (none))) else (none)))) else (none)) else (none)) else (none))) else (none))))
end
def manteletlaw09_RunOnes.f (k : Nat) (l0 : List (S44)) (a1 : Int) (a2 : Int) (a3 : Int) : Option (Bool) := (manteletlaw09_shown.f k).bind fun t429 => ((manteletlaw09_few.f k l0).bind fun t430 => (if t430 = true then ((run_May.f k l0).bind fun t431 => (manteletlaw09_RunOnes.j0 k l0 a1 a2 a3 t429 (t431 != 0))) else (manteletlaw09_RunOnes.j0 k l0 a1 a2 a3 t429 true)))
theorem manteletlaw09_RunOnes.mono_l : ∀ k, (∀ y0 y1 y2 y3 y4 y5, LeO (manteletlaw09_RunOnes.j0 k y0 y1 y2 y3 y4 y5) (manteletlaw09_RunOnes.j0 (k + 1) y0 y1 y2 y3 y4 y5)) ∧ (∀ y0 y1 y2 y3 y4, LeO (manteletlaw09_RunOnes.j1 k y0 y1 y2 y3 y4) (manteletlaw09_RunOnes.j1 (k + 1) y0 y1 y2 y3 y4))
  | 0 => ⟨fun _ _ _ _ _ _ r h => by simp [manteletlaw09_RunOnes.j0] at h, fun _ _ _ _ _ r h => by simp [manteletlaw09_RunOnes.j1] at h⟩
  | k + 1 => by
    obtain ⟨ih0, ih1⟩ := manteletlaw09_RunOnes.mono_l k
    refine ⟨?_, ?_⟩
    · intro y0 y1 y2 y3 y4 y5
      unfold manteletlaw09_RunOnes.j0
      repeat' first
      | (with_reducible exact ih0 _ _ _ _ _ _)
      | (with_reducible exact ih1 _ _ _ _ _)
      | (with_reducible exact manteletlaw09_few.mono _ _)
      | (with_reducible exact manteletlaw09_shown.mono _)
      | (with_reducible exact run_Decode.mono _ _)
      | (with_reducible exact run_Encode.mono _ _ _)
      | (with_reducible exact run_May.mono _ _)
      | (with_reducible exact LeO.refl _)
      | (with_reducible exact LeO.none _)
      | (with_reducible refine LeO.ite ?_ ?_)
      | (with_reducible refine LeO.bind ?_ (fun _ => ?_))
      | exact ih0 _ _ _ _ _ _
      | exact ih1 _ _ _ _ _
      | exact manteletlaw09_few.mono _ _
      | exact manteletlaw09_shown.mono _
      | exact run_Decode.mono _ _
      | exact run_Encode.mono _ _ _
      | exact run_May.mono _ _
      | exact LeO.none _
      | refine LeO.ite ?_ ?_
      | refine LeO.bind ?_ (fun _ => ?_)
    · intro y0 y1 y2 y3 y4
      unfold manteletlaw09_RunOnes.j1
      repeat' first
      | (with_reducible exact ih0 _ _ _ _ _ _)
      | (with_reducible exact ih1 _ _ _ _ _)
      | (with_reducible exact manteletlaw09_few.mono _ _)
      | (with_reducible exact manteletlaw09_shown.mono _)
      | (with_reducible exact run_Decode.mono _ _)
      | (with_reducible exact run_Encode.mono _ _ _)
      | (with_reducible exact run_May.mono _ _)
      | (with_reducible exact LeO.refl _)
      | (with_reducible exact LeO.none _)
      | (with_reducible refine LeO.ite ?_ ?_)
      | (with_reducible refine LeO.bind ?_ (fun _ => ?_))
      | exact ih0 _ _ _ _ _ _
      | exact ih1 _ _ _ _ _
      | exact manteletlaw09_few.mono _ _
      | exact manteletlaw09_shown.mono _
      | exact run_Decode.mono _ _
      | exact run_Encode.mono _ _ _
      | exact run_May.mono _ _
      | exact LeO.none _
      | refine LeO.ite ?_ ?_
      | refine LeO.bind ?_ (fun _ => ?_)
theorem manteletlaw09_RunOnes.mono : ∀ a0 a1 a2 a3 k, LeO (manteletlaw09_RunOnes.f k a0 a1 a2 a3) (manteletlaw09_RunOnes.f (k + 1) a0 a1 a2 a3) := by
  intro a0 a1 a2 a3 k
  obtain ⟨ih0, ih1⟩ := manteletlaw09_RunOnes.mono_l k
  unfold manteletlaw09_RunOnes.f
  repeat' first
      | (with_reducible exact ih0 _ _ _ _ _ _)
      | (with_reducible exact ih1 _ _ _ _ _)
      | (with_reducible exact manteletlaw09_few.mono _ _)
      | (with_reducible exact manteletlaw09_shown.mono _)
      | (with_reducible exact run_Decode.mono _ _)
      | (with_reducible exact run_Encode.mono _ _ _)
      | (with_reducible exact run_May.mono _ _)
      | (with_reducible exact LeO.refl _)
      | (with_reducible exact LeO.none _)
      | (with_reducible refine LeO.ite ?_ ?_)
      | (with_reducible refine LeO.bind ?_ (fun _ => ?_))
      | exact ih0 _ _ _ _ _ _
      | exact ih1 _ _ _ _ _
      | exact manteletlaw09_few.mono _ _
      | exact manteletlaw09_shown.mono _
      | exact run_Decode.mono _ _
      | exact run_Encode.mono _ _ _
      | exact run_May.mono _ _
      | exact LeO.none _
      | refine LeO.ite ?_ ?_
      | refine LeO.bind ?_ (fun _ => ?_)
set_option maxHeartbeats 8000000 in
set_option maxRecDepth 100000 in
theorem manteletlaw09_RunOnes.calls (k : Nat) (A0 : Option Addr) (c0 : Nat) (l0 : List (S44)) (a1 : Int) (a2 : Int) (a3 : Int) (r : Bool) (w : World) (hr0 : Kd.C k44 w A0 l0.length l0) (hc0 : l0.length ≤ c0) (h : manteletlaw09_RunOnes.f k l0 a1 a2 a3 = some r) :
    Calls Try.prog 5 #[.slice A0 l0.length c0, .int .u8 a1, .int .u16 a2, .int .u8 a3] w fun e w' => e = .returned (.bool r) ∧ Below w.heap.size w w' := by
  have HR0 := Aside0.mk hr0
  have HC0 := Aside0.mk hc0
  clear hr0 hc0
  have HB := Aside0.mk (Below.refl w.heap.size w)
  have H : ((manteletlaw09_shown.f k).bind fun t429 => ((manteletlaw09_few.f k l0).bind fun t430 => (if t430 = true then ((run_May.f k l0).bind fun t431 => (manteletlaw09_RunOnes.j0 k l0 a1 a2 a3 t429 (t431 != 0))) else (manteletlaw09_RunOnes.j0 k l0 a1 a2 a3 t429 true)))) = some r := h
  clear h
  replace H := Option.bind_eq_some_iff.mp H
  obtain ⟨t429, A50, H⟩ := H
  replace H : ((manteletlaw09_few.f k l0).bind fun t430 => (if t430 = true then ((run_May.f k l0).bind fun t431 => (manteletlaw09_RunOnes.j0 k l0 a1 a2 a3 t429 (t431 != 0))) else (manteletlaw09_RunOnes.j0 k l0 a1 a2 a3 t429 true))) = some r := H
  have A5 := Aside0.mk A50
  clear A50
  have HC6 := Aside0.mk H
  clear H
  go_enter Try.func5, Try.ntmps5
  go_upto_region 2 with (first | ((with_reducible refine gate_callee (f := 9) rfl ?_); refine goesL_ (some 20) rfl rfl Try.func9 (by kernel_rfl) rfl #[] rfl (by (try simp only [List.map_toArray, List.map_cons, List.map_nil]); first | done | rfl | (simp only [List.length_drop, List.length_take]; rfl)) ?_; (with_reducible refine (manteletlaw09_shown.calls k  t429 _ A5.out).mono ?_); rintro e w7 ⟨rfl, hb⟩; refine ⟨_, rfl, ?_⟩; have n0_ := Aside0.mk (below_step (by repeat (first | (with_reducible first | exact HB.out | apply below_alloc | apply pw_below_drewN | apply below_drew1) | exact HB.out)) hb); clear HB; have HB := n0_; clear n0_; (try clear hb); (try clear hb2); (try clear hk); (try clear hi)))
  (try simp only [Act.put, List.setIfInBounds_toArray, List.set_cons_zero, List.set_cons_succ])
  go_cut [28] (fun v28 wc => ∃ (kq : Nat) (x28_5 : Bool), v28 = .bool x28_5 ∧ Aside0 (manteletlaw09_RunOnes.j0 kq l0 a1 a2 a3 t429 x28_5 = some r) ∧ Aside0 (kq ≤ k) ∧ Aside0 (Below w.heap.size w wc))
  case first =>
    have H := HC6.out
    clear HC6
    replace H := Option.bind_eq_some_iff.mp H
    obtain ⟨t430, A80, H⟩ := H
    replace H : (if t430 = true then ((run_May.f k l0).bind fun t431 => (manteletlaw09_RunOnes.j0 k l0 a1 a2 a3 t429 (t431 != 0))) else (manteletlaw09_RunOnes.j0 k l0 a1 a2 a3 t429 true)) = some r := H
    have A8 := Aside0.mk A80
    clear A80
    by_cases c9 : t430 = true
    · subst c9
      have H1 : ((run_May.f k l0).bind fun t431 => (manteletlaw09_RunOnes.j0 k l0 a1 a2 a3 t429 (t431 != 0))) = some r := by rw [if_pos rfl] at H; exact H
      clear H
      have H := H1
      clear H1
      replace H := Option.bind_eq_some_iff.mp H
      obtain ⟨t431, A100, H⟩ := H
      replace H : (manteletlaw09_RunOnes.j0 k l0 a1 a2 a3 t429 (t431 != 0)) = some r := H
      have A10 := Aside0.mk A100
      clear A100
      have H' := Aside0.mk H
      clear H
      go_wp2_with (first | ((with_reducible refine gate_callee (f := 10) rfl ?_); refine goesL_ (some 22) rfl rfl Try.func10 (by kernel_rfl) rfl #[.slice A0 l0.length c0] rfl (by (try simp only [List.map_toArray, List.map_cons, List.map_nil]); first | done | rfl | (simp only [List.length_drop, List.length_take]; rfl)) ?_; (with_reducible refine (manteletlaw09_few.calls k _ _ l0 true _ ?side1 ?side2 A8.out).mono ?_); (case side1 => repeat (first | exact (Kd.C_below HR0.out HB.out) | (with_reducible refine Kd.C_alloc ?_ _) | (with_reducible refine Kd.C_drewN ?_ _) | (with_reducible refine Kd.C_drew ?_))); (case side2 => exact HC0.out); rintro e w' ⟨rfl, ⟨nd, rfl⟩⟩; refine ⟨_, rfl, ?_⟩) | (go_at_call 15; (with_reducible refine (run_May.calls k _ _ l0 t431 _ ?side1 ?side2 A10.out).mono ?_); (case side1 => repeat (first | exact (Kd.C_below HR0.out (by repeat (first | (with_reducible first | exact HB.out | apply below_alloc | apply pw_below_drewN | apply below_drew1) | exact HB.out))) | (with_reducible refine Kd.C_alloc ?_ _) | (with_reducible refine Kd.C_drewN ?_ _) | (with_reducible refine Kd.C_drew ?_))); (case side2 => exact HC0.out); rintro e w11 ⟨rfl, hb⟩; have n0_ := Aside0.mk (below_step (by repeat (first | (with_reducible first | exact HB.out | apply below_alloc | apply pw_below_drewN | apply below_drew1) | exact HB.out)) hb); clear HB; have HB := n0_; clear n0_; (try clear hb); (try clear hb2); (try clear hk); (try clear hi)))
      go_meet
      case rel => exact ⟨_, ((t431 != 0)), (by first | rfl | (simp; done) | (simp [*]; done)), H', ⟨by first | omega | exact Nat.le_refl _⟩, ⟨by repeat (first | (with_reducible first | exact HB.out | apply below_alloc | apply pw_below_drewN | apply below_drew1) | exact HB.out)⟩⟩
    · replace c9 := Bool.eq_false_iff.mpr c9
      subst c9
      have H1 : (manteletlaw09_RunOnes.j0 k l0 a1 a2 a3 t429 true) = some r := by rw [if_neg (show ¬ (false = true) by decide)] at H; exact H
      clear H
      have H := H1
      clear H1
      have H' := Aside0.mk H
      clear H
      go_wp2_with (first | ((with_reducible refine gate_callee (f := 10) rfl ?_); refine goesL_ (some 22) rfl rfl Try.func10 (by kernel_rfl) rfl #[.slice A0 l0.length c0] rfl (by (try simp only [List.map_toArray, List.map_cons, List.map_nil]); first | done | rfl | (simp only [List.length_drop, List.length_take]; rfl)) ?_; (with_reducible refine (manteletlaw09_few.calls k _ _ l0 false _ ?side1 ?side2 A8.out).mono ?_); (case side1 => repeat (first | exact (Kd.C_below HR0.out HB.out) | (with_reducible refine Kd.C_alloc ?_ _) | (with_reducible refine Kd.C_drewN ?_ _) | (with_reducible refine Kd.C_drew ?_))); (case side2 => exact HC0.out); rintro e w' ⟨rfl, ⟨nd, rfl⟩⟩; refine ⟨_, rfl, ?_⟩))
      go_meet
      case rel => exact ⟨_, (true), (by first | rfl | (simp; done) | (simp [*]; done)), H', ⟨by first | omega | exact Nat.le_refl _⟩, ⟨by repeat (first | (with_reducible first | exact HB.out | apply below_alloc | apply pw_below_drewN | apply below_drew1) | exact HB.out)⟩⟩
  case rest =>
    clear HC6
    try clear c1
    try clear p2
    try clear c5
    try clear c9
    try clear c10
    obtain ⟨kq, x28_5, rfl, HA, HJ5, HB⟩ := hcut
    cases kq with
    | zero => exact absurd HA.out (by simp [manteletlaw09_RunOnes.j0])
    | succ kj5 =>
      have H := HA.out
      clear HA
      simp only [manteletlaw09_RunOnes.j0] at H
      by_cases c12 : x28_5 = true
      · subst c12
        have H1 : (some t429) = some r := by rw [if_pos rfl] at H; exact H
        clear H
        have H := H1
        clear H1
        obtain rfl := Option.some.inj H
        go_wp2
        go_ret
        exact ⟨by first | rfl | (simp [errW_none, errW_some] <;> rfl) | (have e_ := Option.some.inj (A5.out.symm.trans A8.out); subst e_; rfl) | (have e_ := Option.some.inj (A5.out.symm.trans A10.out); subst e_; rfl) | (have e_ := Option.some.inj (A8.out.symm.trans A10.out); subst e_; rfl) | (simp [*, errW_none, errW_some] <;> rfl), by repeat (first | (with_reducible first | exact HB.out | apply below_alloc | apply pw_below_drewN | apply below_drew1) | exact HB.out)⟩
      · replace c12 := Bool.eq_false_iff.mpr c12
        subst c12
        have H1 : ((run_Encode.f kj5 l0 (wrap64 (1 + (wrap64 (Int.tmod a1 255))))).bind fun bt432 => (if bt432.2 = 0 then (manteletlaw09_RunOnes.j1 kj5 a2 a3 t429 bt432.1 ((bt432.1.length : Int) == 0)) else (manteletlaw09_RunOnes.j1 kj5 a2 a3 t429 bt432.1 true))) = some r := by rw [if_neg (show ¬ (false = true) by decide)] at H; exact H
        clear H
        have H := H1
        clear H1
        replace H := Option.bind_eq_some_iff.mp H
        obtain ⟨⟨t432, t433⟩, A130, H⟩ := H
        replace H : (if t433 = 0 then (manteletlaw09_RunOnes.j1 kj5 a2 a3 t429 t432 ((t432.length : Int) == 0)) else (manteletlaw09_RunOnes.j1 kj5 a2 a3 t429 t432 true)) = some r := H
        have A13 := Aside0.mk A130
        clear A130
        have HC14 := Aside0.mk H
        clear H
        go_upto_region 5 with (first | ((with_reducible refine gate_callee (f := 11) rfl ?_); refine goesL_ (some 36) rfl rfl Try.func11 (by kernel_rfl) rfl #[.slice A0 l0.length c0, .int .i64 (wrap64 (1 + (wrap64 (Int.tmod a1 255))))] rfl (by (try simp only [List.map_toArray, List.map_cons, List.map_nil]); first | done | rfl | (simp only [List.length_drop, List.length_take]; rfl)) ?_; (with_reducible refine (run_Encode.calls kj5 _ _ l0 (wrap64 (1 + (wrap64 (Int.tmod a1 255)))) t432 t433 _ ?side1 ?side2 A13.out).mono ?_); (case side1 => repeat (first | exact (Kd.C_below HR0.out HB.out) | (with_reducible refine Kd.C_alloc ?_ _) | (with_reducible refine Kd.C_drewN ?_ _) | (with_reducible refine Kd.C_drew ?_))); (case side2 => exact HC0.out); rintro e w15 ⟨v434, rfl, ho0, hb⟩; refine ⟨_, rfl, ?_⟩; have n0_ := Aside0.mk (Kd.R_lower ho0 (below_size (by repeat (first | (with_reducible first | exact HB.out | apply below_alloc | apply pw_below_drewN | apply below_drew1) | exact HB.out)))); have n1_ := Aside0.mk (below_step (by repeat (first | (with_reducible first | exact HB.out | apply below_alloc | apply pw_below_drewN | apply below_drew1) | exact HB.out)) hb); clear HB; have HO435 := n0_; have HB := n1_; clear n0_ n1_; (try clear hb); (try clear hb2); (try clear hk); (try clear hi); (try clear ho0)))
        (try simp only [Act.put, List.setIfInBounds_toArray, List.set_cons_zero, List.set_cons_succ])
        go_cut [45] (fun v45 wc => ∃ (kq : Nat) (x45_13 : Bool), v45 = .bool x45_13 ∧ Aside0 (manteletlaw09_RunOnes.j1 kq a2 a3 t429 t432 x45_13 = some r) ∧ Aside0 (kq ≤ kj5) ∧ Aside0 (Kd.R (Kd.int .u8) 5 wc w.heap.size (fun _ => True) v434 t432) ∧ Aside0 (Below w.heap.size w wc))
        case first =>
          have H := HC14.out
          clear HC14
          by_cases c16 : t433 = 0
          · rw [if_pos c16] at H
            have c16b0 : (t433 == 0) = true := beq_iff_eq.mpr c16
            have c16b1 : (t433 != 0) = false := bne_eq_false_iff_eq.mpr c16
            clear c16
            (first | rw [c16b0] | (simp only [i64_w, i32_w]; rw [c16b0]) | skip)
            have H' := Aside0.mk H
            clear H
            obtain ⟨Ao17, co17, eo17⟩ := Kd.R_slice HO435.out
            subst eo17
            go_wp2
            go_meet
            case rel => exact ⟨_, (((t432.length : Int) == 0)), (by first | rfl | (simp; done) | (simp [*]; done)), H', ⟨by have := HJ5.out; first | omega | exact Nat.le_refl _⟩, ⟨by (with_reducible repeat (first | apply Kd.R_alloc | apply Kd.R_drewN | apply Kd.R_drew)); exact HO435.out⟩, ⟨by repeat (first | (with_reducible first | exact HB.out | apply below_alloc | apply pw_below_drewN | apply below_drew1) | exact HB.out)⟩⟩
          · rw [if_neg c16] at H
            have c16b0 : (t433 == 0) = false := beq_eq_false_iff_ne.mpr c16
            have c16b1 : (t433 != 0) = true := bne_iff_ne.mpr c16
            (first | rw [c16b0] | (simp only [i64_w, i32_w]; rw [c16b0]) | skip)
            have H' := Aside0.mk H
            clear H
            go_wp2
            go_meet
            case rel => exact ⟨_, (true), (by first | rfl | (simp; done) | (simp [*]; done)), H', ⟨by have := HJ5.out; first | omega | exact Nat.le_refl _⟩, ⟨by (with_reducible repeat (first | apply Kd.R_alloc | apply Kd.R_drewN | apply Kd.R_drew)); exact HO435.out⟩, ⟨by repeat (first | (with_reducible first | exact HB.out | apply below_alloc | apply pw_below_drewN | apply below_drew1) | exact HB.out)⟩⟩
        case rest =>
          clear HC14
          try clear c1
          try clear p2
          try clear c5
          try clear p6
          try clear c9
          try clear c10
          try clear c11
          try clear c12
          try clear c16
          try clear c16b0
          try clear c16b1
          try clear p2
          obtain ⟨kq, x45_13, rfl, HA, HJ13, HO_10, HB⟩ := hcut
          cases kq with
          | zero => exact absurd HA.out (by simp [manteletlaw09_RunOnes.j1])
          | succ kj13 =>
            have H := HA.out
            clear HA
            simp only [manteletlaw09_RunOnes.j1] at H
            by_cases c18 : x45_13 = true
            · subst c18
              have H1 : (none) = some r := by rw [if_pos rfl] at H; exact H
              clear H
              have H := H1
              clear H1
              exact absurd H (by simp)
            · replace c18 := Bool.eq_false_iff.mpr c18
              subst c18
              have H1 : (if (t432.length : Int) = 0 then (none) else ((some (([] : List Int) : List Int)).bind fun y436 => (if y436.length + t432.length < 140737488355328 then ((some (y436 ++ t432 : List Int)).bind fun y439 => (if 0 ≤ (Int.tmod (wrap64 (a2)) (t432.length : Int)) then (if (Int.tmod (wrap64 (a2)) (t432.length : Int)) < (y439.length : Int) then (if (Int.tmod (wrap64 (a2)) (t432.length : Int)) ≤ (t432.length : Int) then ((run_Decode.f kj13 (t432.take ((Int.tmod (wrap64 (a2)) (t432.length : Int)) : Int).toNat)).bind fun bt448 => ((some (([] : List Int) : List Int)).bind fun y452 => (if y452.length + t432.length < 140737488355328 then ((some (y452 ++ t432 : List Int)).bind fun y455 => (if y455.length < 140737488355328 then ((run_Decode.f kj13 (y455 ++ [a3])).bind fun bt461 => ((run_Decode.f kj13 (y439.set ((Int.tmod (wrap64 (a2)) (t432.length : Int)) : Int).toNat (Go.bits .xor .u8 (rd y439 (Int.tmod (wrap64 (a2)) (t432.length : Int))) (Go.bits .or .u8 a3 1)))).bind fun bt465 => (if t429 = true then (if bt448.2 = 2 then (if bt461.2 = 2 then (some (bt465.2 == 2)) else (none)) else (none)) else (none)))) else (none))) else (none)))) else (none)) else (none)) else (none))) else (none)))) = some r := by rw [if_neg (show ¬ (false = true) by decide)] at H; exact H
              clear H
              have H := H1
              clear H1
              by_cases c19 : (t432.length : Int) = 0
              · rw [if_pos c19] at H
                exact absurd H (by simp)
              · rw [if_neg c19] at H
                have c19b0 : ((t432.length : Int) == 0) = false := beq_eq_false_iff_ne.mpr c19
                have c19b1 : ((t432.length : Int) != 0) = true := bne_iff_ne.mpr c19
                have c19b2 : ¬ (t432 = []) := fun h_ => c19 (by rw [h_]; rfl)
                obtain ⟨y436, hy436⟩ : ∃ y_ : List Int, y_ = (([] : List Int)) := ⟨_, rfl⟩
                replace H : (if y436.length + t432.length < 140737488355328 then ((some (y436 ++ t432 : List Int)).bind fun y439 => (if 0 ≤ (Int.tmod (wrap64 (a2)) (t432.length : Int)) then (if (Int.tmod (wrap64 (a2)) (t432.length : Int)) < (y439.length : Int) then (if (Int.tmod (wrap64 (a2)) (t432.length : Int)) ≤ (t432.length : Int) then ((run_Decode.f kj13 (t432.take ((Int.tmod (wrap64 (a2)) (t432.length : Int)) : Int).toNat)).bind fun bt448 => ((some (([] : List Int) : List Int)).bind fun y452 => (if y452.length + t432.length < 140737488355328 then ((some (y452 ++ t432 : List Int)).bind fun y455 => (if y455.length < 140737488355328 then ((run_Decode.f kj13 (y455 ++ [a3])).bind fun bt461 => ((run_Decode.f kj13 (y439.set ((Int.tmod (wrap64 (a2)) (t432.length : Int)) : Int).toNat (Go.bits .xor .u8 (rd y439 (Int.tmod (wrap64 (a2)) (t432.length : Int))) (Go.bits .or .u8 a3 1)))).bind fun bt465 => (if t429 = true then (if bt448.2 = 2 then (if bt461.2 = 2 then (some (bt465.2 == 2)) else (none)) else (none)) else (none)))) else (none))) else (none)))) else (none)) else (none)) else (none))) else (none)) = some r := by first | (rw [hy436]; with_reducible exact H) | (have H2_ := (Option.bind_some _ _).symm.trans H; rw [hy436]; with_reducible exact H2_) | (have H2_ := (Option.bind_some _ _).symm.trans H; with_reducible exact H2_) | with_reducible exact H | (rw [hy436]; exact H) | exact H
                have Ny436 := Aside0.mk hy436
                clear hy436
                by_cases c20 : y436.length + t432.length < 140737488355328
                · rw [if_pos c20] at H
                  have LMc20 := Aside0.mk c20
                  clear c20
                  obtain ⟨y439, hy439⟩ : ∃ y_ : List Int, y_ = (y436 ++ t432) := ⟨_, rfl⟩
                  replace H : (if 0 ≤ (Int.tmod (wrap64 (a2)) (t432.length : Int)) then (if (Int.tmod (wrap64 (a2)) (t432.length : Int)) < (y439.length : Int) then (if (Int.tmod (wrap64 (a2)) (t432.length : Int)) ≤ (t432.length : Int) then ((run_Decode.f kj13 (t432.take ((Int.tmod (wrap64 (a2)) (t432.length : Int)) : Int).toNat)).bind fun bt448 => ((some (([] : List Int) : List Int)).bind fun y452 => (if y452.length + t432.length < 140737488355328 then ((some (y452 ++ t432 : List Int)).bind fun y455 => (if y455.length < 140737488355328 then ((run_Decode.f kj13 (y455 ++ [a3])).bind fun bt461 => ((run_Decode.f kj13 (y439.set ((Int.tmod (wrap64 (a2)) (t432.length : Int)) : Int).toNat (Go.bits .xor .u8 (rd y439 (Int.tmod (wrap64 (a2)) (t432.length : Int))) (Go.bits .or .u8 a3 1)))).bind fun bt465 => (if t429 = true then (if bt448.2 = 2 then (if bt461.2 = 2 then (some (bt465.2 == 2)) else (none)) else (none)) else (none)))) else (none))) else (none)))) else (none)) else (none)) else (none)) = some r := by first | (rw [hy439]; with_reducible exact H) | (have H2_ := (Option.bind_some _ _).symm.trans H; rw [hy439]; with_reducible exact H2_) | (have H2_ := (Option.bind_some _ _).symm.trans H; with_reducible exact H2_) | with_reducible exact H | (rw [hy439]; exact H) | exact H
                  have Ny439 := Aside0.mk hy439
                  clear hy439
                  obtain ⟨ji21, hji21⟩ : ∃ j_ : Int, (Int.tmod (wrap64 (a2)) (t432.length : Int)) = j_ := ⟨_, rfl⟩
                  (try rw [hji21] at LMc20)
                  replace H : (if 0 ≤ (ji21) then (if (ji21) < (y439.length : Int) then (if (ji21) ≤ (t432.length : Int) then ((run_Decode.f kj13 (t432.take ((ji21) : Int).toNat)).bind fun bt448 => ((some (([] : List Int) : List Int)).bind fun y452 => (if y452.length + t432.length < 140737488355328 then ((some (y452 ++ t432 : List Int)).bind fun y455 => (if y455.length < 140737488355328 then ((run_Decode.f kj13 (y455 ++ [a3])).bind fun bt461 => ((run_Decode.f kj13 (y439.set ((ji21) : Int).toNat (Go.bits .xor .u8 (rd y439 (ji21)) (Go.bits .or .u8 a3 1)))).bind fun bt465 => (if t429 = true then (if bt448.2 = 2 then (if bt461.2 = 2 then (some (bt465.2 == 2)) else (none)) else (none)) else (none)))) else (none))) else (none)))) else (none)) else (none)) else (none)) = some r := by first | (rw [hji21] at H; exact H) | (simp only [hji21] at H ⊢; exact H)
                  by_cases c22 : 0 ≤ (ji21)
                  · rw [if_pos c22] at H
                    have c22b0 : decide (0 ≤ (ji21)) = true := decide_eq_true c22
                    clear c22
                    by_cases c23 : (ji21) < (y439.length : Int)
                    · rw [if_pos c23] at H
                      have c23b0 : decide ((ji21) < (y439.length : Int)) = true := decide_eq_true c23
                      clear c23
                      obtain ⟨y443, hy443⟩ : ∃ y_ : List Int, y_ = (y439.set ((ji21) : Int).toNat (Go.bits .xor .u8 (rd y439 (ji21)) (Go.bits .or .u8 a3 1))) := ⟨_, rfl⟩
                      replace H : (if (ji21) ≤ (t432.length : Int) then ((run_Decode.f kj13 (t432.take ((ji21) : Int).toNat)).bind fun bt448 => ((some (([] : List Int) : List Int)).bind fun y452 => (if y452.length + t432.length < 140737488355328 then ((some (y452 ++ t432 : List Int)).bind fun y455 => (if y455.length < 140737488355328 then ((run_Decode.f kj13 (y455 ++ [a3])).bind fun bt461 => ((run_Decode.f kj13 y443).bind fun bt465 => (if t429 = true then (if bt448.2 = 2 then (if bt461.2 = 2 then (some (bt465.2 == 2)) else (none)) else (none)) else (none)))) else (none))) else (none)))) else (none)) = some r := by first | (rw [hy443]; with_reducible exact H) | (have H2_ := (Option.bind_some _ _).symm.trans H; rw [hy443]; with_reducible exact H2_) | (have H2_ := (Option.bind_some _ _).symm.trans H; with_reducible exact H2_) | with_reducible exact H | (rw [hy443]; exact H) | exact H
                      have Ny443 := Aside0.mk hy443
                      clear hy443
                      have c25b0 := eq_true (of_decide_eq_true (by first | (with_reducible assumption) | assumption) : 0 ≤ (ji21))
                      by_cases c26 : (ji21) ≤ (t432.length : Int)
                      · rw [if_pos c26] at H
                        have c26b0 := eq_true c26
                        have c26b1 : decide ((ji21) ≤ (t432.length : Int)) = true := decide_eq_true c26
                        clear c26
                        obtain ⟨y444, hy444⟩ : ∃ y_ : List Int, y_ = (t432.take ((ji21) : Int).toNat) := ⟨_, rfl⟩
                        replace H : ((run_Decode.f kj13 y444).bind fun bt448 => ((some (([] : List Int) : List Int)).bind fun y452 => (if y452.length + t432.length < 140737488355328 then ((some (y452 ++ t432 : List Int)).bind fun y455 => (if y455.length < 140737488355328 then ((run_Decode.f kj13 (y455 ++ [a3])).bind fun bt461 => ((run_Decode.f kj13 y443).bind fun bt465 => (if t429 = true then (if bt448.2 = 2 then (if bt461.2 = 2 then (some (bt465.2 == 2)) else (none)) else (none)) else (none)))) else (none))) else (none)))) = some r := by first | (rw [hy444]; with_reducible exact H) | (have H2_ := (Option.bind_some _ _).symm.trans H; rw [hy444]; with_reducible exact H2_) | (have H2_ := (Option.bind_some _ _).symm.trans H; with_reducible exact H2_) | with_reducible exact H | (rw [hy444]; exact H) | exact H
                        have Ny444 := Aside0.mk hy444
                        clear hy444
                        replace H := Option.bind_eq_some_iff.mp H
                        obtain ⟨⟨t448, t449⟩, A270, H⟩ := H
                        replace H : ((some (([] : List Int) : List Int)).bind fun y452 => (if y452.length + t432.length < 140737488355328 then ((some (y452 ++ t432 : List Int)).bind fun y455 => (if y455.length < 140737488355328 then ((run_Decode.f kj13 (y455 ++ [a3])).bind fun bt461 => ((run_Decode.f kj13 y443).bind fun bt465 => (if t429 = true then (if t449 = 2 then (if bt461.2 = 2 then (some (bt465.2 == 2)) else (none)) else (none)) else (none)))) else (none))) else (none))) = some r := H
                        have A27 := Aside0.mk A270
                        clear A270
                        obtain ⟨y452, hy452⟩ : ∃ y_ : List Int, y_ = (([] : List Int)) := ⟨_, rfl⟩
                        replace H : (if y452.length + t432.length < 140737488355328 then ((some (y452 ++ t432 : List Int)).bind fun y455 => (if y455.length < 140737488355328 then ((run_Decode.f kj13 (y455 ++ [a3])).bind fun bt461 => ((run_Decode.f kj13 y443).bind fun bt465 => (if t429 = true then (if t449 = 2 then (if bt461.2 = 2 then (some (bt465.2 == 2)) else (none)) else (none)) else (none)))) else (none))) else (none)) = some r := by first | (rw [hy452]; with_reducible exact H) | (have H2_ := (Option.bind_some _ _).symm.trans H; rw [hy452]; with_reducible exact H2_) | (have H2_ := (Option.bind_some _ _).symm.trans H; with_reducible exact H2_) | with_reducible exact H | (rw [hy452]; exact H) | exact H
                        have Ny452 := Aside0.mk hy452
                        clear hy452
                        by_cases c28 : y452.length + t432.length < 140737488355328
                        · rw [if_pos c28] at H
                          have LMc28 := Aside0.mk c28
                          clear c28
                          obtain ⟨y455, hy455⟩ : ∃ y_ : List Int, y_ = (y452 ++ t432) := ⟨_, rfl⟩
                          replace H : (if y455.length < 140737488355328 then ((run_Decode.f kj13 (y455 ++ [a3])).bind fun bt461 => ((run_Decode.f kj13 y443).bind fun bt465 => (if t429 = true then (if t449 = 2 then (if bt461.2 = 2 then (some (bt465.2 == 2)) else (none)) else (none)) else (none)))) else (none)) = some r := by first | (rw [hy455]; with_reducible exact H) | (have H2_ := (Option.bind_some _ _).symm.trans H; rw [hy455]; with_reducible exact H2_) | (have H2_ := (Option.bind_some _ _).symm.trans H; with_reducible exact H2_) | with_reducible exact H | (rw [hy455]; exact H) | exact H
                          have Ny455 := Aside0.mk hy455
                          clear hy455
                          by_cases c29 : y455.length < 140737488355328
                          · rw [if_pos c29] at H
                            have LMc29 := Aside0.mk c29
                            clear c29
                            obtain ⟨y458, hy458⟩ : ∃ y_ : List Int, y_ = (y455 ++ [a3]) := ⟨_, rfl⟩
                            replace H : ((run_Decode.f kj13 y458).bind fun bt461 => ((run_Decode.f kj13 y443).bind fun bt465 => (if t429 = true then (if t449 = 2 then (if bt461.2 = 2 then (some (bt465.2 == 2)) else (none)) else (none)) else (none)))) = some r := by first | (rw [hy458]; with_reducible exact H) | (have H2_ := (Option.bind_some _ _).symm.trans H; rw [hy458]; with_reducible exact H2_) | (have H2_ := (Option.bind_some _ _).symm.trans H; with_reducible exact H2_) | with_reducible exact H | (rw [hy458]; exact H) | exact H
                            have Ny458 := Aside0.mk hy458
                            clear hy458
                            replace H := Option.bind_eq_some_iff.mp H
                            obtain ⟨⟨t461, t462⟩, A300, H⟩ := H
                            replace H : ((run_Decode.f kj13 y443).bind fun bt465 => (if t429 = true then (if t449 = 2 then (if t462 = 2 then (some (bt465.2 == 2)) else (none)) else (none)) else (none))) = some r := H
                            have A30 := Aside0.mk A300
                            clear A300
                            replace H := Option.bind_eq_some_iff.mp H
                            obtain ⟨⟨t465, t466⟩, A310, H⟩ := H
                            replace H : (if t429 = true then (if t449 = 2 then (if t462 = 2 then (some (t466 == 2)) else (none)) else (none)) else (none)) = some r := H
                            have A31 := Aside0.mk A310
                            clear A310
                            by_cases c32 : t429 = true
                            · subst c32
                              have H1 : (if t449 = 2 then (if t462 = 2 then (some (t466 == 2)) else (none)) else (none)) = some r := by rw [if_pos rfl] at H; exact H
                              clear H
                              have H := H1
                              clear H1
                              by_cases c33 : t449 = 2
                              · rw [if_pos c33] at H
                                have c33b0 : (t449 == 2) = true := beq_iff_eq.mpr c33
                                have c33b1 : (t449 != 2) = false := bne_eq_false_iff_eq.mpr c33
                                clear c33
                                by_cases c34 : t462 = 2
                                · rw [if_pos c34] at H
                                  have c34b0 : (t462 == 2) = true := beq_iff_eq.mpr c34
                                  have c34b1 : (t462 != 2) = false := bne_eq_false_iff_eq.mpr c34
                                  clear c34
                                  obtain rfl := Option.some.inj H
                                  obtain ⟨Ao35, co35, eo35⟩ := Kd.R_slice HO_10.out
                                  subst eo35
                                  go_wp2_with (first | ((with_reducible refine gate_dst (N := 51) rfl ?_); (try (refine gate_guard (by rfl) ?_; dsimp only)); refine Kd.R_lit (Kd.int .u8) _ 5 ?hg (N := 51) ?hd (xs := ([] : List Int)) (inner := []) (ok := fun _ => True) (okp := fun _ => True) ?hr ?hp (fun _ hk => hk) trivial (Below.refl _ _) (Nat.le_refl _) (by simp) ?_; (case hd => rfl); (case hg => rfl); (case hr => first | (go_simp; done) | (go_simp; rfl)); (case hp => exact (Reps.none _ _)); intro v437 w36 ho37 hb hg_ hnew_; clear hg_ hnew_; (first | rw [← Ny436.out] at ho37 | (simp only [Int.reduceToNat] at ho37; rw [← Ny436.out] at ho37)); have n0_ := Aside0.mk (Kd.R_elder' (by (with_reducible repeat (first | apply Kd.R_alloc | apply Kd.R_drewN | apply Kd.R_drew)); exact HO_10.out) (Kd.R_base ho37) hb); have n1_ := Aside0.mk (Kd.R_lower (Kd.R_new' ho37 (Kd.R_lt (by (with_reducible repeat (first | apply Kd.R_alloc | apply Kd.R_drewN | apply Kd.R_drew)); exact HO_10.out))) (below_size (by repeat (first | (with_reducible first | exact HB.out | apply below_alloc | apply pw_below_drewN | apply below_drew1) | exact HB.out)))); have n2_ := Aside0.mk (below_step (by repeat (first | (with_reducible first | exact HB.out | apply below_alloc | apply pw_below_drewN | apply below_drew1) | exact HB.out)) hb); clear HO_10; clear HB; have HO_10 := n0_; have HO438 := n1_; have HB := n2_; clear n0_ n1_ n2_; clear hb ho37) | ((with_reducible refine gate_builtin (b := .append) (xs := #[.tmp 51, .tmp 52]) rfl ?_); (try (refine gate_guard (by rfl) ?_; dsimp only)); at_builtin; refine Kd.R_append_rows (Kd.int .u8) (w0 := w) w.heap.size rfl (.tmp 51) (.tmp 52) 23 5 (.int .u8 0) 1 rfl Try.underlying23 info5 rfl (by decide) (by omega) v437 y436 t432 _ _ _ (fun k_ => some k_ ≠ (.slice Ao35 t432.length co35 : Value).ownBlock) (fun _ => False) rfl rfl ?aO ?aR (fun _ _ h => h) (fun _ h => h.elim) ?aF ?aB ?aS ?aL ?_; (case aR => repeat (first | exact (Kd.R_reads' HO_10.out).2.2 | (with_reducible refine Kd.C_alloc ?_ _) | (with_reducible refine Kd.C_drewN ?_ _) | (with_reducible refine Kd.C_drew ?_))); (case aB => exact (by repeat (first | (with_reducible first | exact HB.out | apply below_alloc | apply pw_below_drewN | apply below_drew1) | exact HB.out))); (case aF => exact (fun k_ hk => Kd.fresh' (Kd.R_lt (by (with_reducible repeat (first | apply Kd.R_alloc | apply Kd.R_drewN | apply Kd.R_drew)); exact HO_10.out)) k_ hk)); (case aO => exact (by (with_reducible repeat (first | apply Kd.R_alloc | apply Kd.R_drewN | apply Kd.R_drew)); exact Kd.R_mono HO438.out (fun _ hk => hk.2))); (case aS => exact (below_size (by repeat (first | (with_reducible first | exact HB.out | apply below_alloc | apply pw_below_drewN | apply below_drew1) | exact HB.out)))); (case aL => have := LMc20.out; omega); intro v440 w38 ho hb hg hat; rw [← Ny439.out] at ho; have n0_ := Aside0.mk (Kd.R_after (ok := (fun _ => True)) (by (with_reducible repeat (first | apply Kd.R_alloc | apply Kd.R_drewN | apply Kd.R_drew)); exact HO_10.out) hg hat); have n1_ := Aside0.mk (hb); have n2_ := Aside0.mk (ho); clear HO_10; clear HB; clear HO438; have HO_10 := n0_; have HB := n1_; have HO441 := n2_; clear n0_ n1_ n2_; clear ho hb hg hat; obtain ⟨Ao39, co39, eo39⟩ := Kd.R_slice HO441.out; subst eo39; have p442 : 0 ≤ ((ji21) : Int) := of_decide_eq_true (by first | (with_reducible assumption) | assumption); have q442 : (ji21) < (y439.length : Int) := of_decide_eq_true (by first | (with_reducible assumption) | assumption); obtain ⟨ad442, e442, hx442_0⟩ := Kd.at_int (Kd.R_reads' HO441.out).2.2 (ji21) p442 q442; cases e442; replace p442 := eq_true p442; replace q442 := eq_true q442; have p24 : 0 ≤ ((ji21) : Int) := of_decide_eq_true (by first | (with_reducible assumption) | assumption); have q24 : ((ji21) : Int) < ((y439.length : Int) : Int) := of_decide_eq_true (by first | (with_reducible assumption) | assumption); obtain ⟨go24, co24, eo24, gb24, gl24, cl24, HG24⟩ := Kd.R_form HO441.out (by omega); (first | cases eo24 | (injection eo24 with ea_ en_ ec_; (first | subst ea_ | (injection ea_ with ea_; subst ea_)); subst ec_; clear en_)); have GB24 := Aside0.mk gb24; have GG24 := Aside0.mk HG24; clear gb24 gl24 HG24; (first | simp only [add_plain] at hx442_0 | skip); obtain ⟨hx24_0, hf24_0⟩ := Kd.R_celln 0 HO441.out ((ji21) : Int) p24 q24; replace p24 := eq_true p24; replace q24 := eq_true q24; obtain ⟨hy40_, hz40_⟩ := Kd.R_celln 0 HO441.out ((ji21) : Int) (of_decide_eq_true (by first | (with_reducible assumption) | assumption)) (of_decide_eq_true (by first | (with_reducible assumption) | assumption)); have HP40 := Kd.R_putg HO441.out ((ji21) : Int) (Go.bits .xor .u8 (rd y439 (ji21)) (Go.bits .or .u8 a3 1))) | ((with_reducible refine gate_store (t := 5) (p := 63) rfl ?_); refine store_event (t := 5) (p := 63) (v := ?vo_w41) (w1 := (w38.setCell ⟨go24, ((ji21) : Int).toNat, none⟩ (.int .u8 (Go.bits .xor .u8 (rd y439 (ji21)) (Go.bits .or .u8 a3 1))))) ?hg ?ho ?hn ?hr ?_; (case ho => rfl); (case hg => rfl); (case hn => rfl); (case hr => first | (go_simp; done) | (go_simp; rfl)); intro w41 hw; have hg : w38.grownBy w41 (some go24) := (by rw [hw]; exact HP40.2); have hp_ : Kd.R (Kd.int .u8) 5 w41 w.heap.size (fun k_ => some k_ ≠ (.slice Ao35 t432.length co35 : Value).ownBlock) (.slice (some ⟨go24, 0, none⟩) y439.length co39) y443 := (by rw [hw, Ny443.out]; exact HP40.1); clear HP40; have n0_ := Aside0.mk (Kd.R_after (v := (.slice (some ⟨go24, 0, none⟩) y439.length co39)) (v1 := (.slice (some ⟨go24, 0, none⟩) y439.length co39)) (ok := (fun _ => True)) (by (with_reducible repeat (first | apply Kd.R_alloc | apply Kd.R_drewN | apply Kd.R_drew)); exact HO_10.out) hg (.inl rfl)); have n1_ := Aside0.mk (hp_); have n2_ := Aside0.mk ((by rw [hw]; exact below_set (HB.out) GB24.out : Below w.heap.size w w41)); clear HO_10; clear HO441; clear HB; have HO_10 := n0_; have HO441 := n1_; have HB := n2_; clear n0_ n1_ n2_; clear hg hw hp_; have q42 : ((ji21) : Int) ≤ ((t432.length : Int) : Int) := of_decide_eq_true (by first | (with_reducible assumption) | assumption); obtain ⟨i042, hi042, _, hsz42, _⟩ := info_parts info5; have hroom42 : t432.length ≤ co35 := (Kd.R_reads' HO_10.out).2.1; have hC42 : Kd.C (Kd.int .u8) _ Ao35 t432.length t432 := (Kd.R_reads' HO_10.out).2.2; have hcut42 := cut_to (P := Try.prog) 23 5 .i64 Try.underlying23 hi042 Ao35 t432.length co35 (ji21) (of_decide_eq_true (by first | (with_reducible assumption) | assumption)) q42 hroom42; have hr42 := Kd.C_take (m := ((ji21) : Int).toNat) hC42 (by omega); have hy42 : y444.length = ((ji21) : Int).toNat := (by rw [Ny444.out, List.length_take]; omega); rw [← Ny444.out] at hr42; rw [← hy42] at hcut42; have HR447 := Aside0.mk hr42; have HC447 := Aside0.mk (show y444.length ≤ co35 from by omega); clear hr42 hC42 hroom42 hi042 hsz42; have KY42 := Aside0.mk hy42; clear hy42; have KL42 := Aside0.mk (show ((ji21) : Int).toNat ≤ t432.length from by omega); replace q42 := eq_true q42) | ((with_reducible refine gate_callee (f := 13) rfl ?_); refine goesL_ (some 68) rfl rfl Try.func13 (by kernel_rfl) rfl #[.slice Ao35 y444.length co35] rfl (by (try simp only [List.map_toArray, List.map_cons, List.map_nil]); first | done | rfl | (simp only [List.length_drop, List.length_take]; rfl)) ?_; (with_reducible refine (run_Decode.calls kj13 _ _ y444 t448 t449 _ ?side1 ?side2 A27.out).mono ?_); (case side1 => repeat (first | exact (by repeat (first | (with_reducible exact HR447.out) | (with_reducible refine Kd.C_alloc ?_ _) | (with_reducible refine Kd.C_drewN ?_ _) | (with_reducible refine Kd.C_drew ?_) | exact HR447.out)) | (with_reducible refine Kd.C_alloc ?_ _) | (with_reducible refine Kd.C_drewN ?_ _) | (with_reducible refine Kd.C_drew ?_))); (case side2 => exact HC447.out); rintro e w43 ⟨v450, rfl, ho0, hb⟩; refine ⟨_, rfl, ?_⟩; have n0_ := Aside0.mk (Kd.R_below (by (with_reducible repeat (first | apply Kd.R_alloc | apply Kd.R_drewN | apply Kd.R_drew)); exact HO_10.out) hb); have n1_ := Aside0.mk (Kd.R_below (by (with_reducible repeat (first | apply Kd.R_alloc | apply Kd.R_drewN | apply Kd.R_drew)); exact HO441.out) hb); have n2_ := Aside0.mk (Kd.R_lower ho0 (below_size (by repeat (first | (with_reducible first | exact HB.out | apply below_alloc | apply pw_below_drewN | apply below_drew1) | exact HB.out)))); have n3_ := Aside0.mk (Kd.C_below (by repeat (first | (with_reducible exact HR447.out) | (with_reducible refine Kd.C_alloc ?_ _) | (with_reducible refine Kd.C_drewN ?_ _) | (with_reducible refine Kd.C_drew ?_) | exact HR447.out)) hb); have n4_ := Aside0.mk (below_step (by repeat (first | (with_reducible first | exact HB.out | apply below_alloc | apply pw_below_drewN | apply below_drew1) | exact HB.out)) hb); clear HO_10; clear HO441; clear HR447; clear HB; have HO_10 := n0_; have HO441 := n1_; have HO451 := n2_; have HR447 := n3_; have HB := n4_; clear n0_ n1_ n2_ n3_ n4_; (try clear hb); (try clear hb2); (try clear hk); (try clear hi); (try clear ho0)) | ((with_reducible refine gate_dst (N := 72) rfl ?_); (try (refine gate_guard (by rfl) ?_; dsimp only)); refine Kd.R_lit (Kd.int .u8) _ 5 ?hg (N := 72) ?hd (xs := ([] : List Int)) (inner := []) (ok := fun _ => True) (okp := fun _ => True) ?hr ?hp (fun _ hk => hk) trivial (Below.refl _ _) (Nat.le_refl _) (by simp) ?_; (case hd => rfl); (case hg => rfl); (case hr => first | (go_simp; done) | (go_simp; rfl)); (case hp => exact (Reps.none _ _)); intro v453 w44 ho45 hb hg_ hnew_; clear hg_ hnew_; (first | rw [← Ny452.out] at ho45 | (simp only [Int.reduceToNat] at ho45; rw [← Ny452.out] at ho45)); have n0_ := Aside0.mk (Kd.R_elder' (by (with_reducible repeat (first | apply Kd.R_alloc | apply Kd.R_drewN | apply Kd.R_drew)); exact HO_10.out) (Kd.R_base ho45) hb); have n1_ := Aside0.mk (Kd.R_elder' (by (with_reducible repeat (first | apply Kd.R_alloc | apply Kd.R_drewN | apply Kd.R_drew)); exact HO441.out) (Kd.R_base ho45) hb); have n2_ := Aside0.mk (Kd.R_below (by (with_reducible repeat (first | apply Kd.R_alloc | apply Kd.R_drewN | apply Kd.R_drew)); exact HO451.out) hb); have n3_ := Aside0.mk (Kd.R_lower (Kd.R_new' (Kd.R_new' ho45 (Kd.R_lt (by (with_reducible repeat (first | apply Kd.R_alloc | apply Kd.R_drewN | apply Kd.R_drew)); exact HO_10.out))) (Kd.R_lt (by (with_reducible repeat (first | apply Kd.R_alloc | apply Kd.R_drewN | apply Kd.R_drew)); exact HO441.out))) (below_size (by repeat (first | (with_reducible first | exact HB.out | apply below_alloc | apply pw_below_drewN | apply below_drew1) | exact HB.out)))); have n4_ := Aside0.mk (Kd.C_below (by repeat (first | (with_reducible exact HR447.out) | (with_reducible refine Kd.C_alloc ?_ _) | (with_reducible refine Kd.C_drewN ?_ _) | (with_reducible refine Kd.C_drew ?_) | exact HR447.out)) hb); have n5_ := Aside0.mk (below_step (by repeat (first | (with_reducible first | exact HB.out | apply below_alloc | apply pw_below_drewN | apply below_drew1) | exact HB.out)) hb); clear HO_10; clear HO441; clear HO451; clear HR447; clear HB; have HO_10 := n0_; have HO441 := n1_; have HO451 := n2_; have HO454 := n3_; have HR447 := n4_; have HB := n5_; clear n0_ n1_ n2_ n3_ n4_ n5_; clear hb ho45) | ((with_reducible refine gate_builtin (b := .append) (xs := #[.tmp 72, .tmp 73]) rfl ?_); (try (refine gate_guard (by rfl) ?_; dsimp only)); at_builtin; refine Kd.R_append_rows (Kd.int .u8) (w0 := w) w.heap.size rfl (.tmp 72) (.tmp 73) 23 5 (.int .u8 0) 1 rfl Try.underlying23 info5 rfl (by decide) (by omega) v453 y452 t432 _ _ _ (fun k_ => some k_ ≠ (.slice Ao35 t432.length co35 : Value).ownBlock ∧ some k_ ≠ (.slice (some ⟨go24, 0, none⟩) y439.length co39 : Value).ownBlock) (fun _ => False) rfl rfl ?aO ?aR (fun _ _ h => h) (fun _ h => h.elim) ?aF ?aB ?aS ?aL ?_; (case aR => repeat (first | exact (Kd.R_reads' HO_10.out).2.2 | (with_reducible refine Kd.C_alloc ?_ _) | (with_reducible refine Kd.C_drewN ?_ _) | (with_reducible refine Kd.C_drew ?_))); (case aB => exact (by repeat (first | (with_reducible first | exact HB.out | apply below_alloc | apply pw_below_drewN | apply below_drew1) | exact HB.out))); (case aF => exact (fun k_ hk => ⟨Kd.fresh' (Kd.R_lt (by (with_reducible repeat (first | apply Kd.R_alloc | apply Kd.R_drewN | apply Kd.R_drew)); exact HO_10.out)) k_ hk, Kd.fresh' (Kd.R_lt (by (with_reducible repeat (first | apply Kd.R_alloc | apply Kd.R_drewN | apply Kd.R_drew)); exact HO441.out)) k_ hk⟩)); (case aO => exact (by (with_reducible repeat (first | apply Kd.R_alloc | apply Kd.R_drewN | apply Kd.R_drew)); exact Kd.R_mono HO454.out (fun _ hk => by first | exact ⟨hk.1.2, hk.2⟩ | exact ⟨hk.1, hk.2⟩))); (case aS => exact (below_size (by repeat (first | (with_reducible first | exact HB.out | apply below_alloc | apply pw_below_drewN | apply below_drew1) | exact HB.out)))); (case aL => have := LMc28.out; omega); intro v456 w46 ho hb hg hat; rw [← Ny455.out] at ho; have n0_ := Aside0.mk (Kd.R_after (ok := (fun k_ => some k_ ≠ (.slice (some ⟨go24, 0, none⟩) y439.length co39 : Value).ownBlock)) (by (with_reducible repeat (first | apply Kd.R_alloc | apply Kd.R_drewN | apply Kd.R_drew)); exact Kd.R_mono HO_10.out (fun _ hk => by first | exact ⟨hk.1.2, hk.2⟩ | exact ⟨hk.1, hk.2⟩)) hg hat); have n1_ := Aside0.mk (Kd.R_after (ok := (fun k_ => some k_ ≠ (.slice Ao35 t432.length co35 : Value).ownBlock)) (by (with_reducible repeat (first | apply Kd.R_alloc | apply Kd.R_drewN | apply Kd.R_drew)); exact HO441.out) hg hat); have n2_ := Aside0.mk (Kd.R_over' (by (with_reducible repeat (first | apply Kd.R_alloc | apply Kd.R_drewN | apply Kd.R_drew)); exact HO451.out) (Kd.R_typed (by (with_reducible repeat (first | apply Kd.R_alloc | apply Kd.R_drewN | apply Kd.R_drew)); exact HO454.out)) (by decide) hg); have n3_ := Aside0.mk (hb); have n4_ := Aside0.mk ((show Kd.C (Kd.int .u8) w46 Ao35 y444.length y444 from by rw [Ny444.out]; exact Kd.C_take (m := ((ji21) : Int).toNat) ((Kd.R_reads' (Kd.R_after (ok := (fun k_ => some k_ ≠ (.slice (some ⟨go24, 0, none⟩) y439.length co39 : Value).ownBlock)) (by (with_reducible repeat (first | apply Kd.R_alloc | apply Kd.R_drewN | apply Kd.R_drew)); exact Kd.R_mono HO_10.out (fun _ hk => by first | exact ⟨hk.1.2, hk.2⟩ | exact ⟨hk.1, hk.2⟩)) hg hat)).2.2) KL42.out)); have n5_ := Aside0.mk (ho); clear HO_10; clear HO441; clear HO451; clear HB; clear HR447; clear HO454; have HO_10 := n0_; have HO441 := n1_; have HO451 := n2_; have HB := n3_; have HR447 := n4_; have HO457 := n5_; clear n0_ n1_ n2_ n3_ n4_ n5_; clear ho hb hg hat) | ((with_reducible refine gate_builtin (b := .append) (xs := #[.tmp 74, .tmp 76]) rfl ?_); (try (refine gate_guard (by rfl) ?_; dsimp only)); at_builtin; refine Kd.R_append (Kd.int .u8) (w0 := w) w.heap.size rfl (.tmp 74) (.tmp 76) 23 5 (.int .u8 0) 1 rfl Try.underlying23 info5 rfl (by decide) (by omega) v456 y455 a3 [.int .u8 a3] (fun k_ => some k_ ≠ (.slice Ao35 t432.length co35 : Value).ownBlock ∧ some k_ ≠ (.slice (some ⟨go24, 0, none⟩) y439.length co39 : Value).ownBlock) (fun _ => False) rfl rfl ?aP (fun _ hk => hk.elim) ?aF ?aO ?aB ?aS ?aL ?_; (case aP => exact rfl); (case aB => exact (by repeat (first | (with_reducible first | exact HB.out | apply below_alloc | apply pw_below_drewN | apply below_drew1) | exact HB.out))); (case aF => exact (fun k_ hk => ⟨Kd.fresh' (Kd.R_lt (by (with_reducible repeat (first | apply Kd.R_alloc | apply Kd.R_drewN | apply Kd.R_drew)); exact HO_10.out)) k_ hk, Kd.fresh' (Kd.R_lt (by (with_reducible repeat (first | apply Kd.R_alloc | apply Kd.R_drewN | apply Kd.R_drew)); exact HO441.out)) k_ hk⟩)); (case aO => exact (by (with_reducible repeat (first | apply Kd.R_alloc | apply Kd.R_drewN | apply Kd.R_drew)); exact HO457.out)); (case aS => exact (below_size (by repeat (first | (with_reducible first | exact HB.out | apply below_alloc | apply pw_below_drewN | apply below_drew1) | exact HB.out)))); (case aL => have := LMc29.out; omega); intro v459 w47 ho hb hg hat; rw [← Ny458.out] at ho; have n0_ := Aside0.mk (Kd.R_after (ok := (fun k_ => some k_ ≠ (.slice (some ⟨go24, 0, none⟩) y439.length co39 : Value).ownBlock)) (by (with_reducible repeat (first | apply Kd.R_alloc | apply Kd.R_drewN | apply Kd.R_drew)); exact HO_10.out) hg hat); have n1_ := Aside0.mk (Kd.R_after (ok := (fun k_ => some k_ ≠ (.slice Ao35 t432.length co35 : Value).ownBlock)) (by (with_reducible repeat (first | apply Kd.R_alloc | apply Kd.R_drewN | apply Kd.R_drew)); exact HO441.out) hg hat); have n2_ := Aside0.mk (Kd.R_over' (by (with_reducible repeat (first | apply Kd.R_alloc | apply Kd.R_drewN | apply Kd.R_drew)); exact HO451.out) (Kd.R_typed (by (with_reducible repeat (first | apply Kd.R_alloc | apply Kd.R_drewN | apply Kd.R_drew)); exact HO457.out)) (by decide) hg); have n3_ := Aside0.mk (hb); have n4_ := Aside0.mk ((show Kd.C (Kd.int .u8) w47 Ao35 y444.length y444 from by rw [Ny444.out]; exact Kd.C_take (m := ((ji21) : Int).toNat) ((Kd.R_reads' (Kd.R_after (ok := (fun k_ => some k_ ≠ (.slice (some ⟨go24, 0, none⟩) y439.length co39 : Value).ownBlock)) (by (with_reducible repeat (first | apply Kd.R_alloc | apply Kd.R_drewN | apply Kd.R_drew)); exact HO_10.out) hg hat)).2.2) KL42.out)); have n5_ := Aside0.mk (ho); clear HO_10; clear HO441; clear HO451; clear HB; clear HR447; clear HO457; have HO_10 := n0_; have HO441 := n1_; have HO451 := n2_; have HB := n3_; have HR447 := n4_; have HO460 := n5_; clear n0_ n1_ n2_ n3_ n4_ n5_; clear ho hb hg hat; obtain ⟨Ao48, co48, eo48⟩ := Kd.R_slice HO460.out; subst eo48) | ((with_reducible refine gate_callee (f := 13) rfl ?_); refine goesL_ (some 78) rfl rfl Try.func13 (by kernel_rfl) rfl #[.slice Ao48 y458.length co48] rfl (by (try simp only [List.map_toArray, List.map_cons, List.map_nil]); first | done | rfl | (simp only [List.length_drop, List.length_take]; rfl)) ?_; (with_reducible refine (run_Decode.calls kj13 _ _ y458 t461 t462 _ ?side1 ?side2 A30.out).mono ?_); (case side1 => repeat (first | exact (Kd.R_reads' HO460.out).2.2 | (with_reducible refine Kd.C_alloc ?_ _) | (with_reducible refine Kd.C_drewN ?_ _) | (with_reducible refine Kd.C_drew ?_))); (case side2 => exact (Kd.R_reads' HO460.out).2.1); rintro e w49 ⟨v463, rfl, ho0, hb⟩; refine ⟨_, rfl, ?_⟩; have n0_ := Aside0.mk (Kd.R_below (by (with_reducible repeat (first | apply Kd.R_alloc | apply Kd.R_drewN | apply Kd.R_drew)); exact HO_10.out) hb); have n1_ := Aside0.mk (Kd.R_below (by (with_reducible repeat (first | apply Kd.R_alloc | apply Kd.R_drewN | apply Kd.R_drew)); exact HO441.out) hb); have n2_ := Aside0.mk (Kd.R_elder' (by (with_reducible repeat (first | apply Kd.R_alloc | apply Kd.R_drewN | apply Kd.R_drew)); exact HO451.out) (Kd.R_base ho0) hb); have n3_ := Aside0.mk (Kd.R_below (by (with_reducible repeat (first | apply Kd.R_alloc | apply Kd.R_drewN | apply Kd.R_drew)); exact HO460.out) hb); have n4_ := Aside0.mk (Kd.R_lower (Kd.R_new' ho0 (Kd.R_lt (by (with_reducible repeat (first | apply Kd.R_alloc | apply Kd.R_drewN | apply Kd.R_drew)); exact HO451.out))) (below_size (by repeat (first | (with_reducible first | exact HB.out | apply below_alloc | apply pw_below_drewN | apply below_drew1) | exact HB.out)))); have n5_ := Aside0.mk (Kd.C_below (by repeat (first | (with_reducible exact HR447.out) | (with_reducible refine Kd.C_alloc ?_ _) | (with_reducible refine Kd.C_drewN ?_ _) | (with_reducible refine Kd.C_drew ?_) | exact HR447.out)) hb); have n6_ := Aside0.mk (below_step (by repeat (first | (with_reducible first | exact HB.out | apply below_alloc | apply pw_below_drewN | apply below_drew1) | exact HB.out)) hb); clear HO_10; clear HO441; clear HO451; clear HO460; clear HR447; clear HB; have HO_10 := n0_; have HO441 := n1_; have HO451 := n2_; have HO460 := n3_; have HO464 := n4_; have HR447 := n5_; have HB := n6_; clear n0_ n1_ n2_ n3_ n4_ n5_ n6_; (try clear hb); (try clear hb2); (try clear hk); (try clear hi); (try clear ho0)) | ((with_reducible refine gate_callee (f := 13) rfl ?_); refine goesL_ (some 83) rfl rfl Try.func13 (by kernel_rfl) rfl #[.slice (some ⟨go24, 0, none⟩) y443.length co39] rfl (by (try simp only [List.map_toArray, List.map_cons, List.map_nil]); first | done | (rw [show y443.length = y439.length from (Kd.R_reads' HO441.out).1.symm] <;> rfl) | rfl | (simp only [List.length_drop, List.length_take]; rfl)) ?_; (with_reducible refine (run_Decode.calls kj13 _ _ y443 t465 t466 _ ?side1 ?side2 A31.out).mono ?_); (case side1 => repeat (first | exact (Kd.R_reads' HO441.out).2.2 | (with_reducible refine Kd.C_alloc ?_ _) | (with_reducible refine Kd.C_drewN ?_ _) | (with_reducible refine Kd.C_drew ?_))); (case side2 => rw [show y443.length = y439.length from (Kd.R_reads' HO441.out).1.symm]; exact (Kd.R_reads' HO441.out).2.1); rintro e w50 ⟨v467, rfl, ho0, hb⟩; refine ⟨_, rfl, ?_⟩; have n0_ := Aside0.mk (Kd.R_below (by (with_reducible repeat (first | apply Kd.R_alloc | apply Kd.R_drewN | apply Kd.R_drew)); exact HO_10.out) hb); have n1_ := Aside0.mk (Kd.R_below (by (with_reducible repeat (first | apply Kd.R_alloc | apply Kd.R_drewN | apply Kd.R_drew)); exact HO441.out) hb); have n2_ := Aside0.mk (Kd.R_elder' (by (with_reducible repeat (first | apply Kd.R_alloc | apply Kd.R_drewN | apply Kd.R_drew)); exact HO451.out) (Kd.R_base ho0) hb); have n3_ := Aside0.mk (Kd.R_below (by (with_reducible repeat (first | apply Kd.R_alloc | apply Kd.R_drewN | apply Kd.R_drew)); exact HO460.out) hb); have n4_ := Aside0.mk (Kd.R_elder' (by (with_reducible repeat (first | apply Kd.R_alloc | apply Kd.R_drewN | apply Kd.R_drew)); exact HO464.out) (Kd.R_base ho0) hb); have n5_ := Aside0.mk (Kd.R_lower (Kd.R_new' (Kd.R_new' ho0 (Kd.R_lt (by (with_reducible repeat (first | apply Kd.R_alloc | apply Kd.R_drewN | apply Kd.R_drew)); exact HO451.out))) (Kd.R_lt (by (with_reducible repeat (first | apply Kd.R_alloc | apply Kd.R_drewN | apply Kd.R_drew)); exact HO464.out))) (below_size (by repeat (first | (with_reducible first | exact HB.out | apply below_alloc | apply pw_below_drewN | apply below_drew1) | exact HB.out)))); have n6_ := Aside0.mk (Kd.C_below (by repeat (first | (with_reducible exact HR447.out) | (with_reducible refine Kd.C_alloc ?_ _) | (with_reducible refine Kd.C_drewN ?_ _) | (with_reducible refine Kd.C_drew ?_) | exact HR447.out)) hb); have n7_ := Aside0.mk (below_step (by repeat (first | (with_reducible first | exact HB.out | apply below_alloc | apply pw_below_drewN | apply below_drew1) | exact HB.out)) hb); clear HO_10; clear HO441; clear HO451; clear HO460; clear HO464; clear HR447; clear HB; have HO_10 := n0_; have HO441 := n1_; have HO451 := n2_; have HO460 := n3_; have HO464 := n4_; have HO468 := n5_; have HR447 := n6_; have HB := n7_; clear n0_ n1_ n2_ n3_ n4_ n5_ n6_ n7_; (try clear hb); (try clear hb2); (try clear hk); (try clear hi); (try clear ho0)))
                                  go_ret
                                  exact ⟨by first | rfl | (simp [errW_none, errW_some] <;> rfl) | (simp only [← hji21]; first | rfl | (simp [errW_none, errW_some] <;> rfl)) | (simp [*, errW_none, errW_some] <;> rfl), by repeat (first | (with_reducible first | exact HB.out | apply below_alloc | apply pw_below_drewN | apply below_drew1) | exact HB.out)⟩
                                · rw [if_neg c34] at H
                                  exact absurd H (by simp)
                              · rw [if_neg c33] at H
                                exact absurd H (by simp)
                            · replace c32 := Bool.eq_false_iff.mpr c32
                              subst c32
                              have H1 : (none) = some r := by rw [if_neg (show ¬ (false = true) by decide)] at H; exact H
                              clear H
                              have H := H1
                              clear H1
                              exact absurd H (by simp)
                          · rw [if_neg c29] at H
                            exact absurd H (by simp)
                        · rw [if_neg c28] at H
                          exact absurd H (by simp)
                      · rw [if_neg c26] at H
                        exact absurd H (by simp)
                    · rw [if_neg c23] at H
                      exact absurd H (by simp)
                  · rw [if_neg c22] at H
                    exact absurd H (by simp)
                · rw [if_neg c20] at H
                  exact absurd H (by simp)

/-! ### manteletlaw09_RunMay: function 6 -/
def manteletlaw09_RunMay.l0 : Nat → List (S44) → Bool → Bool → Bool → Int → Option (Bool)
  | 0, _, _, _, _, _ => none
  | k + 1, x0, x3, x4, x5, x6 => if x6 < (x0.length : Int) then (if x4 = true then (if 0 ≤ x6 then (if x6 ≤ (wrap64 (x6 + 1)) then (if (wrap64 (x6 + 1)) ≤ (x0.length : Int) then ((run_May.f k ((x0.take ((wrap64 (x6 + 1)) : Int).toNat).drop (x6 : Int).toNat)).bind fun t475 => (if x5 = true then (if x6 = 0 then (manteletlaw09_RunMay.l0 k x0 x3 (t475 == 0) true (wrap64 (x6 + 1))) else (if 0 ≤ (wrap64 (x6 - 1)) then (if (wrap64 (x6 - 1)) < (x0.length : Int) then (manteletlaw09_RunMay.l0 k x0 x3 (t475 == 0) (Op.bytesLess (((rd_T44 x0 (wrap64 (x6 - 1))).f0).toList) (((rd_T44 x0 x6).f0).toList)) (wrap64 (x6 + 1))) else (none)) else (none))) else (manteletlaw09_RunMay.l0 k x0 x3 (t475 == 0) false (wrap64 (x6 + 1))))) else (none)) else (none)) else (none)) else (if x5 = true then (if x6 = 0 then (manteletlaw09_RunMay.l0 k x0 x3 false true (wrap64 (x6 + 1))) else (if 0 ≤ (wrap64 (x6 - 1)) then (if (wrap64 (x6 - 1)) < (x0.length : Int) then (if 0 ≤ x6 then (manteletlaw09_RunMay.l0 k x0 x3 false (Op.bytesLess (((rd_T44 x0 (wrap64 (x6 - 1))).f0).toList) (((rd_T44 x0 x6).f0).toList)) (wrap64 (x6 + 1))) else (none)) else (none)) else (none))) else (manteletlaw09_RunMay.l0 k x0 x3 false false (wrap64 (x6 + 1))))) else ((run_May.f k x0).bind fun t480 => (if x3 = true then (if x4 = true then (if ((t480 == 0) == x5) = true then (if ((t480 == 1) == (!x4)) = true then (some ((t480 == 9) == (!x5))) else (none)) else (none)) else (if ((t480 == 0) == false) = true then (if ((t480 == 1) == (!x4)) = true then (some ((t480 == 9) == false)) else (none)) else (none))) else (none)))
def manteletlaw09_RunMay.f (k : Nat) (l0 : List (S44)) : Option (Bool) := (manteletlaw09_shown.f k).bind fun t469 => ((manteletlaw09_few.f k l0).bind fun t470 => (if t470 = true then (manteletlaw09_RunMay.l0 k l0 t469 true true 0) else (some t469)))
theorem manteletlaw09_RunMay.mono_l : ∀ k, (∀ y0 y1 y2 y3 y4, LeO (manteletlaw09_RunMay.l0 k y0 y1 y2 y3 y4) (manteletlaw09_RunMay.l0 (k + 1) y0 y1 y2 y3 y4))
  | 0 => fun _ _ _ _ _ r h => by simp [manteletlaw09_RunMay.l0] at h
  | k + 1 => by
    have ih0 := manteletlaw09_RunMay.mono_l k
    · intro y0 y1 y2 y3 y4
      unfold manteletlaw09_RunMay.l0
      repeat' first
      | (with_reducible exact ih0 _ _ _ _ _)
      | (with_reducible exact manteletlaw09_few.mono _ _)
      | (with_reducible exact manteletlaw09_shown.mono _)
      | (with_reducible exact run_May.mono _ _)
      | (with_reducible exact LeO.refl _)
      | (with_reducible exact LeO.none _)
      | (with_reducible refine LeO.ite ?_ ?_)
      | (with_reducible refine LeO.bind ?_ (fun _ => ?_))
      | exact ih0 _ _ _ _ _
      | exact manteletlaw09_few.mono _ _
      | exact manteletlaw09_shown.mono _
      | exact run_May.mono _ _
      | exact LeO.none _
      | refine LeO.ite ?_ ?_
      | refine LeO.bind ?_ (fun _ => ?_)
theorem manteletlaw09_RunMay.mono : ∀ a0 k, LeO (manteletlaw09_RunMay.f k a0) (manteletlaw09_RunMay.f (k + 1) a0) := by
  intro a0 k
  have ih0 := manteletlaw09_RunMay.mono_l k
  unfold manteletlaw09_RunMay.f
  repeat' first
      | (with_reducible exact ih0 _ _ _ _ _)
      | (with_reducible exact manteletlaw09_few.mono _ _)
      | (with_reducible exact manteletlaw09_shown.mono _)
      | (with_reducible exact run_May.mono _ _)
      | (with_reducible exact LeO.refl _)
      | (with_reducible exact LeO.none _)
      | (with_reducible refine LeO.ite ?_ ?_)
      | (with_reducible refine LeO.bind ?_ (fun _ => ?_))
      | exact ih0 _ _ _ _ _
      | exact manteletlaw09_few.mono _ _
      | exact manteletlaw09_shown.mono _
      | exact run_May.mono _ _
      | exact LeO.none _
      | refine LeO.ite ?_ ?_
      | refine LeO.bind ?_ (fun _ => ?_)
set_option maxHeartbeats 8000000 in
set_option maxRecDepth 100000 in
theorem manteletlaw09_RunMay.calls (k : Nat) (A0 : Option Addr) (c0 : Nat) (l0 : List (S44)) (r : Bool) (w : World) (hr0 : Kd.C k44 w A0 l0.length l0) (hc0 : l0.length ≤ c0) (h : manteletlaw09_RunMay.f k l0 = some r) :
    Calls Try.prog 6 #[.slice A0 l0.length c0] w fun e w' => e = .returned (.bool r) ∧ Below w.heap.size w w' := by
  have HR0 := Aside0.mk hr0
  have HC0 := Aside0.mk hc0
  clear hr0 hc0
  have HB := Aside0.mk (Below.refl w.heap.size w)
  have H : ((manteletlaw09_shown.f k).bind fun t469 => ((manteletlaw09_few.f k l0).bind fun t470 => (if t470 = true then (manteletlaw09_RunMay.l0 k l0 t469 true true 0) else (some t469)))) = some r := h
  clear h
  replace H := Option.bind_eq_some_iff.mp H
  obtain ⟨t469, A20, H⟩ := H
  replace H : ((manteletlaw09_few.f k l0).bind fun t470 => (if t470 = true then (manteletlaw09_RunMay.l0 k l0 t469 true true 0) else (some t469))) = some r := H
  have A2 := Aside0.mk A20
  clear A20
  replace H := Option.bind_eq_some_iff.mp H
  obtain ⟨t470, A30, H⟩ := H
  replace H : (if t470 = true then (manteletlaw09_RunMay.l0 k l0 t469 true true 0) else (some t469)) = some r := H
  have A3 := Aside0.mk A30
  clear A30
  by_cases c4 : t470 = true
  · subst c4
    have H1 : (manteletlaw09_RunMay.l0 k l0 t469 true true 0) = some r := by rw [if_pos rfl] at H; exact H
    clear H
    have H := H1
    clear H1
    have H' := Aside0.mk H
    clear H
    go_enter Try.func6, Try.ntmps6
    go_wp2_with (first | (go_at_call 9; (with_reducible refine (manteletlaw09_shown.calls k  t469 _ A2.out).mono ?_); rintro e w5 ⟨rfl, hb⟩; have n0_ := Aside0.mk (below_step (by repeat (first | (with_reducible first | exact HB.out | apply below_alloc | apply pw_below_drewN | apply below_drew1) | exact HB.out)) hb); clear HB; have HB := n0_; clear n0_; (try clear hb); (try clear hb2); (try clear hk); (try clear hi)) | (go_at_call 10; (with_reducible refine (manteletlaw09_few.calls k _ _ l0 true _ ?side1 ?side2 A3.out).mono ?_); (case side1 => repeat (first | exact (Kd.C_below HR0.out HB.out) | (with_reducible refine Kd.C_alloc ?_ _) | (with_reducible refine Kd.C_drewN ?_ _) | (with_reducible refine Kd.C_drew ?_))); (case side2 => exact HC0.out); rintro e w' ⟨rfl, ⟨nd, rfl⟩⟩; (try first | exact ⟨rfl, _, World.drewN_drewN _ _ _⟩ | exact ⟨rfl, _, Eq.trans (World.drewN_drewN _ _ _) (congrArg (World.drewN _) (Nat.add_assoc _ _ _))⟩)))
    repeat (go_quiet (first | (go_at_call 9; (with_reducible refine (manteletlaw09_shown.calls k  t469 _ A2.out).mono ?_); rintro e w5 ⟨rfl, hb⟩; have n0_ := Aside0.mk (below_step (by repeat (first | (with_reducible first | exact HB.out | apply below_alloc | apply pw_below_drewN | apply below_drew1) | exact HB.out)) hb); clear HB; have HB := n0_; clear n0_; (try clear hb); (try clear hb2); (try clear hk); (try clear hi)) | (go_at_call 10; (with_reducible refine (manteletlaw09_few.calls k _ _ l0 true _ ?side1 ?side2 A3.out).mono ?_); (case side1 => repeat (first | exact (Kd.C_below HR0.out HB.out) | (with_reducible refine Kd.C_alloc ?_ _) | (with_reducible refine Kd.C_drewN ?_ _) | (with_reducible refine Kd.C_drew ?_))); (case side2 => exact HC0.out); rintro e w' ⟨rfl, ⟨nd, rfl⟩⟩; (try first | exact ⟨rfl, _, World.drewN_drewN _ _ _⟩ | exact ⟨rfl, _, Eq.trans (World.drewN_drewN _ _ _) (congrArg (World.drewN _) (Nat.add_assoc _ _ _))⟩))); try go_wp2_with (first | (go_at_call 9; (with_reducible refine (manteletlaw09_shown.calls k  t469 _ A2.out).mono ?_); rintro e w5 ⟨rfl, hb⟩; have n0_ := Aside0.mk (below_step (by repeat (first | (with_reducible first | exact HB.out | apply below_alloc | apply pw_below_drewN | apply below_drew1) | exact HB.out)) hb); clear HB; have HB := n0_; clear n0_; (try clear hb); (try clear hb2); (try clear hk); (try clear hi)) | (go_at_call 10; (with_reducible refine (manteletlaw09_few.calls k _ _ l0 true _ ?side1 ?side2 A3.out).mono ?_); (case side1 => repeat (first | exact (Kd.C_below HR0.out HB.out) | (with_reducible refine Kd.C_alloc ?_ _) | (with_reducible refine Kd.C_drewN ?_ _) | (with_reducible refine Kd.C_drew ?_))); (case side2 => exact HC0.out); rintro e w' ⟨rfl, ⟨nd, rfl⟩⟩; (try first | exact ⟨rfl, _, World.drewN_drewN _ _ _⟩ | exact ⟨rfl, _, Eq.trans (World.drewN_drewN _ _ _) (congrArg (World.drewN _) (Nat.add_assoc _ _ _))⟩))))
    go_loopg [4, 5, 6] k (fun kq v4 v5 v6 w' => ∃ (x4_1 : Bool) (x5_1 : Bool) (x6_1 : Int), v4 = .bool x4_1 ∧ v5 = .bool x5_1 ∧ v6 = .int .i64 x6_1 ∧ Aside0 (manteletlaw09_RunMay.l0 kq l0 t469 x4_1 x5_1 x6_1 = some r) ∧ Aside0 (kq ≤ k) ∧ Aside0 (Below w.heap.size w w'))
    case atStart => exact ⟨(true), (true), (0), (by first | rfl | (simp; done) | (simp [*]; done)), (by first | rfl | (simp; done) | (simp [*]; done)), (by first | rfl | (simp; done) | (simp [*]; done)), H', ⟨Nat.le_refl _⟩, ⟨by repeat (first | (with_reducible first | exact HB.out | apply below_alloc | apply pw_below_drewN | apply below_drew1) | exact HB.out)⟩⟩
    case round =>
      clear H'
      try clear p2
      try clear c4
      obtain ⟨x4_1, x5_1, x6_1, rfl, rfl, rfl, HA, HK1, HB⟩ := hrel
      cases gk with
      | zero => exact absurd HA.out (by simp [manteletlaw09_RunMay.l0])
      | succ k1 =>
        have H := HA.out
        clear HA
        simp only [manteletlaw09_RunMay.l0] at H
        by_cases c6 : x6_1 < (l0.length : Int)
        · rw [if_pos c6] at H
          have c6b0 : decide (x6_1 < (l0.length : Int)) = true := decide_eq_true c6
          clear c6
          by_cases c7 : x4_1 = true
          · subst c7
            have H1 : (if 0 ≤ x6_1 then (if x6_1 ≤ (wrap64 (x6_1 + 1)) then (if (wrap64 (x6_1 + 1)) ≤ (l0.length : Int) then ((run_May.f k1 ((l0.take ((wrap64 (x6_1 + 1)) : Int).toNat).drop (x6_1 : Int).toNat)).bind fun t475 => (if x5_1 = true then (if x6_1 = 0 then (manteletlaw09_RunMay.l0 k1 l0 t469 (t475 == 0) true (wrap64 (x6_1 + 1))) else (if 0 ≤ (wrap64 (x6_1 - 1)) then (if (wrap64 (x6_1 - 1)) < (l0.length : Int) then (manteletlaw09_RunMay.l0 k1 l0 t469 (t475 == 0) (Op.bytesLess (((rd_T44 l0 (wrap64 (x6_1 - 1))).f0).toList) (((rd_T44 l0 x6_1).f0).toList)) (wrap64 (x6_1 + 1))) else (none)) else (none))) else (manteletlaw09_RunMay.l0 k1 l0 t469 (t475 == 0) false (wrap64 (x6_1 + 1))))) else (none)) else (none)) else (none)) = some r := by rw [if_pos rfl] at H; exact H
            clear H
            have H := H1
            clear H1
            by_cases c8 : 0 ≤ x6_1
            · rw [if_pos c8] at H
              have c8b0 := eq_true c8
              have c8b1 : decide (0 ≤ x6_1) = true := decide_eq_true c8
              clear c8
              by_cases c9 : x6_1 ≤ (wrap64 (x6_1 + 1))
              · rw [if_pos c9] at H
                have c9b0 := eq_true c9
                have c9b1 : decide (x6_1 ≤ (wrap64 (x6_1 + 1))) = true := decide_eq_true c9
                by_cases c10 : (wrap64 (x6_1 + 1)) ≤ (l0.length : Int)
                · rw [if_pos c10] at H
                  have c10b0 := eq_true c10
                  have c10b1 : decide ((wrap64 (x6_1 + 1)) ≤ (l0.length : Int)) = true := decide_eq_true c10
                  obtain ⟨y471, hy471⟩ : ∃ y_ : List (S44), y_ = ((l0.take ((wrap64 (x6_1 + 1)) : Int).toNat).drop (x6_1 : Int).toNat) := ⟨_, rfl⟩
                  replace H : ((run_May.f k1 y471).bind fun t475 => (if x5_1 = true then (if x6_1 = 0 then (manteletlaw09_RunMay.l0 k1 l0 t469 (t475 == 0) true (wrap64 (x6_1 + 1))) else (if 0 ≤ (wrap64 (x6_1 - 1)) then (if (wrap64 (x6_1 - 1)) < (l0.length : Int) then (manteletlaw09_RunMay.l0 k1 l0 t469 (t475 == 0) (Op.bytesLess (((rd_T44 l0 (wrap64 (x6_1 - 1))).f0).toList) (((rd_T44 l0 x6_1).f0).toList)) (wrap64 (x6_1 + 1))) else (none)) else (none))) else (manteletlaw09_RunMay.l0 k1 l0 t469 (t475 == 0) false (wrap64 (x6_1 + 1))))) = some r := by first | (rw [hy471]; with_reducible exact H) | (have H2_ := (Option.bind_some _ _).symm.trans H; rw [hy471]; with_reducible exact H2_) | (have H2_ := (Option.bind_some _ _).symm.trans H; with_reducible exact H2_) | with_reducible exact H | (rw [hy471]; exact H) | exact H
                  have Ny471 := Aside0.mk hy471
                  clear hy471
                  replace H := Option.bind_eq_some_iff.mp H
                  obtain ⟨t475, A110, H⟩ := H
                  replace H : (if x5_1 = true then (if x6_1 = 0 then (manteletlaw09_RunMay.l0 k1 l0 t469 (t475 == 0) true (wrap64 (x6_1 + 1))) else (if 0 ≤ (wrap64 (x6_1 - 1)) then (if (wrap64 (x6_1 - 1)) < (l0.length : Int) then (manteletlaw09_RunMay.l0 k1 l0 t469 (t475 == 0) (Op.bytesLess (((rd_T44 l0 (wrap64 (x6_1 - 1))).f0).toList) (((rd_T44 l0 x6_1).f0).toList)) (wrap64 (x6_1 + 1))) else (none)) else (none))) else (manteletlaw09_RunMay.l0 k1 l0 t469 (t475 == 0) false (wrap64 (x6_1 + 1)))) = some r := H
                  have A11 := Aside0.mk A110
                  clear A110
                  by_cases c12 : x5_1 = true
                  · subst c12
                    have H1 : (if x6_1 = 0 then (manteletlaw09_RunMay.l0 k1 l0 t469 (t475 == 0) true (wrap64 (x6_1 + 1))) else (if 0 ≤ (wrap64 (x6_1 - 1)) then (if (wrap64 (x6_1 - 1)) < (l0.length : Int) then (manteletlaw09_RunMay.l0 k1 l0 t469 (t475 == 0) (Op.bytesLess (((rd_T44 l0 (wrap64 (x6_1 - 1))).f0).toList) (((rd_T44 l0 x6_1).f0).toList)) (wrap64 (x6_1 + 1))) else (none)) else (none))) = some r := by rw [if_pos rfl] at H; exact H
                    clear H
                    have H := H1
                    clear H1
                    by_cases c13 : x6_1 = 0
                    · rw [if_pos c13] at H
                      have c13b0 : (x6_1 == 0) = true := beq_iff_eq.mpr c13
                      have c13b1 : (x6_1 != 0) = false := bne_eq_false_iff_eq.mpr c13
                      clear c13
                      have H' := Aside0.mk H
                      clear H
                      have q14 : ((wrap64 (x6_1 + 1)) : Int) ≤ ((l0.length : Int) : Int) := of_decide_eq_true (by first | (with_reducible assumption) | assumption)
                      obtain ⟨i014, hi014, _, hsz14, _⟩ := info_parts info44
                      have hroom14 : l0.length ≤ c0 := HC0.out
                      have hC14 : Kd.C k44 _ A0 l0.length l0 := HR0.out
                      have ql14 : (x6_1 : Int) ≤ ((wrap64 (x6_1 + 1)) : Int) := of_decide_eq_true (by first | (with_reducible assumption) | assumption)
                      have q014 : (0 : Int) ≤ (x6_1 : Int) := of_decide_eq_true (by first | (with_reducible assumption) | assumption)
                      have hcut14 := cut_mid (P := Try.prog) 22 44 .i64 .i64 Try.underlying22 hi014 2 hsz14 A0 l0.length c0 x6_1 (wrap64 (x6_1 + 1)) q014 ql14 q14 hroom14
                      have hr14 := Kd.C_mid (lo := (x6_1 : Int).toNat) (hi := ((wrap64 (x6_1 + 1)) : Int).toNat) (c := c0) hC14 (by omega) (by omega) hroom14
                      obtain ⟨A14, hA14⟩ : ∃ A1, A1 = (if c0 = (x6_1 : Int).toNat then A0 else (A0 : Option Addr).map (·.add ((x6_1 : Int).toNat * 2))) := ⟨_, rfl⟩
                      obtain ⟨c14, hc14⟩ : ∃ c1, c1 = c0 - (x6_1 : Int).toNat := ⟨_, rfl⟩
                      have hy14 : y471.length = ((wrap64 (x6_1 + 1)) : Int).toNat - (x6_1 : Int).toNat := (by rw [Ny471.out, List.length_drop, List.length_take] <;> omega)
                      rw [show ((l0).take ((wrap64 (x6_1 + 1)) : Int).toNat).drop (x6_1 : Int).toNat = y471 from Ny471.out.symm] at hr14
                      replace hr14 : Kd.C k44 _ A14 y471.length y471 := (by rw [hA14]; exact hr14)
                      rw [← hy14, ← hA14, ← hc14] at hcut14
                      have HR474 := Aside0.mk hr14
                      have HC474 := Aside0.mk (show y471.length ≤ c14 from by rw [hy14, hc14]; exact Nat.sub_le_sub_right (Nat.le_trans (by omega) hroom14) _)
                      clear hr14 hC14 hroom14 hi014 hsz14 hc14
                      have KY14 := Aside0.mk hy14
                      have KA14 := Aside0.mk hA14
                      clear hy14 hA14
                      replace q14 := eq_true q14
                      go_wp2_with (first | (go_at_call 15; (with_reducible refine (run_May.calls k1 _ _ y471 t475 _ ?side1 ?side2 A11.out).mono ?_); (case side1 => repeat (first | exact (Kd.C_below HR474.out HB.out) | (with_reducible refine Kd.C_alloc ?_ _) | (with_reducible refine Kd.C_drewN ?_ _) | (with_reducible refine Kd.C_drew ?_))); (case side2 => exact HC474.out); rintro e w15 ⟨rfl, hb⟩; have n0_ := Aside0.mk (below_step (by repeat (first | (with_reducible first | exact HB.out | apply below_alloc | apply pw_below_drewN | apply below_drew1) | exact HB.out)) hb); clear HB; have HB := n0_; clear n0_; (try clear hb); (try clear hb2); (try clear hk); (try clear hi)))
                      repeat (go_quiet (first | (go_at_call 15; (with_reducible refine (run_May.calls k1 _ _ y471 t475 _ ?side1 ?side2 A11.out).mono ?_); (case side1 => repeat (first | exact (Kd.C_below HR474.out HB.out) | (with_reducible refine Kd.C_alloc ?_ _) | (with_reducible refine Kd.C_drewN ?_ _) | (with_reducible refine Kd.C_drew ?_))); (case side2 => exact HC474.out); rintro e w15 ⟨rfl, hb⟩; have n0_ := Aside0.mk (below_step (by repeat (first | (with_reducible first | exact HB.out | apply below_alloc | apply pw_below_drewN | apply below_drew1) | exact HB.out)) hb); clear HB; have HB := n0_; clear n0_; (try clear hb); (try clear hb2); (try clear hk); (try clear hi))); try go_wp2_with (first | (go_at_call 15; (with_reducible refine (run_May.calls k1 _ _ y471 t475 _ ?side1 ?side2 A11.out).mono ?_); (case side1 => repeat (first | exact (Kd.C_below HR474.out HB.out) | (with_reducible refine Kd.C_alloc ?_ _) | (with_reducible refine Kd.C_drewN ?_ _) | (with_reducible refine Kd.C_drew ?_))); (case side2 => exact HC474.out); rintro e w15 ⟨rfl, hb⟩; have n0_ := Aside0.mk (below_step (by repeat (first | (with_reducible first | exact HB.out | apply below_alloc | apply pw_below_drewN | apply below_drew1) | exact HB.out)) hb); clear HB; have HB := n0_; clear n0_; (try clear hb); (try clear hb2); (try clear hk); (try clear hi))))
                      go_roundg k1
                      case measure => have := HK1.out; omega
                      case rel => exact ⟨((t475 == 0)), (true), (wrap64 (x6_1 + 1)), (by first | rfl | (simp; done) | (simp [*]; done)), (by first | rfl | (simp; done) | (simp [*]; done)), (by first | rfl | (simp; done) | (simp [*]; done)), H', ⟨by have := HK1.out; omega⟩, ⟨by repeat (first | (with_reducible first | exact HB.out | apply below_alloc | apply pw_below_drewN | apply below_drew1) | exact HB.out)⟩⟩
                    · rw [if_neg c13] at H
                      have c13b0 : (x6_1 == 0) = false := beq_eq_false_iff_ne.mpr c13
                      have c13b1 : (x6_1 != 0) = true := bne_iff_ne.mpr c13
                      obtain ⟨ji16, hji16⟩ : ∃ j_ : Int, (wrap64 (x6_1 - 1)) = j_ := ⟨_, rfl⟩
                      replace H : (if 0 ≤ (ji16) then (if (ji16) < (l0.length : Int) then (manteletlaw09_RunMay.l0 k1 l0 t469 (t475 == 0) (Op.bytesLess (((rd_T44 l0 (ji16)).f0).toList) (((rd_T44 l0 x6_1).f0).toList)) (wrap64 (x6_1 + 1))) else (none)) else (none)) = some r := by first | (rw [hji16] at H; exact H) | (simp only [hji16] at H ⊢; exact H)
                      (try rw [hji16] at A11)
                      have hji16w : (IntKind.i64.wrap (x6_1 - 1)) = ji16 := (i64_w _).trans hji16
                      by_cases c17 : 0 ≤ (ji16)
                      · rw [if_pos c17] at H
                        have c17b0 : decide (0 ≤ (ji16)) = true := decide_eq_true c17
                        clear c17
                        by_cases c18 : (ji16) < (l0.length : Int)
                        · rw [if_pos c18] at H
                          have c18b0 : decide ((ji16) < (l0.length : Int)) = true := decide_eq_true c18
                          clear c18
                          have H' := Aside0.mk H
                          clear H
                          have q19 : ((wrap64 (x6_1 + 1)) : Int) ≤ ((l0.length : Int) : Int) := of_decide_eq_true (by first | (with_reducible assumption) | assumption)
                          obtain ⟨i019, hi019, _, hsz19, _⟩ := info_parts info44
                          have hroom19 : l0.length ≤ c0 := HC0.out
                          have hC19 : Kd.C k44 _ A0 l0.length l0 := HR0.out
                          have ql19 : (x6_1 : Int) ≤ ((wrap64 (x6_1 + 1)) : Int) := of_decide_eq_true (by first | (with_reducible assumption) | assumption)
                          have q019 : (0 : Int) ≤ (x6_1 : Int) := of_decide_eq_true (by first | (with_reducible assumption) | assumption)
                          have hcut19 := cut_mid (P := Try.prog) 22 44 .i64 .i64 Try.underlying22 hi019 2 hsz19 A0 l0.length c0 x6_1 (wrap64 (x6_1 + 1)) q019 ql19 q19 hroom19
                          have hr19 := Kd.C_mid (lo := (x6_1 : Int).toNat) (hi := ((wrap64 (x6_1 + 1)) : Int).toNat) (c := c0) hC19 (by omega) (by omega) hroom19
                          obtain ⟨A19, hA19⟩ : ∃ A1, A1 = (if c0 = (x6_1 : Int).toNat then A0 else (A0 : Option Addr).map (·.add ((x6_1 : Int).toNat * 2))) := ⟨_, rfl⟩
                          obtain ⟨c19, hc19⟩ : ∃ c1, c1 = c0 - (x6_1 : Int).toNat := ⟨_, rfl⟩
                          have hy19 : y471.length = ((wrap64 (x6_1 + 1)) : Int).toNat - (x6_1 : Int).toNat := (by rw [Ny471.out, List.length_drop, List.length_take] <;> omega)
                          rw [show ((l0).take ((wrap64 (x6_1 + 1)) : Int).toNat).drop (x6_1 : Int).toNat = y471 from Ny471.out.symm] at hr19
                          replace hr19 : Kd.C k44 _ A19 y471.length y471 := (by rw [hA19]; exact hr19)
                          rw [← hy19, ← hA19, ← hc19] at hcut19
                          have HR474 := Aside0.mk hr19
                          have HC474 := Aside0.mk (show y471.length ≤ c19 from by rw [hy19, hc19]; exact Nat.sub_le_sub_right (Nat.le_trans (by omega) hroom19) _)
                          clear hr19 hC19 hroom19 hi019 hsz19 hc19
                          have KY19 := Aside0.mk hy19
                          have KA19 := Aside0.mk hA19
                          clear hy19 hA19
                          replace q19 := eq_true q19
                          go_wp2_with (first | (go_at_call 15; (with_reducible refine (run_May.calls k1 _ _ y471 t475 _ ?side1 ?side2 A11.out).mono ?_); (case side1 => repeat (first | exact (Kd.C_below HR474.out HB.out) | (with_reducible refine Kd.C_alloc ?_ _) | (with_reducible refine Kd.C_drewN ?_ _) | (with_reducible refine Kd.C_drew ?_))); (case side2 => exact HC474.out); rintro e w20 ⟨rfl, hb⟩; have n0_ := Aside0.mk (below_step (by repeat (first | (with_reducible first | exact HB.out | apply below_alloc | apply pw_below_drewN | apply below_drew1) | exact HB.out)) hb); clear HB; have HB := n0_; clear n0_; (try clear hb); (try clear hb2); (try clear hk); (try clear hi); have p476 : 0 ≤ ((ji16) : Int) := of_decide_eq_true (by first | (with_reducible assumption) | assumption); have q476 : (ji16) < (l0.length : Int) := of_decide_eq_true (by first | (with_reducible assumption) | assumption); obtain ⟨ad476, e476, hx476_0, hx476_1⟩ := at_T44 HR0.out (ji16) p476 q476; cases e476; replace hx476_0 := (HB.out.cell (World.block_lt_of_cell? w _ hx476_0)).trans hx476_0; replace hx476_1 := (HB.out.cell (World.block_lt_of_cell? w _ hx476_1)).trans hx476_1; replace p476 := eq_true p476; replace q476 := eq_true q476; have p477 : 0 ≤ (x6_1 : Int) := of_decide_eq_true (by first | (with_reducible assumption) | assumption); have q477 : x6_1 < (l0.length : Int) := of_decide_eq_true (by first | (with_reducible assumption) | assumption); obtain ⟨ad477, e477, hx477_0, hx477_1⟩ := at_T44 HR0.out x6_1 p477 q477; obtain rfl : ad476 = ad477 := (by injection e477); replace hx477_0 := (HB.out.cell (World.block_lt_of_cell? w _ hx477_0)).trans hx477_0; replace hx477_1 := (HB.out.cell (World.block_lt_of_cell? w _ hx477_1)).trans hx477_1; replace p477 := eq_true p477; replace q477 := eq_true q477))
                          repeat (go_quiet (first | (go_at_call 15; (with_reducible refine (run_May.calls k1 _ _ y471 t475 _ ?side1 ?side2 A11.out).mono ?_); (case side1 => repeat (first | exact (Kd.C_below HR474.out HB.out) | (with_reducible refine Kd.C_alloc ?_ _) | (with_reducible refine Kd.C_drewN ?_ _) | (with_reducible refine Kd.C_drew ?_))); (case side2 => exact HC474.out); rintro e w20 ⟨rfl, hb⟩; have n0_ := Aside0.mk (below_step (by repeat (first | (with_reducible first | exact HB.out | apply below_alloc | apply pw_below_drewN | apply below_drew1) | exact HB.out)) hb); clear HB; have HB := n0_; clear n0_; (try clear hb); (try clear hb2); (try clear hk); (try clear hi); have p476 : 0 ≤ ((ji16) : Int) := of_decide_eq_true (by first | (with_reducible assumption) | assumption); have q476 : (ji16) < (l0.length : Int) := of_decide_eq_true (by first | (with_reducible assumption) | assumption); obtain ⟨ad476, e476, hx476_0, hx476_1⟩ := at_T44 HR0.out (ji16) p476 q476; cases e476; replace hx476_0 := (HB.out.cell (World.block_lt_of_cell? w _ hx476_0)).trans hx476_0; replace hx476_1 := (HB.out.cell (World.block_lt_of_cell? w _ hx476_1)).trans hx476_1; replace p476 := eq_true p476; replace q476 := eq_true q476; have p477 : 0 ≤ (x6_1 : Int) := of_decide_eq_true (by first | (with_reducible assumption) | assumption); have q477 : x6_1 < (l0.length : Int) := of_decide_eq_true (by first | (with_reducible assumption) | assumption); obtain ⟨ad477, e477, hx477_0, hx477_1⟩ := at_T44 HR0.out x6_1 p477 q477; obtain rfl : ad476 = ad477 := (by injection e477); replace hx477_0 := (HB.out.cell (World.block_lt_of_cell? w _ hx477_0)).trans hx477_0; replace hx477_1 := (HB.out.cell (World.block_lt_of_cell? w _ hx477_1)).trans hx477_1; replace p477 := eq_true p477; replace q477 := eq_true q477)); try go_wp2_with (first | (go_at_call 15; (with_reducible refine (run_May.calls k1 _ _ y471 t475 _ ?side1 ?side2 A11.out).mono ?_); (case side1 => repeat (first | exact (Kd.C_below HR474.out HB.out) | (with_reducible refine Kd.C_alloc ?_ _) | (with_reducible refine Kd.C_drewN ?_ _) | (with_reducible refine Kd.C_drew ?_))); (case side2 => exact HC474.out); rintro e w20 ⟨rfl, hb⟩; have n0_ := Aside0.mk (below_step (by repeat (first | (with_reducible first | exact HB.out | apply below_alloc | apply pw_below_drewN | apply below_drew1) | exact HB.out)) hb); clear HB; have HB := n0_; clear n0_; (try clear hb); (try clear hb2); (try clear hk); (try clear hi); have p476 : 0 ≤ ((ji16) : Int) := of_decide_eq_true (by first | (with_reducible assumption) | assumption); have q476 : (ji16) < (l0.length : Int) := of_decide_eq_true (by first | (with_reducible assumption) | assumption); obtain ⟨ad476, e476, hx476_0, hx476_1⟩ := at_T44 HR0.out (ji16) p476 q476; cases e476; replace hx476_0 := (HB.out.cell (World.block_lt_of_cell? w _ hx476_0)).trans hx476_0; replace hx476_1 := (HB.out.cell (World.block_lt_of_cell? w _ hx476_1)).trans hx476_1; replace p476 := eq_true p476; replace q476 := eq_true q476; have p477 : 0 ≤ (x6_1 : Int) := of_decide_eq_true (by first | (with_reducible assumption) | assumption); have q477 : x6_1 < (l0.length : Int) := of_decide_eq_true (by first | (with_reducible assumption) | assumption); obtain ⟨ad477, e477, hx477_0, hx477_1⟩ := at_T44 HR0.out x6_1 p477 q477; obtain rfl : ad476 = ad477 := (by injection e477); replace hx477_0 := (HB.out.cell (World.block_lt_of_cell? w _ hx477_0)).trans hx477_0; replace hx477_1 := (HB.out.cell (World.block_lt_of_cell? w _ hx477_1)).trans hx477_1; replace p477 := eq_true p477; replace q477 := eq_true q477)))
                          go_roundg k1
                          case measure => have := HK1.out; omega
                          case rel => exact ⟨((t475 == 0)), ((Op.bytesLess (((rd_T44 l0 (ji16)).f0).toList) (((rd_T44 l0 x6_1).f0).toList))), (wrap64 (x6_1 + 1)), (by first | rfl | (simp; done) | (simp [*]; done)), (by first | rfl | (simp; done) | (simp only [← hji16] <;> (first | rfl | simp)) | (simp [*]; done)), (by first | rfl | (simp; done) | (simp [*]; done)), H', ⟨by have := HK1.out; omega⟩, ⟨by repeat (first | (with_reducible first | exact HB.out | apply below_alloc | apply pw_below_drewN | apply below_drew1) | exact HB.out)⟩⟩
                        · rw [if_neg c18] at H
                          exact absurd H (by simp)
                      · rw [if_neg c17] at H
                        exact absurd H (by simp)
                  · replace c12 := Bool.eq_false_iff.mpr c12
                    subst c12
                    have H1 : (manteletlaw09_RunMay.l0 k1 l0 t469 (t475 == 0) false (wrap64 (x6_1 + 1))) = some r := by rw [if_neg (show ¬ (false = true) by decide)] at H; exact H
                    clear H
                    have H := H1
                    clear H1
                    have H' := Aside0.mk H
                    clear H
                    have q21 : ((wrap64 (x6_1 + 1)) : Int) ≤ ((l0.length : Int) : Int) := of_decide_eq_true (by first | (with_reducible assumption) | assumption)
                    obtain ⟨i021, hi021, _, hsz21, _⟩ := info_parts info44
                    have hroom21 : l0.length ≤ c0 := HC0.out
                    have hC21 : Kd.C k44 _ A0 l0.length l0 := HR0.out
                    have ql21 : (x6_1 : Int) ≤ ((wrap64 (x6_1 + 1)) : Int) := of_decide_eq_true (by first | (with_reducible assumption) | assumption)
                    have q021 : (0 : Int) ≤ (x6_1 : Int) := of_decide_eq_true (by first | (with_reducible assumption) | assumption)
                    have hcut21 := cut_mid (P := Try.prog) 22 44 .i64 .i64 Try.underlying22 hi021 2 hsz21 A0 l0.length c0 x6_1 (wrap64 (x6_1 + 1)) q021 ql21 q21 hroom21
                    have hr21 := Kd.C_mid (lo := (x6_1 : Int).toNat) (hi := ((wrap64 (x6_1 + 1)) : Int).toNat) (c := c0) hC21 (by omega) (by omega) hroom21
                    obtain ⟨A21, hA21⟩ : ∃ A1, A1 = (if c0 = (x6_1 : Int).toNat then A0 else (A0 : Option Addr).map (·.add ((x6_1 : Int).toNat * 2))) := ⟨_, rfl⟩
                    obtain ⟨c21, hc21⟩ : ∃ c1, c1 = c0 - (x6_1 : Int).toNat := ⟨_, rfl⟩
                    have hy21 : y471.length = ((wrap64 (x6_1 + 1)) : Int).toNat - (x6_1 : Int).toNat := (by rw [Ny471.out, List.length_drop, List.length_take] <;> omega)
                    rw [show ((l0).take ((wrap64 (x6_1 + 1)) : Int).toNat).drop (x6_1 : Int).toNat = y471 from Ny471.out.symm] at hr21
                    replace hr21 : Kd.C k44 _ A21 y471.length y471 := (by rw [hA21]; exact hr21)
                    rw [← hy21, ← hA21, ← hc21] at hcut21
                    have HR474 := Aside0.mk hr21
                    have HC474 := Aside0.mk (show y471.length ≤ c21 from by rw [hy21, hc21]; exact Nat.sub_le_sub_right (Nat.le_trans (by omega) hroom21) _)
                    clear hr21 hC21 hroom21 hi021 hsz21 hc21
                    have KY21 := Aside0.mk hy21
                    have KA21 := Aside0.mk hA21
                    clear hy21 hA21
                    replace q21 := eq_true q21
                    go_wp2_with (first | (go_at_call 15; (with_reducible refine (run_May.calls k1 _ _ y471 t475 _ ?side1 ?side2 A11.out).mono ?_); (case side1 => repeat (first | exact (Kd.C_below HR474.out HB.out) | (with_reducible refine Kd.C_alloc ?_ _) | (with_reducible refine Kd.C_drewN ?_ _) | (with_reducible refine Kd.C_drew ?_))); (case side2 => exact HC474.out); rintro e w22 ⟨rfl, hb⟩; have n0_ := Aside0.mk (below_step (by repeat (first | (with_reducible first | exact HB.out | apply below_alloc | apply pw_below_drewN | apply below_drew1) | exact HB.out)) hb); clear HB; have HB := n0_; clear n0_; (try clear hb); (try clear hb2); (try clear hk); (try clear hi)))
                    repeat (go_quiet (first | (go_at_call 15; (with_reducible refine (run_May.calls k1 _ _ y471 t475 _ ?side1 ?side2 A11.out).mono ?_); (case side1 => repeat (first | exact (Kd.C_below HR474.out HB.out) | (with_reducible refine Kd.C_alloc ?_ _) | (with_reducible refine Kd.C_drewN ?_ _) | (with_reducible refine Kd.C_drew ?_))); (case side2 => exact HC474.out); rintro e w22 ⟨rfl, hb⟩; have n0_ := Aside0.mk (below_step (by repeat (first | (with_reducible first | exact HB.out | apply below_alloc | apply pw_below_drewN | apply below_drew1) | exact HB.out)) hb); clear HB; have HB := n0_; clear n0_; (try clear hb); (try clear hb2); (try clear hk); (try clear hi))); try go_wp2_with (first | (go_at_call 15; (with_reducible refine (run_May.calls k1 _ _ y471 t475 _ ?side1 ?side2 A11.out).mono ?_); (case side1 => repeat (first | exact (Kd.C_below HR474.out HB.out) | (with_reducible refine Kd.C_alloc ?_ _) | (with_reducible refine Kd.C_drewN ?_ _) | (with_reducible refine Kd.C_drew ?_))); (case side2 => exact HC474.out); rintro e w22 ⟨rfl, hb⟩; have n0_ := Aside0.mk (below_step (by repeat (first | (with_reducible first | exact HB.out | apply below_alloc | apply pw_below_drewN | apply below_drew1) | exact HB.out)) hb); clear HB; have HB := n0_; clear n0_; (try clear hb); (try clear hb2); (try clear hk); (try clear hi))))
                    go_roundg k1
                    case measure => have := HK1.out; omega
                    case rel => exact ⟨((t475 == 0)), (false), (wrap64 (x6_1 + 1)), (by first | rfl | (simp; done) | (simp [*]; done)), (by first | rfl | (simp; done) | (simp [*]; done)), (by first | rfl | (simp; done) | (simp [*]; done)), H', ⟨by have := HK1.out; omega⟩, ⟨by repeat (first | (with_reducible first | exact HB.out | apply below_alloc | apply pw_below_drewN | apply below_drew1) | exact HB.out)⟩⟩
                · rw [if_neg c10] at H
                  exact absurd H (by simp)
              · rw [if_neg c9] at H
                exact absurd H (by simp)
            · rw [if_neg c8] at H
              exact absurd H (by simp)
          · replace c7 := Bool.eq_false_iff.mpr c7
            subst c7
            have H1 : (if x5_1 = true then (if x6_1 = 0 then (manteletlaw09_RunMay.l0 k1 l0 t469 false true (wrap64 (x6_1 + 1))) else (if 0 ≤ (wrap64 (x6_1 - 1)) then (if (wrap64 (x6_1 - 1)) < (l0.length : Int) then (if 0 ≤ x6_1 then (manteletlaw09_RunMay.l0 k1 l0 t469 false (Op.bytesLess (((rd_T44 l0 (wrap64 (x6_1 - 1))).f0).toList) (((rd_T44 l0 x6_1).f0).toList)) (wrap64 (x6_1 + 1))) else (none)) else (none)) else (none))) else (manteletlaw09_RunMay.l0 k1 l0 t469 false false (wrap64 (x6_1 + 1)))) = some r := by rw [if_neg (show ¬ (false = true) by decide)] at H; exact H
            clear H
            have H := H1
            clear H1
            by_cases c23 : x5_1 = true
            · subst c23
              have H1 : (if x6_1 = 0 then (manteletlaw09_RunMay.l0 k1 l0 t469 false true (wrap64 (x6_1 + 1))) else (if 0 ≤ (wrap64 (x6_1 - 1)) then (if (wrap64 (x6_1 - 1)) < (l0.length : Int) then (if 0 ≤ x6_1 then (manteletlaw09_RunMay.l0 k1 l0 t469 false (Op.bytesLess (((rd_T44 l0 (wrap64 (x6_1 - 1))).f0).toList) (((rd_T44 l0 x6_1).f0).toList)) (wrap64 (x6_1 + 1))) else (none)) else (none)) else (none))) = some r := by rw [if_pos rfl] at H; exact H
              clear H
              have H := H1
              clear H1
              by_cases c24 : x6_1 = 0
              · rw [if_pos c24] at H
                have c24b0 : (x6_1 == 0) = true := beq_iff_eq.mpr c24
                have c24b1 : (x6_1 != 0) = false := bne_eq_false_iff_eq.mpr c24
                clear c24
                have H' := Aside0.mk H
                clear H
                go_wp2
                repeat (go_quiet (fail); try go_wp2)
                go_roundg k1
                case measure => have := HK1.out; omega
                case rel => exact ⟨(false), (true), (wrap64 (x6_1 + 1)), (by first | rfl | (simp; done) | (simp [*]; done)), (by first | rfl | (simp; done) | (simp [*]; done)), (by first | rfl | (simp; done) | (simp [*]; done)), H', ⟨by have := HK1.out; omega⟩, ⟨by repeat (first | (with_reducible first | exact HB.out | apply below_alloc | apply pw_below_drewN | apply below_drew1) | exact HB.out)⟩⟩
              · rw [if_neg c24] at H
                have c24b0 : (x6_1 == 0) = false := beq_eq_false_iff_ne.mpr c24
                have c24b1 : (x6_1 != 0) = true := bne_iff_ne.mpr c24
                obtain ⟨ji25, hji25⟩ : ∃ j_ : Int, (wrap64 (x6_1 - 1)) = j_ := ⟨_, rfl⟩
                replace H : (if 0 ≤ (ji25) then (if (ji25) < (l0.length : Int) then (if 0 ≤ x6_1 then (manteletlaw09_RunMay.l0 k1 l0 t469 false (Op.bytesLess (((rd_T44 l0 (ji25)).f0).toList) (((rd_T44 l0 x6_1).f0).toList)) (wrap64 (x6_1 + 1))) else (none)) else (none)) else (none)) = some r := by first | (rw [hji25] at H; exact H) | (simp only [hji25] at H ⊢; exact H)
                have hji25w : (IntKind.i64.wrap (x6_1 - 1)) = ji25 := (i64_w _).trans hji25
                by_cases c26 : 0 ≤ (ji25)
                · rw [if_pos c26] at H
                  have c26b0 : decide (0 ≤ (ji25)) = true := decide_eq_true c26
                  clear c26
                  by_cases c27 : (ji25) < (l0.length : Int)
                  · rw [if_pos c27] at H
                    have c27b0 : decide ((ji25) < (l0.length : Int)) = true := decide_eq_true c27
                    clear c27
                    by_cases c28 : 0 ≤ x6_1
                    · rw [if_pos c28] at H
                      have c28b0 : decide (0 ≤ x6_1) = true := decide_eq_true c28
                      clear c28
                      have H' := Aside0.mk H
                      clear H
                      have p478 : 0 ≤ ((ji25) : Int) := of_decide_eq_true (by first | (with_reducible assumption) | assumption)
                      have q478 : (ji25) < (l0.length : Int) := of_decide_eq_true (by first | (with_reducible assumption) | assumption)
                      obtain ⟨ad478, e478, hx478_0, hx478_1⟩ := at_T44 HR0.out (ji25) p478 q478
                      cases e478
                      replace hx478_0 := (HB.out.cell (World.block_lt_of_cell? w _ hx478_0)).trans hx478_0
                      replace hx478_1 := (HB.out.cell (World.block_lt_of_cell? w _ hx478_1)).trans hx478_1
                      replace p478 := eq_true p478
                      replace q478 := eq_true q478
                      have p479 : 0 ≤ (x6_1 : Int) := of_decide_eq_true (by first | (with_reducible assumption) | assumption)
                      have q479 : x6_1 < (l0.length : Int) := of_decide_eq_true (by first | (with_reducible assumption) | assumption)
                      obtain ⟨ad479, e479, hx479_0, hx479_1⟩ := at_T44 HR0.out x6_1 p479 q479
                      obtain rfl : ad478 = ad479 := (by injection e479)
                      replace hx479_0 := (HB.out.cell (World.block_lt_of_cell? w _ hx479_0)).trans hx479_0
                      replace hx479_1 := (HB.out.cell (World.block_lt_of_cell? w _ hx479_1)).trans hx479_1
                      replace p479 := eq_true p479
                      replace q479 := eq_true q479
                      go_wp2
                      repeat (go_quiet (fail); try go_wp2)
                      go_roundg k1
                      case measure => have := HK1.out; omega
                      case rel => exact ⟨(false), ((Op.bytesLess (((rd_T44 l0 (ji25)).f0).toList) (((rd_T44 l0 x6_1).f0).toList))), (wrap64 (x6_1 + 1)), (by first | rfl | (simp; done) | (simp [*]; done)), (by first | rfl | (simp; done) | (simp only [← hji25] <;> (first | rfl | simp)) | (simp [*]; done)), (by first | rfl | (simp; done) | (simp [*]; done)), H', ⟨by have := HK1.out; omega⟩, ⟨by repeat (first | (with_reducible first | exact HB.out | apply below_alloc | apply pw_below_drewN | apply below_drew1) | exact HB.out)⟩⟩
                    · rw [if_neg c28] at H
                      exact absurd H (by simp)
                  · rw [if_neg c27] at H
                    exact absurd H (by simp)
                · rw [if_neg c26] at H
                  exact absurd H (by simp)
            · replace c23 := Bool.eq_false_iff.mpr c23
              subst c23
              have H1 : (manteletlaw09_RunMay.l0 k1 l0 t469 false false (wrap64 (x6_1 + 1))) = some r := by rw [if_neg (show ¬ (false = true) by decide)] at H; exact H
              clear H
              have H := H1
              clear H1
              have H' := Aside0.mk H
              clear H
              go_wp2
              repeat (go_quiet (fail); try go_wp2)
              go_roundg k1
              case measure => have := HK1.out; omega
              case rel => exact ⟨(false), (false), (wrap64 (x6_1 + 1)), (by first | rfl | (simp; done) | (simp [*]; done)), (by first | rfl | (simp; done) | (simp [*]; done)), (by first | rfl | (simp; done) | (simp [*]; done)), H', ⟨by have := HK1.out; omega⟩, ⟨by repeat (first | (with_reducible first | exact HB.out | apply below_alloc | apply pw_below_drewN | apply below_drew1) | exact HB.out)⟩⟩
        · rw [if_neg c6] at H
          have c6b0 : decide (x6_1 < (l0.length : Int)) = false := decide_eq_false c6
          clear c6
          replace H := Option.bind_eq_some_iff.mp H
          obtain ⟨t480, A290, H⟩ := H
          replace H : (if t469 = true then (if x4_1 = true then (if ((t480 == 0) == x5_1) = true then (if ((t480 == 1) == (!x4_1)) = true then (some ((t480 == 9) == (!x5_1))) else (none)) else (none)) else (if ((t480 == 0) == false) = true then (if ((t480 == 1) == (!x4_1)) = true then (some ((t480 == 9) == false)) else (none)) else (none))) else (none)) = some r := H
          have A29 := Aside0.mk A290
          clear A290
          by_cases c30 : t469 = true
          · subst c30
            have H1 : (if x4_1 = true then (if ((t480 == 0) == x5_1) = true then (if ((t480 == 1) == (!x4_1)) = true then (some ((t480 == 9) == (!x5_1))) else (none)) else (none)) else (if ((t480 == 0) == false) = true then (if ((t480 == 1) == (!x4_1)) = true then (some ((t480 == 9) == false)) else (none)) else (none))) = some r := by rw [if_pos rfl] at H; exact H
            clear H
            have H := H1
            clear H1
            by_cases c31 : x4_1 = true
            · subst c31
              have H1 : (if ((t480 == 0) == x5_1) = true then (if ((t480 == 1) == (!true)) = true then (some ((t480 == 9) == (!x5_1))) else (none)) else (none)) = some r := by rw [if_pos rfl] at H; exact H
              clear H
              have H := H1
              clear H1
              by_cases c32 : ((t480 == 0) == x5_1) = true
              · rw [if_pos c32] at H
                have c32b0 : ((t480 == 0) == x5_1) = true := c32
                have c32b9 : (t480 == 0) = x5_1 := by have h_ := eq_of_beq c32; simpa using h_
                (try (have c32b1 : decide ((t480 == 0) = x5_1) = true := by simpa using c32))
                (try (have c32b2 : ((t480 == 0) == x5_1) = true := by simpa using c32))
                clear c32
                by_cases c33 : ((t480 == 1) == (!true)) = true
                · rw [if_pos c33] at H
                  have c33b0 : ((t480 == 1) == (!true)) = true := c33
                  have c33b9 : (t480 == 1) = false := by have h_ := eq_of_beq c33; simpa using h_
                  (try (have c33b1 : decide ((t480 == 1) = (!true)) = true := by simpa using c33))
                  (try (have c33b2 : ((t480 == 1) == (!true)) = true := by simpa using c33))
                  clear c33
                  obtain rfl := Option.some.inj H
                  go_wp2_with (first | (go_at_call 15; (with_reducible refine (run_May.calls k1 _ _ l0 t480 _ ?side1 ?side2 A29.out).mono ?_); (case side1 => repeat (first | exact (Kd.C_below HR0.out HB.out) | (with_reducible refine Kd.C_alloc ?_ _) | (with_reducible refine Kd.C_drewN ?_ _) | (with_reducible refine Kd.C_drew ?_))); (case side2 => exact HC0.out); rintro e w34 ⟨rfl, hb⟩; have n0_ := Aside0.mk (below_step (by repeat (first | (with_reducible first | exact HB.out | apply below_alloc | apply pw_below_drewN | apply below_drew1) | exact HB.out)) hb); clear HB; have HB := n0_; clear n0_; (try clear hb); (try clear hb2); (try clear hk); (try clear hi)))
                  repeat (go_quiet (first | (go_at_call 15; (with_reducible refine (run_May.calls k1 _ _ l0 t480 _ ?side1 ?side2 A29.out).mono ?_); (case side1 => repeat (first | exact (Kd.C_below HR0.out HB.out) | (with_reducible refine Kd.C_alloc ?_ _) | (with_reducible refine Kd.C_drewN ?_ _) | (with_reducible refine Kd.C_drew ?_))); (case side2 => exact HC0.out); rintro e w34 ⟨rfl, hb⟩; have n0_ := Aside0.mk (below_step (by repeat (first | (with_reducible first | exact HB.out | apply below_alloc | apply pw_below_drewN | apply below_drew1) | exact HB.out)) hb); clear HB; have HB := n0_; clear n0_; (try clear hb); (try clear hb2); (try clear hk); (try clear hi))); try go_wp2_with (first | (go_at_call 15; (with_reducible refine (run_May.calls k1 _ _ l0 t480 _ ?side1 ?side2 A29.out).mono ?_); (case side1 => repeat (first | exact (Kd.C_below HR0.out HB.out) | (with_reducible refine Kd.C_alloc ?_ _) | (with_reducible refine Kd.C_drewN ?_ _) | (with_reducible refine Kd.C_drew ?_))); (case side2 => exact HC0.out); rintro e w34 ⟨rfl, hb⟩; have n0_ := Aside0.mk (below_step (by repeat (first | (with_reducible first | exact HB.out | apply below_alloc | apply pw_below_drewN | apply below_drew1) | exact HB.out)) hb); clear HB; have HB := n0_; clear n0_; (try clear hb); (try clear hb2); (try clear hk); (try clear hi))))
                  go_ret
                  exact ⟨by first | rfl | (simp [errW_none, errW_some] <;> rfl) | (have e_ := Option.some.inj (A2.out.symm.trans A3.out); subst e_; rfl) | (have e_ := Option.some.inj (A2.out.symm.trans A11.out); subst e_; rfl) | (have e_ := Option.some.inj (A3.out.symm.trans A11.out); subst e_; rfl) | (have e_ := Option.some.inj (A2.out.symm.trans A29.out); subst e_; rfl) | (have e_ := Option.some.inj (A3.out.symm.trans A29.out); subst e_; rfl) | (have e_ := Option.some.inj (A11.out.symm.trans A29.out); subst e_; rfl) | (simp [*, errW_none, errW_some] <;> rfl), by repeat (first | (with_reducible first | exact HB.out | apply below_alloc | apply pw_below_drewN | apply below_drew1) | exact HB.out)⟩
                · rw [if_neg c33] at H
                  exact absurd H (by simp)
              · rw [if_neg c32] at H
                exact absurd H (by simp)
            · replace c31 := Bool.eq_false_iff.mpr c31
              subst c31
              have H1 : (if ((t480 == 0) == false) = true then (if ((t480 == 1) == (!false)) = true then (some ((t480 == 9) == false)) else (none)) else (none)) = some r := by rw [if_neg (show ¬ (false = true) by decide)] at H; exact H
              clear H
              have H := H1
              clear H1
              by_cases c35 : ((t480 == 0) == false) = true
              · rw [if_pos c35] at H
                have c35b0 : ((t480 == 0) == false) = true := c35
                have c35b9 : (t480 == 0) = false := by have h_ := eq_of_beq c35; simpa using h_
                (try (have c35b1 : decide ((t480 == 0) = false) = true := by simpa using c35))
                (try (have c35b2 : ((t480 == 0) == false) = true := by simpa using c35))
                clear c35
                by_cases c36 : ((t480 == 1) == (!false)) = true
                · rw [if_pos c36] at H
                  have c36b0 : ((t480 == 1) == (!false)) = true := c36
                  have c36b9 : (t480 == 1) = true := by have h_ := eq_of_beq c36; simpa using h_
                  (try (have c36b1 : decide ((t480 == 1) = (!false)) = true := by simpa using c36))
                  (try (have c36b2 : ((t480 == 1) == (!false)) = true := by simpa using c36))
                  clear c36
                  obtain rfl := Option.some.inj H
                  go_wp2_with (first | (go_at_call 15; (with_reducible refine (run_May.calls k1 _ _ l0 t480 _ ?side1 ?side2 A29.out).mono ?_); (case side1 => repeat (first | exact (Kd.C_below HR0.out HB.out) | (with_reducible refine Kd.C_alloc ?_ _) | (with_reducible refine Kd.C_drewN ?_ _) | (with_reducible refine Kd.C_drew ?_))); (case side2 => exact HC0.out); rintro e w37 ⟨rfl, hb⟩; have n0_ := Aside0.mk (below_step (by repeat (first | (with_reducible first | exact HB.out | apply below_alloc | apply pw_below_drewN | apply below_drew1) | exact HB.out)) hb); clear HB; have HB := n0_; clear n0_; (try clear hb); (try clear hb2); (try clear hk); (try clear hi)))
                  repeat (go_quiet (first | (go_at_call 15; (with_reducible refine (run_May.calls k1 _ _ l0 t480 _ ?side1 ?side2 A29.out).mono ?_); (case side1 => repeat (first | exact (Kd.C_below HR0.out HB.out) | (with_reducible refine Kd.C_alloc ?_ _) | (with_reducible refine Kd.C_drewN ?_ _) | (with_reducible refine Kd.C_drew ?_))); (case side2 => exact HC0.out); rintro e w37 ⟨rfl, hb⟩; have n0_ := Aside0.mk (below_step (by repeat (first | (with_reducible first | exact HB.out | apply below_alloc | apply pw_below_drewN | apply below_drew1) | exact HB.out)) hb); clear HB; have HB := n0_; clear n0_; (try clear hb); (try clear hb2); (try clear hk); (try clear hi))); try go_wp2_with (first | (go_at_call 15; (with_reducible refine (run_May.calls k1 _ _ l0 t480 _ ?side1 ?side2 A29.out).mono ?_); (case side1 => repeat (first | exact (Kd.C_below HR0.out HB.out) | (with_reducible refine Kd.C_alloc ?_ _) | (with_reducible refine Kd.C_drewN ?_ _) | (with_reducible refine Kd.C_drew ?_))); (case side2 => exact HC0.out); rintro e w37 ⟨rfl, hb⟩; have n0_ := Aside0.mk (below_step (by repeat (first | (with_reducible first | exact HB.out | apply below_alloc | apply pw_below_drewN | apply below_drew1) | exact HB.out)) hb); clear HB; have HB := n0_; clear n0_; (try clear hb); (try clear hb2); (try clear hk); (try clear hi))))
                  go_ret
                  exact ⟨by first | rfl | (simp [errW_none, errW_some] <;> rfl) | (have e_ := Option.some.inj (A2.out.symm.trans A3.out); subst e_; rfl) | (have e_ := Option.some.inj (A2.out.symm.trans A11.out); subst e_; rfl) | (have e_ := Option.some.inj (A3.out.symm.trans A11.out); subst e_; rfl) | (have e_ := Option.some.inj (A2.out.symm.trans A29.out); subst e_; rfl) | (have e_ := Option.some.inj (A3.out.symm.trans A29.out); subst e_; rfl) | (have e_ := Option.some.inj (A11.out.symm.trans A29.out); subst e_; rfl) | (simp [*, errW_none, errW_some] <;> rfl), by repeat (first | (with_reducible first | exact HB.out | apply below_alloc | apply pw_below_drewN | apply below_drew1) | exact HB.out)⟩
                · rw [if_neg c36] at H
                  exact absurd H (by simp)
              · rw [if_neg c35] at H
                exact absurd H (by simp)
          · replace c30 := Bool.eq_false_iff.mpr c30
            subst c30
            have H1 : (none) = some r := by rw [if_neg (show ¬ (false = true) by decide)] at H; exact H
            clear H
            have H := H1
            clear H1
            exact absurd H (by simp)
  · replace c4 := Bool.eq_false_iff.mpr c4
    subst c4
    have H1 : (some t469) = some r := by rw [if_neg (show ¬ (false = true) by decide)] at H; exact H
    clear H
    have H := H1
    clear H1
    obtain rfl := Option.some.inj H
    go_enter Try.func6, Try.ntmps6
    go_wp2_with (first | (go_at_call 9; (with_reducible refine (manteletlaw09_shown.calls k  t469 _ A2.out).mono ?_); rintro e w38 ⟨rfl, hb⟩; have n0_ := Aside0.mk (below_step (by repeat (first | (with_reducible first | exact HB.out | apply below_alloc | apply pw_below_drewN | apply below_drew1) | exact HB.out)) hb); clear HB; have HB := n0_; clear n0_; (try clear hb); (try clear hb2); (try clear hk); (try clear hi)) | (go_at_call 10; (with_reducible refine (manteletlaw09_few.calls k _ _ l0 false _ ?side1 ?side2 A3.out).mono ?_); (case side1 => repeat (first | exact (Kd.C_below HR0.out HB.out) | (with_reducible refine Kd.C_alloc ?_ _) | (with_reducible refine Kd.C_drewN ?_ _) | (with_reducible refine Kd.C_drew ?_))); (case side2 => exact HC0.out); rintro e w' ⟨rfl, ⟨nd, rfl⟩⟩; (try first | exact ⟨rfl, _, World.drewN_drewN _ _ _⟩ | exact ⟨rfl, _, Eq.trans (World.drewN_drewN _ _ _) (congrArg (World.drewN _) (Nat.add_assoc _ _ _))⟩)))
    repeat (go_quiet (first | (go_at_call 9; (with_reducible refine (manteletlaw09_shown.calls k  t469 _ A2.out).mono ?_); rintro e w38 ⟨rfl, hb⟩; have n0_ := Aside0.mk (below_step (by repeat (first | (with_reducible first | exact HB.out | apply below_alloc | apply pw_below_drewN | apply below_drew1) | exact HB.out)) hb); clear HB; have HB := n0_; clear n0_; (try clear hb); (try clear hb2); (try clear hk); (try clear hi)) | (go_at_call 10; (with_reducible refine (manteletlaw09_few.calls k _ _ l0 false _ ?side1 ?side2 A3.out).mono ?_); (case side1 => repeat (first | exact (Kd.C_below HR0.out HB.out) | (with_reducible refine Kd.C_alloc ?_ _) | (with_reducible refine Kd.C_drewN ?_ _) | (with_reducible refine Kd.C_drew ?_))); (case side2 => exact HC0.out); rintro e w' ⟨rfl, ⟨nd, rfl⟩⟩; (try first | exact ⟨rfl, _, World.drewN_drewN _ _ _⟩ | exact ⟨rfl, _, Eq.trans (World.drewN_drewN _ _ _) (congrArg (World.drewN _) (Nat.add_assoc _ _ _))⟩))); try go_wp2_with (first | (go_at_call 9; (with_reducible refine (manteletlaw09_shown.calls k  t469 _ A2.out).mono ?_); rintro e w38 ⟨rfl, hb⟩; have n0_ := Aside0.mk (below_step (by repeat (first | (with_reducible first | exact HB.out | apply below_alloc | apply pw_below_drewN | apply below_drew1) | exact HB.out)) hb); clear HB; have HB := n0_; clear n0_; (try clear hb); (try clear hb2); (try clear hk); (try clear hi)) | (go_at_call 10; (with_reducible refine (manteletlaw09_few.calls k _ _ l0 false _ ?side1 ?side2 A3.out).mono ?_); (case side1 => repeat (first | exact (Kd.C_below HR0.out HB.out) | (with_reducible refine Kd.C_alloc ?_ _) | (with_reducible refine Kd.C_drewN ?_ _) | (with_reducible refine Kd.C_drew ?_))); (case side2 => exact HC0.out); rintro e w' ⟨rfl, ⟨nd, rfl⟩⟩; (try first | exact ⟨rfl, _, World.drewN_drewN _ _ _⟩ | exact ⟨rfl, _, Eq.trans (World.drewN_drewN _ _ _) (congrArg (World.drewN _) (Nat.add_assoc _ _ _))⟩))))
    go_ret
    exact ⟨by first | rfl | (simp [errW_none, errW_some] <;> rfl) | (have e_ := Option.some.inj (A2.out.symm.trans A3.out); subst e_; rfl) | (have e_ := Option.some.inj (A2.out.symm.trans A11.out); subst e_; rfl) | (have e_ := Option.some.inj (A3.out.symm.trans A11.out); subst e_; rfl) | (have e_ := Option.some.inj (A2.out.symm.trans A29.out); subst e_; rfl) | (have e_ := Option.some.inj (A3.out.symm.trans A29.out); subst e_; rfl) | (have e_ := Option.some.inj (A11.out.symm.trans A29.out); subst e_; rfl) | (simp [*, errW_none, errW_some] <;> rfl), by repeat (first | (with_reducible first | exact HB.out | apply below_alloc | apply pw_below_drewN | apply below_drew1) | exact HB.out)⟩

end Go.Proofs.Ytmfngihgoanhpaa.PRun
