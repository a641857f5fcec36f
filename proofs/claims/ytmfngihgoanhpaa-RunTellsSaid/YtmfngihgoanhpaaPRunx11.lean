/- Contracts of Go functions: called with what reads as these lists and numbers, a function returns what its plain Lean function says, and leaves what was there. Written by a program of this session. -/
import Derived.Test.YtmfngihgoanhpaaPRunx0
import Derived.Test.YtmfngihgoanhpaaPRunx9
import Derived.Test.YtmfngihgoanhpaaPRunx10
namespace Go.Proofs.Ytmfngihgoanhpaa.PRun
open Go.RowKit Go.Proofs.YtmfngihgoanhpaaW.PrintWords Go.Proofs.YtmfngihgoanhpaaW.PrintLast Go.Proofs.YtmfngihgoanhpaaW.PrintMore
attribute [local go_sem] max2_int min2_int max_two min_two max_three min_three max_four min_four   -- for this text's walks alone
attribute [local go_sem] Go.Proofs.Ytmfngihgoanhpaa.MoreWords.str_leq Go.Proofs.Ytmfngihgoanhpaa.MoreWords.str_gtr Go.Proofs.Ytmfngihgoanhpaa.MoreWords.str_geq
set_option linter.unusedVariables false
set_option linter.unusedSimpArgs false

/-! ### manteletref09_Decode: function 14 -/
mutual
def manteletref09_Decode.j0 : Nat → List Int → List (List Int) → Int → Bool → Option ((List (S44)) × Int)
  | 0, _, _, _, _ => none
  | k + 1, x0, x4, x6, x41 => if x41 = true then (some (([] : List (S44)), 2)) else (manteletref09_Decode.l0 k x0 x4 x6 ([] : List (S44)) 1)
def manteletref09_Decode.l0 : Nat → List Int → List (List Int) → Int → List (S44) → Int → Option ((List (S44)) × Int)
  | 0, _, _, _, _, _ => none
  | k + 1, x0, x4, x6, x9, x10 => if x10 < (wrap64 ((x4.length : Int) - 1)) then (if 0 ≤ x10 then (if x10 < (x4.length : Int) then ((manteletref01_Get.f k (rd_L4 x4 x10)).bind fun bt375 => (if bt375.2.2 = 0 then (manteletref09_Decode.j2 k x0 x4 x6 x9 x10 bt375.1 bt375.2.1 (decide (bt375.1 > 255))) else (manteletref09_Decode.j2 k x0 x4 x6 x9 x10 bt375.1 bt375.2.1 true))) else (none)) else (none)) else ((manteletref09_Encode.f k x9 (wrap64 (x6))).bind fun bt370 => (if bt370.2 = 0 then (if (strOfNums bt370.1).toList = (strOfNums x0).toList then (some (x9, 0)) else (some (([] : List (S44)), 2))) else (some (([] : List (S44)), 2))))
def manteletref09_Decode.j2 : Nat → List Int → List (List Int) → Int → List (S44) → Int → Int → Int → Bool → Option ((List (S44)) × Int)
  | 0, _, _, _, _, _, _, _, _ => none
  | k + 1, x0, x4, x6, x9, x10, x11, x12, x63 => if x63 = true then (some (([] : List (S44)), 2)) else (manteletref09_Decode.l1 k x0 x4 x6 x9 x10 x11 x12 (⟨#[]⟩ : ByteArray) 0)
def manteletref09_Decode.l1 : Nat → List Int → List (List Int) → Int → List (S44) → Int → Int → Int → ByteArray → Int → Option ((List (S44)) × Int)
  | 0, _, _, _, _, _, _, _, _, _ => none
  | k + 1, x0, x4, x6, x9, x10, x11, x12, x14, x15 => if x15 < (wrap64 (x11)) then (if 0 ≤ x10 then (if x10 < (x4.length : Int) then (if 0 ≤ x12 then (if x12 ≤ ((rd_L4 x4 x10).length : Int) then ((manteletref09_take.f k x14 ((rd_L4 x4 x10).drop (x12 : Int).toNat)).bind fun bt383 => (if bt383.2.2 = 0 then (some (([] : List (S44)), 2)) else (if x9.length < 5864062014805 then (manteletref09_Decode.l1 k x0 x4 x6 (x9 ++ [(⟨bt383.1, bt383.2.1⟩ : S44)]) x10 x11 (wrap64 (x12 + bt383.2.2)) bt383.1 (wrap64 (x15 + 1))) else (none)))) else (none)) else (none)) else (none)) else (none)) else (manteletref09_Decode.l0 k x0 x4 x6 x9 (wrap64 (x10 + 1)))
end
def manteletref09_Decode.f (k : Nat) (l0 : List Int) : Option ((List (S44)) × Int) := (manteletref03_Scan.f k l0).bind fun bt362 => (if (bt362.1.length : Int) < 2 then (some (([] : List (S44)), 2)) else (if 0 < (bt362.1.length : Int) then ((manteletref01_Get.f k (rd_L4 bt362.1 0)).bind fun bt367 => (if bt367.2.2 = 0 then (manteletref09_Decode.j0 k l0 bt362.1 bt367.1 (decide (bt367.1 > 255))) else (manteletref09_Decode.j0 k l0 bt362.1 bt367.1 true))) else (none)))
theorem manteletref09_Decode.mono_l : ∀ k, (∀ y0 y1 y2 y3, LeO (manteletref09_Decode.j0 k y0 y1 y2 y3) (manteletref09_Decode.j0 (k + 1) y0 y1 y2 y3)) ∧ (∀ y0 y1 y2 y3 y4, LeO (manteletref09_Decode.l0 k y0 y1 y2 y3 y4) (manteletref09_Decode.l0 (k + 1) y0 y1 y2 y3 y4)) ∧ (∀ y0 y1 y2 y3 y4 y5 y6 y7, LeO (manteletref09_Decode.j2 k y0 y1 y2 y3 y4 y5 y6 y7) (manteletref09_Decode.j2 (k + 1) y0 y1 y2 y3 y4 y5 y6 y7)) ∧ (∀ y0 y1 y2 y3 y4 y5 y6 y7 y8, LeO (manteletref09_Decode.l1 k y0 y1 y2 y3 y4 y5 y6 y7 y8) (manteletref09_Decode.l1 (k + 1) y0 y1 y2 y3 y4 y5 y6 y7 y8))
  | 0 => ⟨fun _ _ _ _ r h => by simp [manteletref09_Decode.j0] at h, fun _ _ _ _ _ r h => by simp [manteletref09_Decode.l0] at h, fun _ _ _ _ _ _ _ _ r h => by simp [manteletref09_Decode.j2] at h, fun _ _ _ _ _ _ _ _ _ r h => by simp [manteletref09_Decode.l1] at h⟩
  | k + 1 => by
    obtain ⟨ih0, ih1, ih2, ih3⟩ := manteletref09_Decode.mono_l k
    refine ⟨?_, ?_, ?_, ?_⟩
    · intro y0 y1 y2 y3
      unfold manteletref09_Decode.j0
      repeat' first
      | (with_reducible exact ih0 _ _ _ _)
      | (with_reducible exact ih1 _ _ _ _ _)
      | (with_reducible exact ih2 _ _ _ _ _ _ _ _)
      | (with_reducible exact ih3 _ _ _ _ _ _ _ _ _)
      | (with_reducible exact manteletref01_Get.mono _ _)
      | (with_reducible exact manteletref03_Scan.mono _ _)
      | (with_reducible exact manteletref09_Encode.mono _ _ _)
      | (with_reducible exact manteletref09_take.mono _ _ _)
      | (with_reducible exact LeO.refl _)
      | (with_reducible exact LeO.none _)
      | (with_reducible refine LeO.ite ?_ ?_)
      | (with_reducible refine LeO.bind ?_ (fun _ => ?_))
      | exact ih0 _ _ _ _
      | exact ih1 _ _ _ _ _
      | exact ih2 _ _ _ _ _ _ _ _
      | exact ih3 _ _ _ _ _ _ _ _ _
      | exact manteletref01_Get.mono _ _
      | exact manteletref03_Scan.mono _ _
      | exact manteletref09_Encode.mono _ _ _
      | exact manteletref09_take.mono _ _ _
      | exact LeO.none _
      | refine LeO.ite ?_ ?_
      | refine LeO.bind ?_ (fun _ => ?_)
    · intro y0 y1 y2 y3 y4
      unfold manteletref09_Decode.l0
      repeat' first
      | (with_reducible exact ih0 _ _ _ _)
      | (with_reducible exact ih1 _ _ _ _ _)
      | (with_reducible exact ih2 _ _ _ _ _ _ _ _)
      | (with_reducible exact ih3 _ _ _ _ _ _ _ _ _)
      | (with_reducible exact manteletref01_Get.mono _ _)
      | (with_reducible exact manteletref03_Scan.mono _ _)
      | (with_reducible exact manteletref09_Encode.mono _ _ _)
      | (with_reducible exact manteletref09_take.mono _ _ _)
      | (with_reducible exact LeO.refl _)
      | (with_reducible exact LeO.none _)
      | (with_reducible refine LeO.ite ?_ ?_)
      | (with_reducible refine LeO.bind ?_ (fun _ => ?_))
      | exact ih0 _ _ _ _
      | exact ih1 _ _ _ _ _
      | exact ih2 _ _ _ _ _ _ _ _
      | exact ih3 _ _ _ _ _ _ _ _ _
      | exact manteletref01_Get.mono _ _
      | exact manteletref03_Scan.mono _ _
      | exact manteletref09_Encode.mono _ _ _
      | exact manteletref09_take.mono _ _ _
      | exact LeO.none _
      | refine LeO.ite ?_ ?_
      | refine LeO.bind ?_ (fun _ => ?_)
    · intro y0 y1 y2 y3 y4 y5 y6 y7
      unfold manteletref09_Decode.j2
      repeat' first
      | (with_reducible exact ih0 _ _ _ _)
      | (with_reducible exact ih1 _ _ _ _ _)
      | (with_reducible exact ih2 _ _ _ _ _ _ _ _)
      | (with_reducible exact ih3 _ _ _ _ _ _ _ _ _)
      | (with_reducible exact manteletref01_Get.mono _ _)
      | (with_reducible exact manteletref03_Scan.mono _ _)
      | (with_reducible exact manteletref09_Encode.mono _ _ _)
      | (with_reducible exact manteletref09_take.mono _ _ _)
      | (with_reducible exact LeO.refl _)
      | (with_reducible exact LeO.none _)
      | (with_reducible refine LeO.ite ?_ ?_)
      | (with_reducible refine LeO.bind ?_ (fun _ => ?_))
      | exact ih0 _ _ _ _
      | exact ih1 _ _ _ _ _
      | exact ih2 _ _ _ _ _ _ _ _
      | exact ih3 _ _ _ _ _ _ _ _ _
      | exact manteletref01_Get.mono _ _
      | exact manteletref03_Scan.mono _ _
      | exact manteletref09_Encode.mono _ _ _
      | exact manteletref09_take.mono _ _ _
      | exact LeO.none _
      | refine LeO.ite ?_ ?_
      | refine LeO.bind ?_ (fun _ => ?_)
    · intro y0 y1 y2 y3 y4 y5 y6 y7 y8
      unfold manteletref09_Decode.l1
      repeat' first
      | (with_reducible exact ih0 _ _ _ _)
      | (with_reducible exact ih1 _ _ _ _ _)
      | (with_reducible exact ih2 _ _ _ _ _ _ _ _)
      | (with_reducible exact ih3 _ _ _ _ _ _ _ _ _)
      | (with_reducible exact manteletref01_Get.mono _ _)
      | (with_reducible exact manteletref03_Scan.mono _ _)
      | (with_reducible exact manteletref09_Encode.mono _ _ _)
      | (with_reducible exact manteletref09_take.mono _ _ _)
      | (with_reducible exact LeO.refl _)
      | (with_reducible exact LeO.none _)
      | (with_reducible refine LeO.ite ?_ ?_)
      | (with_reducible refine LeO.bind ?_ (fun _ => ?_))
      | exact ih0 _ _ _ _
      | exact ih1 _ _ _ _ _
      | exact ih2 _ _ _ _ _ _ _ _
      | exact ih3 _ _ _ _ _ _ _ _ _
      | exact manteletref01_Get.mono _ _
      | exact manteletref03_Scan.mono _ _
      | exact manteletref09_Encode.mono _ _ _
      | exact manteletref09_take.mono _ _ _
      | exact LeO.none _
      | refine LeO.ite ?_ ?_
      | refine LeO.bind ?_ (fun _ => ?_)
theorem manteletref09_Decode.mono : ∀ a0 k, LeO (manteletref09_Decode.f k a0) (manteletref09_Decode.f (k + 1) a0) := by
  intro a0 k
  obtain ⟨ih0, ih1, ih2, ih3⟩ := manteletref09_Decode.mono_l k
  unfold manteletref09_Decode.f
  repeat' first
      | (with_reducible exact ih0 _ _ _ _)
      | (with_reducible exact ih1 _ _ _ _ _)
      | (with_reducible exact ih2 _ _ _ _ _ _ _ _)
      | (with_reducible exact ih3 _ _ _ _ _ _ _ _ _)
      | (with_reducible exact manteletref01_Get.mono _ _)
      | (with_reducible exact manteletref03_Scan.mono _ _)
      | (with_reducible exact manteletref09_Encode.mono _ _ _)
      | (with_reducible exact manteletref09_take.mono _ _ _)
      | (with_reducible exact LeO.refl _)
      | (with_reducible exact LeO.none _)
      | (with_reducible refine LeO.ite ?_ ?_)
      | (with_reducible refine LeO.bind ?_ (fun _ => ?_))
      | exact ih0 _ _ _ _
      | exact ih1 _ _ _ _ _
      | exact ih2 _ _ _ _ _ _ _ _
      | exact ih3 _ _ _ _ _ _ _ _ _
      | exact manteletref01_Get.mono _ _
      | exact manteletref03_Scan.mono _ _
      | exact manteletref09_Encode.mono _ _ _
      | exact manteletref09_take.mono _ _ _
      | exact LeO.none _
      | refine LeO.ite ?_ ?_
      | refine LeO.bind ?_ (fun _ => ?_)
set_option maxHeartbeats 8000000 in
set_option maxRecDepth 100000 in
theorem manteletref09_Decode.calls (k : Nat) (A0 : Option Addr) (c0 : Nat) (l0 : List Int) (r1 : List (S44)) (r2 : Int) (w : World) (hr0 : Kd.C (Kd.int .u8) w A0 l0.length l0) (hc0 : l0.length ≤ c0) (h : manteletref09_Decode.f k l0 = some (r1, r2)) :
    Calls Try.prog 14 #[.slice A0 l0.length c0] w fun e w' => ∃ v0_ : Value, e = .returned (.tuple #[v0_, .int .i64 r2]) ∧ Kd.R k44 44 w' w.heap.size (fun _ => True) v0_ r1 ∧ Below w.heap.size w w' := by
  have hu44 := Try.underlying44
  have HR0 := Aside0.mk hr0
  have HC0 := Aside0.mk hc0
  clear hr0 hc0
  have HB := Aside0.mk (Below.refl w.heap.size w)
  have H : ((manteletref03_Scan.f k l0).bind fun bt362 => (if (bt362.1.length : Int) < 2 then (some (([] : List (S44)), 2)) else (if 0 < (bt362.1.length : Int) then ((manteletref01_Get.f k (rd_L4 bt362.1 0)).bind fun bt367 => (if bt367.2.2 = 0 then (manteletref09_Decode.j0 k l0 bt362.1 bt367.1 (decide (bt367.1 > 255))) else (manteletref09_Decode.j0 k l0 bt362.1 bt367.1 true))) else (none)))) = some (r1, r2) := h
  clear h
  replace H := Option.bind_eq_some_iff.mp H
  obtain ⟨⟨t362, t363⟩, A20, H⟩ := H
  replace H : (if (t362.length : Int) < 2 then (some (([] : List (S44)), 2)) else (if 0 < (t362.length : Int) then ((manteletref01_Get.f k (rd_L4 t362 0)).bind fun bt367 => (if bt367.2.2 = 0 then (manteletref09_Decode.j0 k l0 t362 bt367.1 (decide (bt367.1 > 255))) else (manteletref09_Decode.j0 k l0 t362 bt367.1 true))) else (none))) = some (r1, r2) := H
  have A2 := Aside0.mk A20
  clear A20
  by_cases c3 : (t362.length : Int) < 2
  · rw [if_pos c3] at H
    have c3b0 : decide ((t362.length : Int) < 2) = true := decide_eq_true c3
    have c3b1 : decide (t362.length < 2) = true := decide_eq_true (by omega)
    clear c3
    simp only [Option.some.injEq, Prod.mk.injEq] at H
    obtain ⟨rfl, rfl⟩ := H
    go_enter Try.func14, Try.ntmps14
    go_wp2_with (first | ((with_reducible refine gate_callee (f := 18) rfl ?_); refine goesL_ (some 22) rfl rfl Try.func18 (by kernel_rfl) rfl #[.slice A0 l0.length c0] rfl (by (try simp only [List.map_toArray, List.map_cons, List.map_nil]); first | done | rfl | (simp only [List.length_drop, List.length_take]; rfl)) ?_; (with_reducible refine (manteletref03_Scan.calls k _ _ l0 t362 t363 _ ?side1 ?side2 A2.out).mono ?_); (case side1 => repeat (first | exact HR0.out | (with_reducible refine Kd.C_alloc ?_ _) | (with_reducible refine Kd.C_drewN ?_ _) | (with_reducible refine Kd.C_drew ?_))); (case side2 => exact HC0.out); rintro e w4 ⟨v364, rfl, ho0, hb⟩; refine ⟨_, rfl, ?_⟩; have n0_ := Aside0.mk (Kd.S_lower ho0 (below_size (by repeat (first | (with_reducible first | exact HB.out | apply below_alloc | apply pw_below_drewN | apply below_drew1) | exact HB.out)))); have n1_ := Aside0.mk (below_step (by repeat (first | (with_reducible first | exact HB.out | apply below_alloc | apply pw_below_drewN | apply below_drew1) | exact HB.out)) hb); clear HB; have HO365 := n0_; have HB := n1_; clear n0_ n1_; (try clear hb); (try clear hb2); (try clear hk); (try clear hi); (try clear ho0); obtain ⟨Ao5, co5, eo5⟩ := Kd.S_slice HO365.out; subst eo5))
    go_ret2
    exact ⟨_, by first | rfl | (simp [errW_none, errW_some] <;> rfl) | (simp [*, errW_none, errW_some] <;> rfl), by first | exact Kd.R_nil _ _ _ _ _ | exact Kd.N_nil _ _ _ _ _ | exact Kd.V_nil _ _ _ _ _ | exact Kd.Q_nil _ _ _ _ _ | exact Kd.S_nil _ _ _ _ _, by repeat (first | (with_reducible first | exact HB.out | apply below_alloc | apply pw_below_drewN | apply below_drew1) | exact HB.out)⟩
  · rw [if_neg c3] at H
    have c3b0 : decide ((t362.length : Int) < 2) = false := decide_eq_false c3
    have c3b1 : decide (t362.length < 2) = false := decide_eq_false (by omega)
    clear c3
    by_cases c6 : 0 < (t362.length : Int)
    · rw [if_pos c6] at H
      have c6b0 : decide (0 < (t362.length : Int)) = true := decide_eq_true c6
      have c6b1 : decide (0 < t362.length) = true := decide_eq_true (by omega)
      clear c6
      replace H := Option.bind_eq_some_iff.mp H
      obtain ⟨⟨t367, t368, t369⟩, A70, H⟩ := H
      replace H : (if t369 = 0 then (manteletref09_Decode.j0 k l0 t362 t367 (decide (t367 > 255))) else (manteletref09_Decode.j0 k l0 t362 t367 true)) = some (r1, r2) := H
      have A7 := Aside0.mk A70
      clear A70
      have HC8 := Aside0.mk H
      clear H
      go_enter Try.func14, Try.ntmps14
      go_upto_region 5 with (first | ((with_reducible refine gate_callee (f := 18) rfl ?_); refine goesL_ (some 22) rfl rfl Try.func18 (by kernel_rfl) rfl #[.slice A0 l0.length c0] rfl (by (try simp only [List.map_toArray, List.map_cons, List.map_nil]); first | done | rfl | (simp only [List.length_drop, List.length_take]; rfl)) ?_; (with_reducible refine (manteletref03_Scan.calls k _ _ l0 t362 t363 _ ?side1 ?side2 A2.out).mono ?_); (case side1 => repeat (first | exact HR0.out | (with_reducible refine Kd.C_alloc ?_ _) | (with_reducible refine Kd.C_drewN ?_ _) | (with_reducible refine Kd.C_drew ?_))); (case side2 => exact HC0.out); rintro e w9 ⟨v364, rfl, ho0, hb⟩; refine ⟨_, rfl, ?_⟩; have n0_ := Aside0.mk (Kd.S_lower ho0 (below_size (by repeat (first | (with_reducible first | exact HB.out | apply below_alloc | apply pw_below_drewN | apply below_drew1) | exact HB.out)))); have n1_ := Aside0.mk (below_step (by repeat (first | (with_reducible first | exact HB.out | apply below_alloc | apply pw_below_drewN | apply below_drew1) | exact HB.out)) hb); clear HB; have HO365 := n0_; have HB := n1_; clear n0_ n1_; (try clear hb); (try clear hb2); (try clear hk); (try clear hi); (try clear ho0); obtain ⟨Ao10, co10, eo10⟩ := Kd.S_slice HO365.out; subst eo10; have p366 : 0 ≤ (0 : Int) := (by omega); have q366 : 0 < (t362.length : Int) := of_decide_eq_true (by first | (with_reducible assumption) | assumption); obtain ⟨ad366, A366_0, c366_0, e366, hx366_0, hl366_0, hi366_0⟩ := at_L4 (Kd.S_reads' HO365.out).2.2 0 p366 q366; cases e366; obtain ⟨ce366, hce366, hMe366, hcc366⟩ := Kd.S_get HO365.out [] 0 p366 (by first | exact q366 | exact of_decide_eq_true (by first | (with_reducible assumption) | assumption) | (have e_ := (Kd.S_reads' HO365.out).1; omega)); obtain ⟨ve366_0, rfl, ge366_0⟩ := hMe366; have hv366_0 := hcc366 0 _ rfl; rw [Nat.add_zero, show ((Kd.slice 5 (Kd.int .u8))).sz = 1 from rfl, Nat.mul_one] at hv366_0; replace hv366_0 := Option.some.inj (hv366_0.symm.trans hx366_0); rw [hv366_0] at ge366_0; have HL366_0 := Aside0.mk (show Kd.R (Kd.int .u8) 5 _ _ _ _ (rd_L4 t362 0) from ge366_0); clear hv366_0 ge366_0; clear hcc366 hce366; have qi366 : (0 < t362.length) = True := eq_true (by omega); (try rw [show ((0 : Int)).toNat = 0 from rfl] at hx366_0); (try rw [Addr.add_zero'] at hx366_0); have HR366_0 := Aside0.mk hi366_0; have HC366_0 := Aside0.mk hl366_0; clear hi366_0 hl366_0; replace p366 := eq_true p366; replace q366 := eq_true q366) | ((with_reducible refine gate_callee (f := 30) rfl ?_); refine goesL_ (some 32) rfl rfl Try.func30 (by kernel_rfl) rfl #[.slice A366_0 (rd_L4 t362 0).length c366_0] rfl (by (try simp only [List.map_toArray, List.map_cons, List.map_nil]); first | done | rfl | (simp only [List.length_drop, List.length_take]; rfl)) ?_; (with_reducible refine (manteletref01_Get.calls k _ _ (rd_L4 t362 0) t367 t368 t369 _ ?side1 ?side2 A7.out).mono ?_); (case side1 => repeat (first | exact (by repeat (first | (with_reducible exact HR366_0.out) | (with_reducible refine Kd.C_alloc ?_ _) | (with_reducible refine Kd.C_drewN ?_ _) | (with_reducible refine Kd.C_drew ?_) | exact HR366_0.out)) | (with_reducible refine Kd.C_alloc ?_ _) | (with_reducible refine Kd.C_drewN ?_ _) | (with_reducible refine Kd.C_drew ?_))); (case side2 => exact HC366_0.out); rintro e w' ⟨rfl, ⟨nd, rfl⟩⟩; refine ⟨_, rfl, ?_⟩))
      (try simp only [Act.put, List.setIfInBounds_toArray, List.set_cons_zero, List.set_cons_succ])
      go_cut [41] (fun v41 wc => ∃ (kq : Nat) (x41_7 : Bool), v41 = .bool x41_7 ∧ Aside0 (manteletref09_Decode.j0 kq l0 t362 t367 x41_7 = some (r1, r2)) ∧ Aside0 (kq ≤ k) ∧ Aside0 (Kd.S (Kd.slice 5 (Kd.int .u8)) 23 wc w.heap.size (fun _ => True) (.slice (some ad366) t362.length co10) t362) ∧ Aside0 (Kd.C (Kd.int .u8) wc A366_0 (rd_L4 t362 0).length (rd_L4 t362 0)) ∧ Aside0 (Below w.heap.size w wc))
      case first =>
        have H := HC8.out
        clear HC8
        by_cases c11 : t369 = 0
        · rw [if_pos c11] at H
          have c11b0 : (t369 == 0) = true := beq_iff_eq.mpr c11
          have c11b1 : (t369 != 0) = false := bne_eq_false_iff_eq.mpr c11
          clear c11
          (first | rw [c11b0] | (simp only [i64_w, i32_w]; rw [c11b0]) | skip)
          have H' := Aside0.mk H
          clear H
          go_wp2
          go_meet
          case rel => exact ⟨_, (decide (t367 > 255)), (by first | rfl | (simp; done) | (simp [*]; done)), H', ⟨by first | omega | exact Nat.le_refl _⟩, ⟨by (with_reducible repeat (first | apply Kd.S_alloc | apply Kd.S_drewN | apply Kd.S_drew)); exact HO365.out⟩, ⟨by repeat (first | (with_reducible exact HR366_0.out) | (with_reducible refine Kd.C_alloc ?_ _) | (with_reducible refine Kd.C_drewN ?_ _) | (with_reducible refine Kd.C_drew ?_) | exact HR366_0.out)⟩, ⟨by repeat (first | (with_reducible first | exact HB.out | apply below_alloc | apply pw_below_drewN | apply below_drew1) | exact HB.out)⟩⟩
        · rw [if_neg c11] at H
          have c11b0 : (t369 == 0) = false := beq_eq_false_iff_ne.mpr c11
          have c11b1 : (t369 != 0) = true := bne_iff_ne.mpr c11
          (first | rw [c11b0] | (simp only [i64_w, i32_w]; rw [c11b0]) | skip)
          have H' := Aside0.mk H
          clear H
          go_wp2
          go_meet
          case rel => exact ⟨_, (true), (by first | rfl | (simp; done) | (simp [*]; done)), H', ⟨by first | omega | exact Nat.le_refl _⟩, ⟨by (with_reducible repeat (first | apply Kd.S_alloc | apply Kd.S_drewN | apply Kd.S_drew)); exact HO365.out⟩, ⟨by repeat (first | (with_reducible exact HR366_0.out) | (with_reducible refine Kd.C_alloc ?_ _) | (with_reducible refine Kd.C_drewN ?_ _) | (with_reducible refine Kd.C_drew ?_) | exact HR366_0.out)⟩, ⟨by repeat (first | (with_reducible first | exact HB.out | apply below_alloc | apply pw_below_drewN | apply below_drew1) | exact HB.out)⟩⟩
      case rest =>
        clear HC8
        try clear c1
        try clear p2
        try clear c3
        try clear c3b0
        try clear c3b1
        try clear p3
        try clear q3
        try clear hx3
        try clear qi3
        try clear c6
        try clear c6b0
        try clear c6b1
        try clear c11
        try clear c11b0
        try clear c11b1
        try clear hx366_0
        try clear p366
        try clear q366
        obtain ⟨kq, x41_7, rfl, HA, HJ7, HO_4, HR366_0, HB⟩ := hcut
        cases kq with
        | zero => exact absurd HA.out (by simp [manteletref09_Decode.j0])
        | succ kj7 =>
          have H := HA.out
          clear HA
          simp only [manteletref09_Decode.j0] at H
          by_cases c12 : x41_7 = true
          · subst c12
            have H1 : (some (([] : List (S44)), 2)) = some (r1, r2) := by rw [if_pos rfl] at H; exact H
            clear H
            have H := H1
            clear H1
            simp only [Option.some.injEq, Prod.mk.injEq] at H
            obtain ⟨rfl, rfl⟩ := H
            go_wp2
            go_ret2
            exact ⟨_, by first | rfl | (simp [errW_none, errW_some] <;> rfl) | (simp [*, errW_none, errW_some] <;> rfl), by first | exact Kd.R_nil _ _ _ _ _ | exact Kd.N_nil _ _ _ _ _ | exact Kd.V_nil _ _ _ _ _ | exact Kd.Q_nil _ _ _ _ _ | exact Kd.S_nil _ _ _ _ _, by repeat (first | (with_reducible first | exact HB.out | apply below_alloc | apply pw_below_drewN | apply below_drew1) | exact HB.out)⟩
          · replace c12 := Bool.eq_false_iff.mpr c12
            subst c12
            have H1 : (manteletref09_Decode.l0 kj7 l0 t362 t367 ([] : List (S44)) 1) = some (r1, r2) := by rw [if_neg (show ¬ (false = true) by decide)] at H; exact H
            clear H
            have H := H1
            clear H1
            have H' := Aside0.mk H
            clear H
            go_wp2
            go_loopg [9, 10] kj7 (fun kq v9 v10 w' => ∃ (x9_2 : List (S44)) (x10_2 : Int), v10 = .int .i64 x10_2 ∧ Aside0 (manteletref09_Decode.l0 kq l0 t362 t367 x9_2 x10_2 = some (r1, r2)) ∧ Aside0 (kq ≤ kj7) ∧ Aside0 (Kd.S (Kd.slice 5 (Kd.int .u8)) 23 w' w.heap.size (fun _ => True) (.slice (some ad366) t362.length co10) t362) ∧ Aside0 (Kd.R k44 44 w' w.heap.size (fun _ => True) v9 x9_2) ∧ Aside0 (Below w.heap.size w w'))
            case atStart => exact ⟨(([] : List (S44))), (1), (by first | rfl | (simp; done) | (simp [*]; done)), H', ⟨Nat.le_refl _⟩, ⟨by (with_reducible repeat (first | apply Kd.S_alloc | apply Kd.S_drewN | apply Kd.S_drew)); exact HO_4.out⟩, ⟨by first | exact Kd.R_nil _ _ _ _ _ | exact Kd.N_nil _ _ _ _ _ | exact Kd.V_nil _ _ _ _ _ | exact Kd.Q_nil _ _ _ _ _ | exact Kd.S_nil _ _ _ _ _⟩, ⟨by repeat (first | (with_reducible first | exact HB.out | apply below_alloc | apply pw_below_drewN | apply below_drew1) | exact HB.out)⟩⟩
            case round =>
              clear H'
              try clear c1
              try clear p2
              try clear c3
              try clear c3b0
              try clear c3b1
              try clear p3
              try clear q3
              try clear hx3
              try clear qi3
              try clear c6
              try clear c6b0
              try clear c6b1
              try clear c11
              try clear c11b0
              try clear c11b1
              try clear c12
              try clear hx366_0
              try clear p2
              try clear p3
              try clear p366
              try clear q3
              try clear q366
              obtain ⟨x9_2, x10_2, rfl, HA, HK2, HO_4, HO_9, HB⟩ := hrel
              cases gk with
              | zero => exact absurd HA.out (by simp [manteletref09_Decode.l0])
              | succ k2 =>
                have H := HA.out
                clear HA
                simp only [manteletref09_Decode.l0] at H
                by_cases c13 : x10_2 < (wrap64 ((t362.length : Int) - 1))
                · rw [if_pos c13] at H
                  have c13b0 : decide (x10_2 < (wrap64 ((t362.length : Int) - 1))) = true := decide_eq_true c13
                  clear c13
                  by_cases c14 : 0 ≤ x10_2
                  · rw [if_pos c14] at H
                    have c14b0 : decide (0 ≤ x10_2) = true := decide_eq_true c14
                    clear c14
                    by_cases c15 : x10_2 < (t362.length : Int)
                    · rw [if_pos c15] at H
                      have c15b0 : decide (x10_2 < (t362.length : Int)) = true := decide_eq_true c15
                      clear c15
                      replace H := Option.bind_eq_some_iff.mp H
                      obtain ⟨⟨t375, t376, t377⟩, A160, H⟩ := H
                      replace H : (if t377 = 0 then (manteletref09_Decode.j2 k2 l0 t362 t367 x9_2 x10_2 t375 t376 (decide (t375 > 255))) else (manteletref09_Decode.j2 k2 l0 t362 t367 x9_2 x10_2 t375 t376 true)) = some (r1, r2) := H
                      have A16 := Aside0.mk A160
                      clear A160
                      have HC17 := Aside0.mk H
                      clear H
                      have p374 : 0 ≤ (x10_2 : Int) := of_decide_eq_true (by first | (with_reducible assumption) | assumption)
                      have q374 : x10_2 < (t362.length : Int) := of_decide_eq_true (by first | (with_reducible assumption) | assumption)
                      obtain ⟨ad374, A374_0, c374_0, e374, hx374_0, hl374_0, hi374_0⟩ := at_L4 (Kd.S_reads' HO_4.out).2.2 x10_2 p374 q374
                      obtain rfl : ad366 = ad374 := (by injection e374)
                      obtain ⟨ce374, hce374, hMe374, hcc374⟩ := Kd.S_get HO_4.out [] x10_2 p374 (by first | exact q374 | exact of_decide_eq_true (by first | (with_reducible assumption) | assumption) | (have e_ := (Kd.S_reads' HO_4.out).1; omega))
                      obtain ⟨ve374_0, rfl, ge374_0⟩ := hMe374
                      have hv374_0 := hcc374 0 _ rfl
                      rw [Nat.add_zero, show ((Kd.slice 5 (Kd.int .u8))).sz = 1 from rfl, Nat.mul_one] at hv374_0
                      replace hv374_0 := Option.some.inj (hv374_0.symm.trans hx374_0)
                      rw [hv374_0] at ge374_0
                      have HL374_0 := Aside0.mk (show Kd.R (Kd.int .u8) 5 _ _ _ _ (rd_L4 t362 x10_2) from ge374_0)
                      clear hv374_0 ge374_0
                      clear hcc374 hce374
                      have HR374_0 := Aside0.mk hi374_0
                      have HC374_0 := Aside0.mk hl374_0
                      clear hi374_0 hl374_0
                      replace p374 := eq_true p374
                      replace q374 := eq_true q374
                      go_upto_region 12 with (first | ((with_reducible refine gate_callee (f := 30) rfl ?_); refine goesL_ (some 54) rfl rfl Try.func30 (by kernel_rfl) rfl #[.slice A374_0 (rd_L4 t362 x10_2).length c374_0] rfl (by (try simp only [List.map_toArray, List.map_cons, List.map_nil]); first | done | rfl | (simp only [List.length_drop, List.length_take]; rfl)) ?_; (with_reducible refine (manteletref01_Get.calls k2 _ _ (rd_L4 t362 x10_2) t375 t376 t377 _ ?side1 ?side2 A16.out).mono ?_); (case side1 => repeat (first | exact (by repeat (first | (with_reducible exact HR374_0.out) | (with_reducible refine Kd.C_alloc ?_ _) | (with_reducible refine Kd.C_drewN ?_ _) | (with_reducible refine Kd.C_drew ?_) | exact HR374_0.out)) | (with_reducible refine Kd.C_alloc ?_ _) | (with_reducible refine Kd.C_drewN ?_ _) | (with_reducible refine Kd.C_drew ?_))); (case side2 => exact HC374_0.out); rintro e w' ⟨rfl, ⟨nd, rfl⟩⟩; refine ⟨_, rfl, ?_⟩))
                      (try simp only [Act.put, List.setIfInBounds_toArray, List.set_cons_zero, List.set_cons_succ])
                      go_cut [63] (fun v63 wc => ∃ (kq : Nat) (x63_16 : Bool), v63 = .bool x63_16 ∧ Aside0 (manteletref09_Decode.j2 kq l0 t362 t367 x9_2 x10_2 t375 t376 x63_16 = some (r1, r2)) ∧ Aside0 (kq ≤ k2) ∧ Aside0 (Kd.S (Kd.slice 5 (Kd.int .u8)) 23 wc w.heap.size (fun _ => True) (.slice (some ad366) t362.length co10) t362) ∧ Aside0 (Kd.R k44 44 wc w.heap.size (fun _ => True) u9 x9_2) ∧ Aside0 (Kd.C (Kd.int .u8) wc A374_0 (rd_L4 t362 x10_2).length (rd_L4 t362 x10_2)) ∧ Aside0 (Below w.heap.size w wc))
                      case first =>
                        have H := HC17.out
                        clear HC17
                        by_cases c18 : t377 = 0
                        · rw [if_pos c18] at H
                          have c18b0 : (t377 == 0) = true := beq_iff_eq.mpr c18
                          have c18b1 : (t377 != 0) = false := bne_eq_false_iff_eq.mpr c18
                          clear c18
                          (first | rw [c18b0] | (simp only [i64_w, i32_w]; rw [c18b0]) | skip)
                          have H' := Aside0.mk H
                          clear H
                          go_wp2
                          go_meet
                          case rel => exact ⟨_, (decide (t375 > 255)), (by first | rfl | (simp; done) | (simp [*]; done)), H', ⟨by have := HJ7.out; have := HK2.out; first | omega | exact Nat.le_refl _⟩, ⟨by (with_reducible repeat (first | apply Kd.S_alloc | apply Kd.S_drewN | apply Kd.S_drew)); exact HO_4.out⟩, ⟨by (with_reducible repeat (first | apply Kd.R_alloc | apply Kd.R_drewN | apply Kd.R_drew)); exact HO_9.out⟩, ⟨by repeat (first | (with_reducible exact HR374_0.out) | (with_reducible refine Kd.C_alloc ?_ _) | (with_reducible refine Kd.C_drewN ?_ _) | (with_reducible refine Kd.C_drew ?_) | exact HR374_0.out)⟩, ⟨by repeat (first | (with_reducible first | exact HB.out | apply below_alloc | apply pw_below_drewN | apply below_drew1) | exact HB.out)⟩⟩
                        · rw [if_neg c18] at H
                          have c18b0 : (t377 == 0) = false := beq_eq_false_iff_ne.mpr c18
                          have c18b1 : (t377 != 0) = true := bne_iff_ne.mpr c18
                          (first | rw [c18b0] | (simp only [i64_w, i32_w]; rw [c18b0]) | skip)
                          have H' := Aside0.mk H
                          clear H
                          go_wp2
                          go_meet
                          case rel => exact ⟨_, (true), (by first | rfl | (simp; done) | (simp [*]; done)), H', ⟨by have := HJ7.out; have := HK2.out; first | omega | exact Nat.le_refl _⟩, ⟨by (with_reducible repeat (first | apply Kd.S_alloc | apply Kd.S_drewN | apply Kd.S_drew)); exact HO_4.out⟩, ⟨by (with_reducible repeat (first | apply Kd.R_alloc | apply Kd.R_drewN | apply Kd.R_drew)); exact HO_9.out⟩, ⟨by repeat (first | (with_reducible exact HR374_0.out) | (with_reducible refine Kd.C_alloc ?_ _) | (with_reducible refine Kd.C_drewN ?_ _) | (with_reducible refine Kd.C_drew ?_) | exact HR374_0.out)⟩, ⟨by repeat (first | (with_reducible first | exact HB.out | apply below_alloc | apply pw_below_drewN | apply below_drew1) | exact HB.out)⟩⟩
                      case rest =>
                        clear HC17
                        try clear c1
                        try clear p2
                        try clear c3
                        try clear c3b0
                        try clear c3b1
                        try clear p3
                        try clear q3
                        try clear hx3
                        try clear qi3
                        try clear c6
                        try clear c6b0
                        try clear c6b1
                        try clear p6
                        try clear c11
                        try clear c11b0
                        try clear c11b1
                        try clear c12
                        try clear c13
                        try clear c13b0
                        try clear c14
                        try clear c14b0
                        try clear c15
                        try clear c15b0
                        try clear c18
                        try clear c18b0
                        try clear c18b1
                        try clear hx366_0
                        try clear hx374_0
                        try clear p2
                        try clear p3
                        try clear p366
                        try clear p374
                        try clear q3
                        try clear q366
                        try clear q374
                        obtain ⟨kq, x63_16, rfl, HA, HJ16, HO_4, HO_9, HR374_0, HB⟩ := hcut
                        cases kq with
                        | zero => exact absurd HA.out (by simp [manteletref09_Decode.j2])
                        | succ kj16 =>
                          have H := HA.out
                          clear HA
                          simp only [manteletref09_Decode.j2] at H
                          by_cases c19 : x63_16 = true
                          · subst c19
                            have H1 : (some (([] : List (S44)), 2)) = some (r1, r2) := by rw [if_pos rfl] at H; exact H
                            clear H
                            have H := H1
                            clear H1
                            simp only [Option.some.injEq, Prod.mk.injEq] at H
                            obtain ⟨rfl, rfl⟩ := H
                            go_wp2
                            go_ret2
                            exact ⟨_, by first | rfl | (simp [errW_none, errW_some] <;> rfl) | (simp [*, errW_none, errW_some] <;> rfl), by first | exact Kd.R_nil _ _ _ _ _ | exact Kd.N_nil _ _ _ _ _ | exact Kd.V_nil _ _ _ _ _ | exact Kd.Q_nil _ _ _ _ _ | exact Kd.S_nil _ _ _ _ _, by repeat (first | (with_reducible first | exact HB.out | apply below_alloc | apply pw_below_drewN | apply below_drew1) | exact HB.out)⟩
                          · replace c19 := Bool.eq_false_iff.mpr c19
                            subst c19
                            have H1 : (manteletref09_Decode.l1 kj16 l0 t362 t367 x9_2 x10_2 t375 t376 (⟨#[]⟩ : ByteArray) 0) = some (r1, r2) := by rw [if_neg (show ¬ (false = true) by decide)] at H; exact H
                            clear H
                            have H := H1
                            clear H1
                            have H' := Aside0.mk H
                            clear H
                            go_wp2
                            go_loopg [9, 12, 14, 15] kj16 (fun kq v9 v12 v14 v15 w' => ∃ (x9_4 : List (S44)) (x12_4 : Int) (x14_4 : ByteArray) (x15_4 : Int), v12 = .int .i64 x12_4 ∧ v14 = .string x14_4 ∧ v15 = .int .i64 x15_4 ∧ Aside0 (manteletref09_Decode.l1 kq l0 t362 t367 x9_4 x10_2 t375 x12_4 x14_4 x15_4 = some (r1, r2)) ∧ Aside0 (kq ≤ kj16) ∧ Aside0 (Kd.S (Kd.slice 5 (Kd.int .u8)) 23 w' w.heap.size (fun _ => True) (.slice (some ad366) t362.length co10) t362) ∧ Aside0 (Kd.R k44 44 w' w.heap.size (fun _ => True) v9 x9_4) ∧ Aside0 (Below w.heap.size w w'))
                            case atStart => exact ⟨(x9_2), (t376), ((⟨#[]⟩ : ByteArray)), (0), (by first | rfl | (simp; done) | (simp [*]; done)), (by first | rfl | (simp; done) | (simp [*]; done)), (by first | rfl | (simp; done) | (simp [*]; done)), H', ⟨Nat.le_refl _⟩, ⟨by (with_reducible repeat (first | apply Kd.S_alloc | apply Kd.S_drewN | apply Kd.S_drew)); exact HO_4.out⟩, ⟨by (with_reducible repeat (first | apply Kd.R_alloc | apply Kd.R_drewN | apply Kd.R_drew)); exact HO_9.out⟩, ⟨by repeat (first | (with_reducible first | exact HB.out | apply below_alloc | apply pw_below_drewN | apply below_drew1) | exact HB.out)⟩⟩
                            case round =>
                              clear H'
                              try clear c1
                              try clear p2
                              try clear c3
                              try clear c3b0
                              try clear c3b1
                              try clear p3
                              try clear q3
                              try clear hx3
                              try clear qi3
                              try clear c6
                              try clear c6b0
                              try clear c6b1
                              try clear p6
                              try clear c11
                              try clear c11b0
                              try clear c11b1
                              try clear c12
                              try clear c13
                              try clear c13b0
                              try clear c14
                              try clear c14b0
                              try clear c15
                              try clear c15b0
                              try clear c18
                              try clear c18b0
                              try clear c18b1
                              try clear c19
                              try clear hx366_0
                              try clear hx374_0
                              try clear p2
                              try clear p3
                              try clear p366
                              try clear p374
                              try clear p6
                              try clear q3
                              try clear q366
                              try clear q374
                              obtain ⟨x9_4, x12_4, x14_4, x15_4, rfl, rfl, rfl, HA, HK4, HO_4, HO_9, HB⟩ := hrel
                              cases gk with
                              | zero => exact absurd HA.out (by simp [manteletref09_Decode.l1])
                              | succ k4 =>
                                have H := HA.out
                                clear HA
                                simp only [manteletref09_Decode.l1] at H
                                by_cases c20 : x15_4 < (wrap64 (t375))
                                · rw [if_pos c20] at H
                                  have c20b0 : decide (x15_4 < (wrap64 (t375))) = true := decide_eq_true c20
                                  clear c20
                                  by_cases c21 : 0 ≤ x10_2
                                  · rw [if_pos c21] at H
                                    have c21b0 : decide (0 ≤ x10_2) = true := decide_eq_true c21
                                    clear c21
                                    by_cases c22 : x10_2 < (t362.length : Int)
                                    · rw [if_pos c22] at H
                                      have c22b0 : decide (x10_2 < (t362.length : Int)) = true := decide_eq_true c22
                                      clear c22
                                      by_cases c23 : 0 ≤ x12_4
                                      · rw [if_pos c23] at H
                                        have c23b0 := eq_true c23
                                        have c23b1 : decide (0 ≤ x12_4) = true := decide_eq_true c23
                                        clear c23
                                        by_cases c24 : x12_4 ≤ ((rd_L4 t362 x10_2).length : Int)
                                        · rw [if_pos c24] at H
                                          have c24b0 := eq_true c24
                                          have c24b1 : decide (x12_4 ≤ ((rd_L4 t362 x10_2).length : Int)) = true := decide_eq_true c24
                                          clear c24
                                          obtain ⟨y379, hy379⟩ : ∃ y_ : List Int, y_ = ((rd_L4 t362 x10_2).drop (x12_4 : Int).toNat) := ⟨_, rfl⟩
                                          replace H : ((manteletref09_take.f k4 x14_4 y379).bind fun bt383 => (if bt383.2.2 = 0 then (some (([] : List (S44)), 2)) else (if x9_4.length < 5864062014805 then (manteletref09_Decode.l1 k4 l0 t362 t367 (x9_4 ++ [(⟨bt383.1, bt383.2.1⟩ : S44)]) x10_2 t375 (wrap64 (x12_4 + bt383.2.2)) bt383.1 (wrap64 (x15_4 + 1))) else (none)))) = some (r1, r2) := by first | (rw [hy379]; with_reducible exact H) | (have H2_ := (Option.bind_some _ _).symm.trans H; rw [hy379]; with_reducible exact H2_) | (have H2_ := (Option.bind_some _ _).symm.trans H; with_reducible exact H2_) | with_reducible exact H | (rw [hy379]; exact H) | exact H
                                          have Ny379 := Aside0.mk hy379
                                          clear hy379
                                          replace H := Option.bind_eq_some_iff.mp H
                                          obtain ⟨⟨t383, t384, t385⟩, A250, H⟩ := H
                                          replace H : (if t385 = 0 then (some (([] : List (S44)), 2)) else (if x9_4.length < 5864062014805 then (manteletref09_Decode.l1 k4 l0 t362 t367 (x9_4 ++ [(⟨t383, t384⟩ : S44)]) x10_2 t375 (wrap64 (x12_4 + t385)) t383 (wrap64 (x15_4 + 1))) else (none))) = some (r1, r2) := H
                                          have A25 := Aside0.mk A250
                                          clear A250
                                          by_cases c26 : t385 = 0
                                          · rw [if_pos c26] at H
                                            have c26b0 : (t385 == 0) = true := beq_iff_eq.mpr c26
                                            have c26b1 : (t385 != 0) = false := bne_eq_false_iff_eq.mpr c26
                                            clear c26
                                            simp only [Option.some.injEq, Prod.mk.injEq] at H
                                            obtain ⟨rfl, rfl⟩ := H
                                            have p378 : 0 ≤ (x10_2 : Int) := of_decide_eq_true (by first | (with_reducible assumption) | assumption)
                                            have q378 : x10_2 < (t362.length : Int) := of_decide_eq_true (by first | (with_reducible assumption) | assumption)
                                            obtain ⟨ad378, A378_0, c378_0, e378, hx378_0, hl378_0, hi378_0⟩ := at_L4 (Kd.S_reads' HO_4.out).2.2 x10_2 p378 q378
                                            obtain rfl : ad366 = ad378 := (by injection e378)
                                            obtain ⟨ce378, hce378, hMe378, hcc378⟩ := Kd.S_get HO_4.out [] x10_2 p378 (by first | exact q378 | exact of_decide_eq_true (by first | (with_reducible assumption) | assumption) | (have e_ := (Kd.S_reads' HO_4.out).1; omega))
                                            obtain ⟨ve378_0, rfl, ge378_0⟩ := hMe378
                                            have hv378_0 := hcc378 0 _ rfl
                                            rw [Nat.add_zero, show ((Kd.slice 5 (Kd.int .u8))).sz = 1 from rfl, Nat.mul_one] at hv378_0
                                            replace hv378_0 := Option.some.inj (hv378_0.symm.trans hx378_0)
                                            rw [hv378_0] at ge378_0
                                            have HL378_0 := Aside0.mk (show Kd.R (Kd.int .u8) 5 _ _ _ _ (rd_L4 t362 x10_2) from ge378_0)
                                            clear hv378_0 ge378_0
                                            clear hcc378 hce378
                                            have HR378_0 := Aside0.mk hi378_0
                                            have HC378_0 := Aside0.mk hl378_0
                                            clear hi378_0 hl378_0
                                            replace p378 := eq_true p378
                                            replace q378 := eq_true q378
                                            have q27 : (x12_4 : Int) ≤ (((rd_L4 t362 x10_2).length : Int) : Int) := of_decide_eq_true (by first | (with_reducible assumption) | assumption)
                                            obtain ⟨i027, hi027, _, hsz27, _⟩ := info_parts info5
                                            have hroom27 : (rd_L4 t362 x10_2).length ≤ c378_0 := HC378_0.out
                                            have hC27 : Kd.C (Kd.int .u8) _ A378_0 (rd_L4 t362 x10_2).length (rd_L4 t362 x10_2) := (by repeat (first | (with_reducible exact HR378_0.out) | (with_reducible refine Kd.C_alloc ?_ _) | (with_reducible refine Kd.C_drewN ?_ _) | (with_reducible refine Kd.C_drew ?_) | exact HR378_0.out))
                                            have q027 : (0 : Int) ≤ (x12_4 : Int) := of_decide_eq_true (by first | (with_reducible assumption) | assumption)
                                            have hcut27 := cut_from (P := Try.prog) 23 5 .i64 Try.underlying23 hi027 1 hsz27 A378_0 (rd_L4 t362 x10_2).length c378_0 x12_4 q027 q27
                                            have hr27 := Kd.C_drop (m := (x12_4 : Int).toNat) (c := c378_0) hC27 (by omega) hroom27
                                            obtain ⟨A27, hA27⟩ : ∃ A1, A1 = (if c378_0 = (x12_4 : Int).toNat then A378_0 else (A378_0 : Option Addr).map (·.add ((x12_4 : Int).toNat * 1))) := ⟨_, rfl⟩
                                            obtain ⟨c27, hc27⟩ : ∃ c1, c1 = c378_0 - (x12_4 : Int).toNat := ⟨_, rfl⟩
                                            have hy27 : y379.length = (rd_L4 t362 x10_2).length - (x12_4 : Int).toNat := (by rw [Ny379.out, List.length_drop] <;> omega)
                                            rw [show (rd_L4 t362 x10_2).drop (x12_4 : Int).toNat = y379 from Ny379.out.symm] at hr27
                                            replace hr27 : Kd.C (Kd.int .u8) _ A27 y379.length y379 := (by rw [hA27]; exact hr27)
                                            rw [← hy27, ← hA27, ← hc27] at hcut27
                                            have HR382 := Aside0.mk hr27
                                            have HC382 := Aside0.mk (show y379.length ≤ c27 from by rw [hy27, hc27]; exact Nat.sub_le_sub_right hroom27 _)
                                            clear hr27 hC27 hroom27 hi027 hsz27 hc27
                                            have KY27 := Aside0.mk hy27
                                            have KA27 := Aside0.mk hA27
                                            clear hy27 hA27
                                            replace q27 := eq_true q27
                                            go_wp2_with (first | ((with_reducible refine gate_callee (f := 31) rfl ?_); refine goesL_ (some 78) rfl rfl Try.func31 (by kernel_rfl) rfl #[.string x14_4, .slice A27 y379.length c27] rfl (by (try simp only [List.map_toArray, List.map_cons, List.map_nil]); first | done | rfl | (simp only [List.length_drop, List.length_take]; rfl)) ?_; (with_reducible refine (manteletref09_take.calls k4 x14_4 _ _ y379 t383 t384 t385 _ ?side1 ?side2 A25.out).mono ?_); (case side1 => repeat (first | exact (by repeat (first | (with_reducible exact HR382.out) | (with_reducible refine Kd.C_alloc ?_ _) | (with_reducible refine Kd.C_drewN ?_ _) | (with_reducible refine Kd.C_drew ?_) | exact HR382.out)) | (with_reducible refine Kd.C_alloc ?_ _) | (with_reducible refine Kd.C_drewN ?_ _) | (with_reducible refine Kd.C_drew ?_))); (case side2 => exact HC382.out); rintro e w28 ⟨rfl, hb⟩; refine ⟨_, rfl, ?_⟩; have n0_ := Aside0.mk (Kd.S_below (by (with_reducible repeat (first | apply Kd.S_alloc | apply Kd.S_drewN | apply Kd.S_drew)); exact HO_4.out) hb); have n1_ := Aside0.mk (Kd.R_below (by (with_reducible repeat (first | apply Kd.R_alloc | apply Kd.R_drewN | apply Kd.R_drew)); exact HO_9.out) hb); have n2_ := Aside0.mk (Kd.R_below (by (with_reducible repeat (first | apply Kd.R_alloc | apply Kd.R_drewN | apply Kd.R_drew)); exact HL378_0.out) hb); have n3_ := Aside0.mk (Kd.C_below (by repeat (first | (with_reducible exact HR378_0.out) | (with_reducible refine Kd.C_alloc ?_ _) | (with_reducible refine Kd.C_drewN ?_ _) | (with_reducible refine Kd.C_drew ?_) | exact HR378_0.out)) hb); have n4_ := Aside0.mk (Kd.C_below (by repeat (first | (with_reducible exact HR382.out) | (with_reducible refine Kd.C_alloc ?_ _) | (with_reducible refine Kd.C_drewN ?_ _) | (with_reducible refine Kd.C_drew ?_) | exact HR382.out)) hb); have n5_ := Aside0.mk (below_step (by repeat (first | (with_reducible first | exact HB.out | apply below_alloc | apply pw_below_drewN | apply below_drew1) | exact HB.out)) hb); clear HO_4; clear HO_9; clear HL378_0; clear HR378_0; clear HR382; clear HB; have HO_4 := n0_; have HO_9 := n1_; have HL378_0 := n2_; have HR378_0 := n3_; have HR382 := n4_; have HB := n5_; clear n0_ n1_ n2_ n3_ n4_ n5_; (try clear hb); (try clear hb2); (try clear hk); (try clear hi)) | ((with_reducible refine gate_dst (N := 16) rfl ?_); refine box_event ?hg (N := 16) ?hd (cs := #[.string (⟨#[]⟩ : ByteArray), .int .u64 0]) (t := 44) ?hr ?_; (case hd => rfl); (case hg => rfl); (case hr => first | (go_simp; done) | (go_simp; rfl)); intro gb386 hg w29 hbox hb; have n0_ := Aside0.mk (Kd.S_below (by (with_reducible repeat (first | apply Kd.S_alloc | apply Kd.S_drewN | apply Kd.S_drew)); exact HO_4.out) hb); have n1_ := Aside0.mk (Kd.R_below (Kd.R_elderB (by (with_reducible repeat (first | apply Kd.R_alloc | apply Kd.R_drewN | apply Kd.R_drew)); exact HO_9.out) gb386 (Nat.le_of_eq hg.symm)) hb); have n2_ := Aside0.mk (Kd.R_below (by (with_reducible repeat (first | apply Kd.R_alloc | apply Kd.R_drewN | apply Kd.R_drew)); exact HL378_0.out) hb); have n3_ := Aside0.mk (Kd.C_below (by repeat (first | (with_reducible exact HR378_0.out) | (with_reducible refine Kd.C_alloc ?_ _) | (with_reducible refine Kd.C_drewN ?_ _) | (with_reducible refine Kd.C_drew ?_) | exact HR378_0.out)) hb); have n4_ := Aside0.mk (Kd.C_below (by repeat (first | (with_reducible exact HR382.out) | (with_reducible refine Kd.C_alloc ?_ _) | (with_reducible refine Kd.C_drewN ?_ _) | (with_reducible refine Kd.C_drew ?_) | exact HR382.out)) hb); have n5_ := Aside0.mk (below_step (by repeat (first | (with_reducible first | exact HB.out | apply below_alloc | apply pw_below_drewN | apply below_drew1) | exact HB.out)) hb); have n6_ := Aside0.mk (hbox); have n7_ := Aside0.mk ((by rw [hg]; exact (below_size (by repeat (first | (with_reducible first | exact HB.out | apply below_alloc | apply pw_below_drewN | apply below_drew1) | exact HB.out))) : w.heap.size ≤ gb386)); have n8_ := Aside0.mk ((by rw [hg]; exact (below_size (by repeat (first | (with_reducible first | exact HB.out | apply below_alloc | apply pw_below_drewN | apply below_drew1) | exact HB.out))) : w.heap.size ≤ gb386)); clear HO_4; clear HO_9; clear HL378_0; clear HR378_0; clear HR382; clear HB; have HO_4 := n0_; have HO_9 := n1_; have HL378_0 := n2_; have HR378_0 := n3_; have HR382 := n4_; have HB := n5_; have BK386 := n6_; have GW386 := n7_; have GE386 := n8_; clear n0_ n1_ n2_ n3_ n4_ n5_ n6_ n7_ n8_; clear hb hbox hg; have hcz30_0 : w29.cell? ⟨gb386, 0, none⟩ = some (.string (⟨#[]⟩ : ByteArray)) := (blk_cell BK386.out 0).trans rfl; have hcz30_1 : w29.cell? ⟨gb386, 1, none⟩ = some (.int .u64 0) := (blk_cell BK386.out 1).trans rfl; have hfz30_0 := blk_frozen BK386.out 0; have hfz30_1 := blk_frozen BK386.out 1))
                                            go_ret2
                                            exact ⟨_, by first | rfl | (simp [errW_none, errW_some] <;> rfl) | (simp [*, errW_none, errW_some] <;> rfl), by first | exact Kd.R_nil _ _ _ _ _ | exact Kd.N_nil _ _ _ _ _ | exact Kd.V_nil _ _ _ _ _ | exact Kd.Q_nil _ _ _ _ _ | exact Kd.S_nil _ _ _ _ _, by repeat (first | (with_reducible first | exact HB.out | apply below_alloc | apply pw_below_drewN | apply below_drew1 | refine below_set ?_ GE386.out) | exact HB.out)⟩
                                          · rw [if_neg c26] at H
                                            have c26b0 : (t385 == 0) = false := beq_eq_false_iff_ne.mpr c26
                                            have c26b1 : (t385 != 0) = true := bne_iff_ne.mpr c26
                                            by_cases c31 : x9_4.length < 5864062014805
                                            · rw [if_pos c31] at H
                                              have LMc31 := Aside0.mk c31
                                              clear c31
                                              obtain ⟨y387, hy387⟩ : ∃ y_ : List (S44), y_ = (x9_4 ++ [(⟨t383, t384⟩ : S44)]) := ⟨_, rfl⟩
                                              replace H : (manteletref09_Decode.l1 k4 l0 t362 t367 y387 x10_2 t375 (wrap64 (x12_4 + t385)) t383 (wrap64 (x15_4 + 1))) = some (r1, r2) := by first | (rw [hy387]; with_reducible exact H) | (have H2_ := (Option.bind_some _ _).symm.trans H; rw [hy387]; with_reducible exact H2_) | (have H2_ := (Option.bind_some _ _).symm.trans H; with_reducible exact H2_) | with_reducible exact H | (rw [hy387]; exact H) | exact H
                                              have Ny387 := Aside0.mk hy387
                                              clear hy387
                                              have H' := Aside0.mk H
                                              clear H
                                              have p378 : 0 ≤ (x10_2 : Int) := of_decide_eq_true (by first | (with_reducible assumption) | assumption)
                                              have q378 : x10_2 < (t362.length : Int) := of_decide_eq_true (by first | (with_reducible assumption) | assumption)
                                              obtain ⟨ad378, A378_0, c378_0, e378, hx378_0, hl378_0, hi378_0⟩ := at_L4 (Kd.S_reads' HO_4.out).2.2 x10_2 p378 q378
                                              obtain rfl : ad366 = ad378 := (by injection e378)
                                              obtain ⟨ce378, hce378, hMe378, hcc378⟩ := Kd.S_get HO_4.out [] x10_2 p378 (by first | exact q378 | exact of_decide_eq_true (by first | (with_reducible assumption) | assumption) | (have e_ := (Kd.S_reads' HO_4.out).1; omega))
                                              obtain ⟨ve378_0, rfl, ge378_0⟩ := hMe378
                                              have hv378_0 := hcc378 0 _ rfl
                                              rw [Nat.add_zero, show ((Kd.slice 5 (Kd.int .u8))).sz = 1 from rfl, Nat.mul_one] at hv378_0
                                              replace hv378_0 := Option.some.inj (hv378_0.symm.trans hx378_0)
                                              rw [hv378_0] at ge378_0
                                              have HL378_0 := Aside0.mk (show Kd.R (Kd.int .u8) 5 _ _ _ _ (rd_L4 t362 x10_2) from ge378_0)
                                              clear hv378_0 ge378_0
                                              clear hcc378 hce378
                                              have HR378_0 := Aside0.mk hi378_0
                                              have HC378_0 := Aside0.mk hl378_0
                                              clear hi378_0 hl378_0
                                              replace p378 := eq_true p378
                                              replace q378 := eq_true q378
                                              have q32 : (x12_4 : Int) ≤ (((rd_L4 t362 x10_2).length : Int) : Int) := of_decide_eq_true (by first | (with_reducible assumption) | assumption)
                                              obtain ⟨i032, hi032, _, hsz32, _⟩ := info_parts info5
                                              have hroom32 : (rd_L4 t362 x10_2).length ≤ c378_0 := HC378_0.out
                                              have hC32 : Kd.C (Kd.int .u8) _ A378_0 (rd_L4 t362 x10_2).length (rd_L4 t362 x10_2) := (by repeat (first | (with_reducible exact HR378_0.out) | (with_reducible refine Kd.C_alloc ?_ _) | (with_reducible refine Kd.C_drewN ?_ _) | (with_reducible refine Kd.C_drew ?_) | exact HR378_0.out))
                                              have q032 : (0 : Int) ≤ (x12_4 : Int) := of_decide_eq_true (by first | (with_reducible assumption) | assumption)
                                              have hcut32 := cut_from (P := Try.prog) 23 5 .i64 Try.underlying23 hi032 1 hsz32 A378_0 (rd_L4 t362 x10_2).length c378_0 x12_4 q032 q32
                                              have hr32 := Kd.C_drop (m := (x12_4 : Int).toNat) (c := c378_0) hC32 (by omega) hroom32
                                              obtain ⟨A32, hA32⟩ : ∃ A1, A1 = (if c378_0 = (x12_4 : Int).toNat then A378_0 else (A378_0 : Option Addr).map (·.add ((x12_4 : Int).toNat * 1))) := ⟨_, rfl⟩
                                              obtain ⟨c32, hc32⟩ : ∃ c1, c1 = c378_0 - (x12_4 : Int).toNat := ⟨_, rfl⟩
                                              have hy32 : y379.length = (rd_L4 t362 x10_2).length - (x12_4 : Int).toNat := (by rw [Ny379.out, List.length_drop] <;> omega)
                                              rw [show (rd_L4 t362 x10_2).drop (x12_4 : Int).toNat = y379 from Ny379.out.symm] at hr32
                                              replace hr32 : Kd.C (Kd.int .u8) _ A32 y379.length y379 := (by rw [hA32]; exact hr32)
                                              rw [← hy32, ← hA32, ← hc32] at hcut32
                                              have HR382 := Aside0.mk hr32
                                              have HC382 := Aside0.mk (show y379.length ≤ c32 from by rw [hy32, hc32]; exact Nat.sub_le_sub_right hroom32 _)
                                              clear hr32 hC32 hroom32 hi032 hsz32 hc32
                                              have KY32 := Aside0.mk hy32
                                              have KA32 := Aside0.mk hA32
                                              clear hy32 hA32
                                              replace q32 := eq_true q32
                                              go_wp2_with (first | ((with_reducible refine gate_callee (f := 31) rfl ?_); refine goesL_ (some 78) rfl rfl Try.func31 (by kernel_rfl) rfl #[.string x14_4, .slice A32 y379.length c32] rfl (by (try simp only [List.map_toArray, List.map_cons, List.map_nil]); first | done | rfl | (simp only [List.length_drop, List.length_take]; rfl)) ?_; (with_reducible refine (manteletref09_take.calls k4 x14_4 _ _ y379 t383 t384 t385 _ ?side1 ?side2 A25.out).mono ?_); (case side1 => repeat (first | exact (by repeat (first | (with_reducible exact HR382.out) | (with_reducible refine Kd.C_alloc ?_ _) | (with_reducible refine Kd.C_drewN ?_ _) | (with_reducible refine Kd.C_drew ?_) | exact HR382.out)) | (with_reducible refine Kd.C_alloc ?_ _) | (with_reducible refine Kd.C_drewN ?_ _) | (with_reducible refine Kd.C_drew ?_))); (case side2 => exact HC382.out); rintro e w33 ⟨rfl, hb⟩; refine ⟨_, rfl, ?_⟩; have n0_ := Aside0.mk (Kd.S_below (by (with_reducible repeat (first | apply Kd.S_alloc | apply Kd.S_drewN | apply Kd.S_drew)); exact HO_4.out) hb); have n1_ := Aside0.mk (Kd.R_below (by (with_reducible repeat (first | apply Kd.R_alloc | apply Kd.R_drewN | apply Kd.R_drew)); exact HO_9.out) hb); have n2_ := Aside0.mk (Kd.R_below (by (with_reducible repeat (first | apply Kd.R_alloc | apply Kd.R_drewN | apply Kd.R_drew)); exact HL378_0.out) hb); have n3_ := Aside0.mk (Kd.C_below (by repeat (first | (with_reducible exact HR378_0.out) | (with_reducible refine Kd.C_alloc ?_ _) | (with_reducible refine Kd.C_drewN ?_ _) | (with_reducible refine Kd.C_drew ?_) | exact HR378_0.out)) hb); have n4_ := Aside0.mk (Kd.C_below (by repeat (first | (with_reducible exact HR382.out) | (with_reducible refine Kd.C_alloc ?_ _) | (with_reducible refine Kd.C_drewN ?_ _) | (with_reducible refine Kd.C_drew ?_) | exact HR382.out)) hb); have n5_ := Aside0.mk (below_step (by repeat (first | (with_reducible first | exact HB.out | apply below_alloc | apply pw_below_drewN | apply below_drew1) | exact HB.out)) hb); clear HO_4; clear HO_9; clear HL378_0; clear HR378_0; clear HR382; clear HB; have HO_4 := n0_; have HO_9 := n1_; have HL378_0 := n2_; have HR378_0 := n3_; have HR382 := n4_; have HB := n5_; clear n0_ n1_ n2_ n3_ n4_ n5_; (try clear hb); (try clear hb2); (try clear hk); (try clear hi)) | ((with_reducible refine gate_dst (N := 16) rfl ?_); refine box_event ?hg (N := 16) ?hd (cs := #[.string (⟨#[]⟩ : ByteArray), .int .u64 0]) (t := 44) ?hr ?_; (case hd => rfl); (case hg => rfl); (case hr => first | (go_simp; done) | (go_simp; rfl)); intro gb386 hg w34 hbox hb; have n0_ := Aside0.mk (Kd.S_below (by (with_reducible repeat (first | apply Kd.S_alloc | apply Kd.S_drewN | apply Kd.S_drew)); exact HO_4.out) hb); have n1_ := Aside0.mk (Kd.R_below (Kd.R_elderB (by (with_reducible repeat (first | apply Kd.R_alloc | apply Kd.R_drewN | apply Kd.R_drew)); exact HO_9.out) gb386 (Nat.le_of_eq hg.symm)) hb); have n2_ := Aside0.mk (Kd.R_below (by (with_reducible repeat (first | apply Kd.R_alloc | apply Kd.R_drewN | apply Kd.R_drew)); exact HL378_0.out) hb); have n3_ := Aside0.mk (Kd.C_below (by repeat (first | (with_reducible exact HR378_0.out) | (with_reducible refine Kd.C_alloc ?_ _) | (with_reducible refine Kd.C_drewN ?_ _) | (with_reducible refine Kd.C_drew ?_) | exact HR378_0.out)) hb); have n4_ := Aside0.mk (Kd.C_below (by repeat (first | (with_reducible exact HR382.out) | (with_reducible refine Kd.C_alloc ?_ _) | (with_reducible refine Kd.C_drewN ?_ _) | (with_reducible refine Kd.C_drew ?_) | exact HR382.out)) hb); have n5_ := Aside0.mk (below_step (by repeat (first | (with_reducible first | exact HB.out | apply below_alloc | apply pw_below_drewN | apply below_drew1) | exact HB.out)) hb); have n6_ := Aside0.mk (hbox); have n7_ := Aside0.mk ((by rw [hg]; exact (below_size (by repeat (first | (with_reducible first | exact HB.out | apply below_alloc | apply pw_below_drewN | apply below_drew1) | exact HB.out))) : w.heap.size ≤ gb386)); have n8_ := Aside0.mk ((by rw [hg]; exact (below_size (by repeat (first | (with_reducible first | exact HB.out | apply below_alloc | apply pw_below_drewN | apply below_drew1) | exact HB.out))) : w.heap.size ≤ gb386)); clear HO_4; clear HO_9; clear HL378_0; clear HR378_0; clear HR382; clear HB; have HO_4 := n0_; have HO_9 := n1_; have HL378_0 := n2_; have HR378_0 := n3_; have HR382 := n4_; have HB := n5_; have BK386 := n6_; have GW386 := n7_; have GE386 := n8_; clear n0_ n1_ n2_ n3_ n4_ n5_ n6_ n7_ n8_; clear hb hbox hg; have hcz35_0 : w34.cell? ⟨gb386, 0, none⟩ = some (.string (⟨#[]⟩ : ByteArray)) := (blk_cell BK386.out 0).trans rfl; have hcz35_1 : w34.cell? ⟨gb386, 1, none⟩ = some (.int .u64 0) := (blk_cell BK386.out 1).trans rfl; have hfz35_0 := blk_frozen BK386.out 0; have hfz35_1 := blk_frozen BK386.out 1) | ((with_reducible refine gate_builtin (b := .append) (xs := #[.tmp 83, .tmp 85]) rfl ?_); at_builtin; refine Kd.R_append k44 (w0 := w) w.heap.size rfl (.tmp 83) (.tmp 85) 22 44 (.agg #[(.string ⟨#[]⟩), (.int .u64 0)]) 24 rfl Try.underlying22 info44 rfl (by decide) (by omega) u9 x9_4 (⟨t383, t384⟩ : S44) [.string t383, .int .u64 t384] (fun k_ => k_ ≠ gb386) (fun _ => False) rfl (by first | (go_simp; done) | (go_simp; rfl)) ?aP (fun _ hk => hk.elim) ?aF ?aO ?aB ?aS ?aL ?_; (case aP => exact k44_mkM _ _ _ (⟨t383, t384⟩ : S44)); (case aB => exact (by repeat (first | (with_reducible first | exact HB.out | apply below_alloc | apply pw_below_drewN | apply below_drew1 | refine below_set ?_ GE386.out) | exact HB.out))); (case aF => exact (fun k_ hk => Kd.freshB (g := gb386) (o := .cells #[.string t383, .int .u64 t384] 44 (0, 0)) (by (with_reducible repeat (first | refine blk_drewN ?_ _ | refine blk_drew ?_ | refine blk_alloc ?_ _)); refine blk_put (cs := #[.string t383, .int .u64 0]) ?_ 1 _ rfl; (with_reducible repeat (first | refine blk_drewN ?_ _ | refine blk_drew ?_ | refine blk_alloc ?_ _)); refine blk_put (cs := #[.string (⟨#[]⟩ : ByteArray), .int .u64 0]) ?_ 0 _ rfl; (with_reducible repeat (first | refine blk_drewN ?_ _ | refine blk_drew ?_ | refine blk_alloc ?_ _)); exact BK386.out) k_ hk)); (case aO => exact (by (with_reducible repeat (first | apply Kd.R_alloc | apply Kd.R_drewN | apply Kd.R_drew)); exact Kd.R_mono (Kd.R_far (p := ⟨gb386, 1, none⟩) (Kd.R_far (p := ⟨gb386, 0, none⟩) (Kd.R_mono HO_9.out (fun k_ hk => (⟨hk, hk.2⟩ : _ ∧ k_ ≠ gb386))) (fun _ hk => hk.2) (.string t383)) (fun _ hk => hk.2) (.int .u64 t384)) (fun _ hk => hk.1.2))); (case aS => exact (below_size (by repeat (first | (with_reducible first | exact HB.out | apply below_alloc | apply pw_below_drewN | apply below_drew1 | refine below_set ?_ GE386.out) | exact HB.out)))); (case aL => have := LMc31.out; omega); intro v388 w36 ho hb hg hat; rw [← Ny387.out] at ho; have n0_ := Aside0.mk (Kd.S_over' (by (with_reducible repeat (first | apply Kd.S_alloc | apply Kd.S_drewN | apply Kd.S_drew)); exact (Kd.S_mono (Kd.S_far (p := ⟨gb386, 1, none⟩) (Kd.S_far (p := ⟨gb386, 0, none⟩) (Kd.S_types HO_4.out BK386.out (by decide)) (fun _ hk => hk.2) (.string t383)) (fun _ hk => hk.2) (.int .u64 t384)) (fun _ h_ => h_.1))) (Kd.R_typed (by (with_reducible repeat (first | apply Kd.R_alloc | apply Kd.R_drewN | apply Kd.R_drew)); exact (Kd.R_mono (Kd.R_far (p := ⟨gb386, 1, none⟩) (Kd.R_far (p := ⟨gb386, 0, none⟩) (Kd.R_mono HO_9.out (fun k_ hk => (⟨hk, hk.2⟩ : _ ∧ k_ ≠ gb386))) (fun _ hk => hk.2) (.string t383)) (fun _ hk => hk.2) (.int .u64 t384)) (fun _ h_ => h_.1)))) (by decide) hg); have n1_ := Aside0.mk (Kd.R_over' (by (with_reducible repeat (first | apply Kd.R_alloc | apply Kd.R_drewN | apply Kd.R_drew)); exact (Kd.R_mono (Kd.R_far (p := ⟨gb386, 1, none⟩) (Kd.R_far (p := ⟨gb386, 0, none⟩) (Kd.R_types HL378_0.out BK386.out (by decide)) (fun _ hk => hk.2) (.string t383)) (fun _ hk => hk.2) (.int .u64 t384)) (fun _ h_ => h_.1))) (Kd.R_typed (by (with_reducible repeat (first | apply Kd.R_alloc | apply Kd.R_drewN | apply Kd.R_drew)); exact (Kd.R_mono (Kd.R_far (p := ⟨gb386, 1, none⟩) (Kd.R_far (p := ⟨gb386, 0, none⟩) (Kd.R_mono HO_9.out (fun k_ hk => (⟨hk, hk.2⟩ : _ ∧ k_ ≠ gb386))) (fun _ hk => hk.2) (.string t383)) (fun _ hk => hk.2) (.int .u64 t384)) (fun _ h_ => h_.1)))) (by decide) hg); have n2_ := Aside0.mk (blk_grown (g := gb386) (o := .cells #[.string t383, .int .u64 t384] 44 (0, 0)) (by (with_reducible repeat (first | refine blk_drewN ?_ _ | refine blk_drew ?_ | refine blk_alloc ?_ _)); refine blk_put (cs := #[.string t383, .int .u64 0]) ?_ 1 _ rfl; (with_reducible repeat (first | refine blk_drewN ?_ _ | refine blk_drew ?_ | refine blk_alloc ?_ _)); refine blk_put (cs := #[.string (⟨#[]⟩ : ByteArray), .int .u64 0]) ?_ 0 _ rfl; (with_reducible repeat (first | refine blk_drewN ?_ _ | refine blk_drew ?_ | refine blk_alloc ?_ _)); exact BK386.out) hg (Kd.R_away HO_9.out (fun _ hk => hk.2))); have n3_ := Aside0.mk (hb); have n4_ := Aside0.mk (ho); clear HO_4; clear HL378_0; clear BK386; clear HB; clear HO_9; have HO_4 := n0_; have HL378_0 := n1_; have BK386 := n2_; have HB := n3_; have HO389 := n4_; clear n0_ n1_ n2_ n3_ n4_; clear ho hb hg hat; have hcz37_0 : w36.cell? ⟨gb386, 0, none⟩ = some (.string t383) := (blk_cell BK386.out 0).trans rfl; have hcz37_1 : w36.cell? ⟨gb386, 1, none⟩ = some (.int .u64 t384) := (blk_cell BK386.out 1).trans rfl; have hfz37_0 := blk_frozen BK386.out 0; have hfz37_1 := blk_frozen BK386.out 1))
                                              go_roundg k4
                                              case measure => have := HJ7.out; have := HK2.out; have := HJ16.out; have := HK4.out; omega
                                              case rel => exact ⟨(y387), (wrap64 (x12_4 + t385)), (t383), (wrap64 (x15_4 + 1)), (by first | rfl | (simp; done) | (simp [*]; done)), (by first | rfl | (simp; done) | (simp [*]; done)), (by first | rfl | (simp; done) | (simp [*]; done)), H', ⟨by have := HJ7.out; have := HK2.out; have := HJ16.out; have := HK4.out; omega⟩, ⟨by (with_reducible repeat (first | apply Kd.S_alloc | apply Kd.S_drewN | apply Kd.S_drew)); exact HO_4.out⟩, ⟨by (with_reducible repeat (first | apply Kd.R_alloc | apply Kd.R_drewN | apply Kd.R_drew)); exact Kd.R_mono HO389.out (fun _ hk => trivial)⟩, ⟨by repeat (first | (with_reducible first | exact HB.out | apply below_alloc | apply pw_below_drewN | apply below_drew1 | refine below_set ?_ GE386.out) | exact HB.out)⟩⟩
                                            · rw [if_neg c31] at H
                                              exact absurd H (by simp)
                                        · rw [if_neg c24] at H
                                          exact absurd H (by simp)
                                      · rw [if_neg c23] at H
                                        exact absurd H (by simp)
                                    · rw [if_neg c22] at H
                                      exact absurd H (by simp)
                                  · rw [if_neg c21] at H
                                    exact absurd H (by simp)
                                · rw [if_neg c20] at H
                                  have c20b0 : decide (x15_4 < (wrap64 (t375))) = false := decide_eq_false c20
                                  clear c20
                                  have H' := Aside0.mk H
                                  clear H
                                  go_wp2
                                  go_roundg k4
                                  case measure => have := HJ7.out; have := HK2.out; have := HJ16.out; have := HK4.out; omega
                                  case rel => exact ⟨(x9_4), (wrap64 (x10_2 + 1)), (by first | rfl | (simp; done) | (simp [*]; done)), H', ⟨by have := HJ7.out; have := HK2.out; have := HJ16.out; have := HK4.out; omega⟩, ⟨by (with_reducible repeat (first | apply Kd.S_alloc | apply Kd.S_drewN | apply Kd.S_drew)); exact HO_4.out⟩, ⟨by (with_reducible repeat (first | apply Kd.R_alloc | apply Kd.R_drewN | apply Kd.R_drew)); exact HO_9.out⟩, ⟨by repeat (first | (with_reducible first | exact HB.out | apply below_alloc | apply pw_below_drewN | apply below_drew1) | exact HB.out)⟩⟩
                    · rw [if_neg c15] at H
                      exact absurd H (by simp)
                  · rw [if_neg c14] at H
                    exact absurd H (by simp)
                · rw [if_neg c13] at H
                  have c13b0 : decide (x10_2 < (wrap64 ((t362.length : Int) - 1))) = false := decide_eq_false c13
                  clear c13
                  replace H := Option.bind_eq_some_iff.mp H
                  obtain ⟨⟨t370, t371⟩, A380, H⟩ := H
                  replace H : (if t371 = 0 then (if (strOfNums t370).toList = (strOfNums l0).toList then (some (x9_2, 0)) else (some (([] : List (S44)), 2))) else (some (([] : List (S44)), 2))) = some (r1, r2) := H
                  have A38 := Aside0.mk A380
                  clear A380
                  by_cases c39 : t371 = 0
                  · rw [if_pos c39] at H
                    have c39b0 : (t371 == 0) = true := beq_iff_eq.mpr c39
                    have c39b1 : (t371 != 0) = false := bne_eq_false_iff_eq.mpr c39
                    clear c39
                    by_cases c40 : (strOfNums t370).toList = (strOfNums l0).toList
                    · rw [if_pos c40] at H
                      have c40b0 : ((strOfNums t370).toList == (strOfNums l0).toList) = true := beq_iff_eq.mpr c40
                      have c40b1 : ((strOfNums t370).toList != (strOfNums l0).toList) = false := bne_eq_false_iff_eq.mpr c40
                      clear c40
                      simp only [Option.some.injEq, Prod.mk.injEq] at H
                      obtain ⟨rfl, rfl⟩ := H
                      obtain ⟨Ao41, co41, eo41⟩ := Kd.R_slice HO_9.out
                      subst eo41
                      go_wp2_with (first | ((with_reducible refine gate_callee (f := 12) rfl ?_); refine goesL_ (some 96) rfl rfl Try.func12 (by kernel_rfl) rfl #[.slice Ao41 x9_2.length co41, .int .i64 (wrap64 (t367))] rfl (by (try simp only [List.map_toArray, List.map_cons, List.map_nil]); first | done | rfl | (simp only [List.length_drop, List.length_take]; rfl)) ?_; (with_reducible refine (manteletref09_Encode.calls k2 _ _ x9_2 (wrap64 (t367)) t370 t371 _ ?side1 ?side2 A38.out).mono ?_); (case side1 => repeat (first | exact (Kd.R_reads' HO_9.out).2.2 | (with_reducible refine Kd.C_alloc ?_ _) | (with_reducible refine Kd.C_drewN ?_ _) | (with_reducible refine Kd.C_drew ?_))); (case side2 => exact (Kd.R_reads' HO_9.out).2.1); rintro e w42 ⟨v372, rfl, ho0, hb⟩; refine ⟨_, rfl, ?_⟩; have n0_ := Aside0.mk (Kd.S_elder' (by (with_reducible repeat (first | apply Kd.S_alloc | apply Kd.S_drewN | apply Kd.S_drew)); exact HO_4.out) (Kd.R_base ho0) hb); have n1_ := Aside0.mk (Kd.R_below (by (with_reducible repeat (first | apply Kd.R_alloc | apply Kd.R_drewN | apply Kd.R_drew)); exact HO_9.out) hb); have n2_ := Aside0.mk (Kd.R_lower ho0 (below_size (by repeat (first | (with_reducible first | exact HB.out | apply below_alloc | apply pw_below_drewN | apply below_drew1) | exact HB.out)))); have n3_ := Aside0.mk (below_step (by repeat (first | (with_reducible first | exact HB.out | apply below_alloc | apply pw_below_drewN | apply below_drew1) | exact HB.out)) hb); clear HO_4; clear HO_9; clear HB; have HO_4 := n0_; have HO_9 := n1_; have HO373 := n2_; have HB := n3_; clear n0_ n1_ n2_ n3_; (try clear hb); (try clear hb2); (try clear hk); (try clear hi); (try clear ho0); have hcv43 := own_string (P := Try.prog) Try.underlying23 Try.underlying5 Try.underlying9 (Kd.own_of_R HO373.out); have hcv44 := Kd.C_string (P := Try.prog) (A := A0) (c := c0) Try.underlying23 Try.underlying5 Try.underlying9 (Kd.C_below HR0.out HB.out)))
                      go_ret2
                      exact ⟨_, by first | rfl | (simp [errW_none, errW_some] <;> rfl) | (simp [*, errW_none, errW_some] <;> rfl), by (with_reducible repeat (first | apply Kd.R_alloc | apply Kd.R_drewN | apply Kd.R_drew)); exact HO_9.out, by repeat (first | (with_reducible first | exact HB.out | apply below_alloc | apply pw_below_drewN | apply below_drew1) | exact HB.out)⟩
                    · rw [if_neg c40] at H
                      have c40b0 : ((strOfNums t370).toList == (strOfNums l0).toList) = false := beq_eq_false_iff_ne.mpr c40
                      have c40b1 : ((strOfNums t370).toList != (strOfNums l0).toList) = true := bne_iff_ne.mpr c40
                      simp only [Option.some.injEq, Prod.mk.injEq] at H
                      obtain ⟨rfl, rfl⟩ := H
                      obtain ⟨Ao45, co45, eo45⟩ := Kd.R_slice HO_9.out
                      subst eo45
                      go_wp2_with (first | ((with_reducible refine gate_callee (f := 12) rfl ?_); refine goesL_ (some 96) rfl rfl Try.func12 (by kernel_rfl) rfl #[.slice Ao45 x9_2.length co45, .int .i64 (wrap64 (t367))] rfl (by (try simp only [List.map_toArray, List.map_cons, List.map_nil]); first | done | rfl | (simp only [List.length_drop, List.length_take]; rfl)) ?_; (with_reducible refine (manteletref09_Encode.calls k2 _ _ x9_2 (wrap64 (t367)) t370 t371 _ ?side1 ?side2 A38.out).mono ?_); (case side1 => repeat (first | exact (Kd.R_reads' HO_9.out).2.2 | (with_reducible refine Kd.C_alloc ?_ _) | (with_reducible refine Kd.C_drewN ?_ _) | (with_reducible refine Kd.C_drew ?_))); (case side2 => exact (Kd.R_reads' HO_9.out).2.1); rintro e w46 ⟨v372, rfl, ho0, hb⟩; refine ⟨_, rfl, ?_⟩; have n0_ := Aside0.mk (Kd.S_elder' (by (with_reducible repeat (first | apply Kd.S_alloc | apply Kd.S_drewN | apply Kd.S_drew)); exact HO_4.out) (Kd.R_base ho0) hb); have n1_ := Aside0.mk (Kd.R_below (by (with_reducible repeat (first | apply Kd.R_alloc | apply Kd.R_drewN | apply Kd.R_drew)); exact HO_9.out) hb); have n2_ := Aside0.mk (Kd.R_lower ho0 (below_size (by repeat (first | (with_reducible first | exact HB.out | apply below_alloc | apply pw_below_drewN | apply below_drew1) | exact HB.out)))); have n3_ := Aside0.mk (below_step (by repeat (first | (with_reducible first | exact HB.out | apply below_alloc | apply pw_below_drewN | apply below_drew1) | exact HB.out)) hb); clear HO_4; clear HO_9; clear HB; have HO_4 := n0_; have HO_9 := n1_; have HO373 := n2_; have HB := n3_; clear n0_ n1_ n2_ n3_; (try clear hb); (try clear hb2); (try clear hk); (try clear hi); (try clear ho0); have hcv47 := own_string (P := Try.prog) Try.underlying23 Try.underlying5 Try.underlying9 (Kd.own_of_R HO373.out); have hcv48 := Kd.C_string (P := Try.prog) (A := A0) (c := c0) Try.underlying23 Try.underlying5 Try.underlying9 (Kd.C_below HR0.out HB.out)))
                      go_ret2
                      exact ⟨_, by first | rfl | (simp [errW_none, errW_some] <;> rfl) | (simp [*, errW_none, errW_some] <;> rfl), by first | exact Kd.R_nil _ _ _ _ _ | exact Kd.N_nil _ _ _ _ _ | exact Kd.V_nil _ _ _ _ _ | exact Kd.Q_nil _ _ _ _ _ | exact Kd.S_nil _ _ _ _ _, by repeat (first | (with_reducible first | exact HB.out | apply below_alloc | apply pw_below_drewN | apply below_drew1) | exact HB.out)⟩
                  · rw [if_neg c39] at H
                    have c39b0 : (t371 == 0) = false := beq_eq_false_iff_ne.mpr c39
                    have c39b1 : (t371 != 0) = true := bne_iff_ne.mpr c39
                    simp only [Option.some.injEq, Prod.mk.injEq] at H
                    obtain ⟨rfl, rfl⟩ := H
                    obtain ⟨Ao49, co49, eo49⟩ := Kd.R_slice HO_9.out
                    subst eo49
                    go_wp2_with (first | ((with_reducible refine gate_callee (f := 12) rfl ?_); refine goesL_ (some 96) rfl rfl Try.func12 (by kernel_rfl) rfl #[.slice Ao49 x9_2.length co49, .int .i64 (wrap64 (t367))] rfl (by (try simp only [List.map_toArray, List.map_cons, List.map_nil]); first | done | rfl | (simp only [List.length_drop, List.length_take]; rfl)) ?_; (with_reducible refine (manteletref09_Encode.calls k2 _ _ x9_2 (wrap64 (t367)) t370 t371 _ ?side1 ?side2 A38.out).mono ?_); (case side1 => repeat (first | exact (Kd.R_reads' HO_9.out).2.2 | (with_reducible refine Kd.C_alloc ?_ _) | (with_reducible refine Kd.C_drewN ?_ _) | (with_reducible refine Kd.C_drew ?_))); (case side2 => exact (Kd.R_reads' HO_9.out).2.1); rintro e w50 ⟨v372, rfl, ho0, hb⟩; refine ⟨_, rfl, ?_⟩; have n0_ := Aside0.mk (Kd.S_elder' (by (with_reducible repeat (first | apply Kd.S_alloc | apply Kd.S_drewN | apply Kd.S_drew)); exact HO_4.out) (Kd.R_base ho0) hb); have n1_ := Aside0.mk (Kd.R_below (by (with_reducible repeat (first | apply Kd.R_alloc | apply Kd.R_drewN | apply Kd.R_drew)); exact HO_9.out) hb); have n2_ := Aside0.mk (Kd.R_lower ho0 (below_size (by repeat (first | (with_reducible first | exact HB.out | apply below_alloc | apply pw_below_drewN | apply below_drew1) | exact HB.out)))); have n3_ := Aside0.mk (below_step (by repeat (first | (with_reducible first | exact HB.out | apply below_alloc | apply pw_below_drewN | apply below_drew1) | exact HB.out)) hb); clear HO_4; clear HO_9; clear HB; have HO_4 := n0_; have HO_9 := n1_; have HO373 := n2_; have HB := n3_; clear n0_ n1_ n2_ n3_; (try clear hb); (try clear hb2); (try clear hk); (try clear hi); (try clear ho0)))
                    go_ret2
                    exact ⟨_, by first | rfl | (simp [errW_none, errW_some] <;> rfl) | (simp [*, errW_none, errW_some] <;> rfl), by first | exact Kd.R_nil _ _ _ _ _ | exact Kd.N_nil _ _ _ _ _ | exact Kd.V_nil _ _ _ _ _ | exact Kd.Q_nil _ _ _ _ _ | exact Kd.S_nil _ _ _ _ _, by repeat (first | (with_reducible first | exact HB.out | apply below_alloc | apply pw_below_drewN | apply below_drew1) | exact HB.out)⟩
    · rw [if_neg c6] at H
      exact absurd H (by simp)

end Go.Proofs.Ytmfngihgoanhpaa.PRun
