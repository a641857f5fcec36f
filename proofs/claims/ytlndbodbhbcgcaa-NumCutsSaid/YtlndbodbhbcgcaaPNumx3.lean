/- Contracts of Go functions: called with what reads as these lists and numbers, a function returns what its plain Lean function says, and leaves what was there. Written by a program of this session. -/
import Derived.Test.YtlndbodbhbcgcaaPNumx0
import Derived.Test.YtlndbodbhbcgcaaPNumx1
namespace Go.Proofs.Ytlndbodbhbcgcaa.PNum
open Go.RowKit Go.Proofs.YtlndbodbhbcgcaaW.PrintWords Go.Proofs.YtlndbodbhbcgcaaW.PrintLast Go.Proofs.YtlndbodbhbcgcaaW.PrintMore
attribute [local go_sem] max2_int min2_int max_two min_two max_three min_three max_four min_four   -- for this text's walks alone
set_option linter.unusedVariables false
set_option linter.unusedSimpArgs false

/-! ### manteletlaw01_NumCuts: function 7 -/
def manteletlaw01_NumCuts.l0 : Nat → Int → Bool → List Int → Int → Option (Bool)
  | 0, _, _, _, _ => none
  | k + 1, x0, x3, x4, x5 => if x5 < (x4.length : Int) then (if 0 ≤ x5 then (if x5 ≤ (x4.length : Int) then ((num_Get.f (x4.take (x5 : Int).toNat)).bind fun bt156 => (if bt156.2.2 = 3 then (manteletlaw01_NumCuts.l0 k x0 x3 x4 (wrap64 (x5 + 1))) else (none))) else (none)) else (none)) else (if x3 = true then (if (x4.length : Int) ≥ 1 then (if (x4.length : Int) ≤ 10 then (some (((x4.length : Int) == 1) == (decide (x0 < 128)))) else (none)) else (none)) else (none))
def manteletlaw01_NumCuts.f (k : Nat) (a0 : Int) : Option (Bool) := (manteletlaw01_shown.f k).bind fun t148 => ((num_Put.f k ([] : List Int) a0).bind fun t149 => (manteletlaw01_NumCuts.l0 k a0 t148 t149 0))
theorem manteletlaw01_NumCuts.mono_l : ∀ k, (∀ y0 y1 y2 y3, LeO (manteletlaw01_NumCuts.l0 k y0 y1 y2 y3) (manteletlaw01_NumCuts.l0 (k + 1) y0 y1 y2 y3))
  | 0 => fun _ _ _ _ r h => by simp [manteletlaw01_NumCuts.l0] at h
  | k + 1 => by
    have ih0 := manteletlaw01_NumCuts.mono_l k
    · intro y0 y1 y2 y3
      unfold manteletlaw01_NumCuts.l0
      repeat' first
      | (with_reducible exact ih0 _ _ _ _)
      | (with_reducible exact manteletlaw01_shown.mono _)
      | (with_reducible exact num_Put.mono _ _ _)
      | (with_reducible exact LeO.refl _)
      | (with_reducible exact LeO.none _)
      | (with_reducible refine LeO.ite ?_ ?_)
      | (with_reducible refine LeO.bind ?_ (fun _ => ?_))
      | exact ih0 _ _ _ _
      | exact manteletlaw01_shown.mono _
      | exact num_Put.mono _ _ _
      | exact LeO.none _
      | refine LeO.ite ?_ ?_
      | refine LeO.bind ?_ (fun _ => ?_)
theorem manteletlaw01_NumCuts.mono : ∀ a0 k, LeO (manteletlaw01_NumCuts.f k a0) (manteletlaw01_NumCuts.f (k + 1) a0) := by
  intro a0 k
  have ih0 := manteletlaw01_NumCuts.mono_l k
  unfold manteletlaw01_NumCuts.f
  repeat' first
      | (with_reducible exact ih0 _ _ _ _)
      | (with_reducible exact manteletlaw01_shown.mono _)
      | (with_reducible exact num_Put.mono _ _ _)
      | (with_reducible exact LeO.refl _)
      | (with_reducible exact LeO.none _)
      | (with_reducible refine LeO.ite ?_ ?_)
      | (with_reducible refine LeO.bind ?_ (fun _ => ?_))
      | exact ih0 _ _ _ _
      | exact manteletlaw01_shown.mono _
      | exact num_Put.mono _ _ _
      | exact LeO.none _
      | refine LeO.ite ?_ ?_
      | refine LeO.bind ?_ (fun _ => ?_)
set_option maxHeartbeats 8000000 in
set_option maxRecDepth 100000 in
theorem manteletlaw01_NumCuts.calls (k : Nat) (a0 : Int) (r : Bool) (w : World) (h : manteletlaw01_NumCuts.f k a0 = some r) :
    Calls Try.prog 7 #[.int .u64 a0] w fun e w' => e = .returned (.bool r) ∧ Below w.heap.size w w' := by
  have HB := Aside0.mk (Below.refl w.heap.size w)
  have H : ((manteletlaw01_shown.f k).bind fun t148 => ((num_Put.f k ([] : List Int) a0).bind fun t149 => (manteletlaw01_NumCuts.l0 k a0 t148 t149 0))) = some r := h
  clear h
  replace H := Option.bind_eq_some_iff.mp H
  obtain ⟨t148, A20, H⟩ := H
  replace H : ((num_Put.f k ([] : List Int) a0).bind fun t149 => (manteletlaw01_NumCuts.l0 k a0 t148 t149 0)) = some r := H
  have A2 := Aside0.mk A20
  clear A20
  replace H := Option.bind_eq_some_iff.mp H
  obtain ⟨t149, A30, H⟩ := H
  replace H : (manteletlaw01_NumCuts.l0 k a0 t148 t149 0) = some r := H
  have A3 := Aside0.mk A30
  clear A30
  have H' := Aside0.mk H
  clear H
  go_enter Try.func7, Try.ntmps7
  go_wp2_with (first | ((with_reducible refine gate_callee (f := 18) rfl ?_); refine goesL_ (some 9) rfl rfl Try.func18 (by kernel_rfl) rfl #[] rfl (by (try simp only [List.map_toArray, List.map_cons, List.map_nil]); first | done | rfl | (simp only [List.length_drop, List.length_take]; rfl)) ?_; (with_reducible refine (manteletlaw01_shown.calls k  t148 _ A2.out).mono ?_); rintro e w4 ⟨rfl, hb⟩; refine ⟨_, rfl, ?_⟩; have n0_ := Aside0.mk (below_step (by repeat (first | (with_reducible first | exact HB.out | apply below_alloc | apply pw_below_drewN | apply below_drew1) | exact HB.out)) hb); clear HB; have HB := n0_; clear n0_; (try clear hb); (try clear hb2); (try clear hk); (try clear hi)) | ((with_reducible refine gate_callee (f := 19) rfl ?_); refine goesL_ (some 11) rfl rfl Try.func19 (by kernel_rfl) rfl #[.slice none 0 0, .int .u64 a0] rfl (by (try simp only [List.map_toArray, List.map_cons, List.map_nil]); first | done | rfl | (simp only [List.length_drop, List.length_take]; rfl)) ?_; (refine (num_Put.calls k _ _ ([] : List Int) a0 t149 _ ?side1 ?side2 A3.out).mono ?_); (case side1 => exact Kd.C_nil _ _); (case side2 => exact Nat.le_refl _); rintro e w5 ⟨v150, rfl, ho0, hb⟩; refine ⟨_, rfl, ?_⟩; have n0_ := Aside0.mk (Kd.R_lower ho0 (below_size (by repeat (first | (with_reducible first | exact HB.out | apply below_alloc | apply pw_below_drewN | apply below_drew1) | exact HB.out)))); have n1_ := Aside0.mk (below_step (by repeat (first | (with_reducible first | exact HB.out | apply below_alloc | apply pw_below_drewN | apply below_drew1) | exact HB.out)) hb); clear HB; have HO151 := n0_; have HB := n1_; clear n0_ n1_; (try clear hb); (try clear hb2); (try clear hk); (try clear hi); (try clear ho0)))
  go_loopg [5] k (fun kq v5 w' => ∃ (x5_1 : Int), v5 = .int .i64 x5_1 ∧ Aside0 (manteletlaw01_NumCuts.l0 kq a0 t148 t149 x5_1 = some r) ∧ Aside0 (kq ≤ k) ∧ Aside0 (Kd.R (Kd.int .u8) 5 w' w.heap.size (fun _ => True) v150 t149) ∧ Aside0 (Below w.heap.size w w'))
  case atStart => exact ⟨(0), (by first | rfl | (simp; done) | (simp [*]; done)), H', ⟨Nat.le_refl _⟩, ⟨by (with_reducible repeat (first | apply Kd.R_alloc | apply Kd.R_drewN | apply Kd.R_drew)); exact HO151.out⟩, ⟨by repeat (first | (with_reducible first | exact HB.out | apply below_alloc | apply pw_below_drewN | apply below_drew1) | exact HB.out)⟩⟩
  case round =>
    clear H'
    try clear c1
    try clear p2
    obtain ⟨x5_1, rfl, HA, HK1, HO_4, HB⟩ := hrel
    cases gk with
    | zero => exact absurd HA.out (by simp [manteletlaw01_NumCuts.l0])
    | succ k1 =>
      have H := HA.out
      clear HA
      simp only [manteletlaw01_NumCuts.l0] at H
      by_cases c6 : x5_1 < (t149.length : Int)
      · rw [if_pos c6] at H
        have c6b0 : decide (x5_1 < (t149.length : Int)) = true := decide_eq_true c6
        clear c6
        by_cases c7 : 0 ≤ x5_1
        · rw [if_pos c7] at H
          have c7b0 := eq_true c7
          have c7b1 : decide (0 ≤ x5_1) = true := decide_eq_true c7
          clear c7
          by_cases c8 : x5_1 ≤ (t149.length : Int)
          · rw [if_pos c8] at H
            have c8b0 := eq_true c8
            have c8b1 : decide (x5_1 ≤ (t149.length : Int)) = true := decide_eq_true c8
            clear c8
            obtain ⟨y152, hy152⟩ : ∃ y_ : List Int, y_ = (t149.take (x5_1 : Int).toNat) := ⟨_, rfl⟩
            replace H : ((num_Get.f y152).bind fun bt156 => (if bt156.2.2 = 3 then (manteletlaw01_NumCuts.l0 k1 a0 t148 t149 (wrap64 (x5_1 + 1))) else (none))) = some r := by first | (rw [hy152]; with_reducible exact H) | (have H2_ := (Option.bind_some _ _).symm.trans H; rw [hy152]; with_reducible exact H2_) | (have H2_ := (Option.bind_some _ _).symm.trans H; with_reducible exact H2_) | with_reducible exact H | (rw [hy152]; exact H) | exact H
            have Ny152 := Aside0.mk hy152
            clear hy152
            replace H := Option.bind_eq_some_iff.mp H
            obtain ⟨⟨t156, t157, t158⟩, A90, H⟩ := H
            replace H : (if t158 = 3 then (manteletlaw01_NumCuts.l0 k1 a0 t148 t149 (wrap64 (x5_1 + 1))) else (none)) = some r := H
            have A9 := Aside0.mk A90
            clear A90
            by_cases c10 : t158 = 3
            · rw [if_pos c10] at H
              have c10b0 : (t158 == 3) = true := beq_iff_eq.mpr c10
              have c10b1 : (t158 != 3) = false := bne_eq_false_iff_eq.mpr c10
              clear c10
              have H' := Aside0.mk H
              clear H
              obtain ⟨Ao11, co11, eo11⟩ := Kd.R_slice HO_4.out
              subst eo11
              have q12 : (x5_1 : Int) ≤ ((t149.length : Int) : Int) := of_decide_eq_true (by first | (with_reducible assumption) | assumption)
              obtain ⟨i012, hi012, _, hsz12, _⟩ := info_parts info5
              have hroom12 : t149.length ≤ co11 := (Kd.R_reads' HO_4.out).2.1
              have hC12 : Kd.C (Kd.int .u8) _ Ao11 t149.length t149 := (Kd.R_reads' HO_4.out).2.2
              have hcut12 := cut_to (P := Try.prog) 31 5 .i64 Try.underlying31 hi012 Ao11 t149.length co11 x5_1 (of_decide_eq_true (by first | (with_reducible assumption) | assumption)) q12 hroom12
              have hr12 := Kd.C_take (m := (x5_1 : Int).toNat) hC12 (by omega)
              have hy12 : y152.length = (x5_1 : Int).toNat := (by rw [Ny152.out, List.length_take]; omega)
              rw [← Ny152.out] at hr12
              rw [← hy12] at hcut12
              have HR155 := Aside0.mk hr12
              have HC155 := Aside0.mk (show y152.length ≤ co11 from by omega)
              clear hr12 hC12 hroom12 hi012 hsz12
              have KY12 := Aside0.mk hy12
              clear hy12
              have KL12 := Aside0.mk (show (x5_1 : Int).toNat ≤ t149.length from by omega)
              replace q12 := eq_true q12
              go_wp2_with (first | ((with_reducible refine gate_callee (f := 20) rfl ?_); refine goesL_ (some 22) rfl rfl Try.func20 (by kernel_rfl) rfl #[.slice Ao11 y152.length co11] rfl (by (try simp only [List.map_toArray, List.map_cons, List.map_nil]); first | done | rfl | (simp only [List.length_drop, List.length_take]; rfl)) ?_; (with_reducible refine (num_Get.calls _ _ y152 t156 t157 t158 _ ?side1 ?side2 A9.out).mono ?_); (case side1 => repeat (first | exact (by repeat (first | (with_reducible exact HR155.out) | (with_reducible refine Kd.C_alloc ?_ _) | (with_reducible refine Kd.C_drewN ?_ _) | (with_reducible refine Kd.C_drew ?_) | exact HR155.out)) | (with_reducible refine Kd.C_alloc ?_ _) | (with_reducible refine Kd.C_drewN ?_ _) | (with_reducible refine Kd.C_drew ?_))); (case side2 => exact HC155.out); rintro e w' ⟨rfl, ⟨nd, rfl⟩⟩; refine ⟨_, rfl, ?_⟩))
              go_roundg k1
              case measure => have := HK1.out; omega
              case rel => exact ⟨(wrap64 (x5_1 + 1)), (by first | rfl | (simp; done) | (simp [*]; done)), H', ⟨by have := HK1.out; omega⟩, ⟨by (with_reducible repeat (first | apply Kd.R_alloc | apply Kd.R_drewN | apply Kd.R_drew)); exact HO_4.out⟩, ⟨by repeat (first | (with_reducible first | exact HB.out | apply below_alloc | apply pw_below_drewN | apply below_drew1) | exact HB.out)⟩⟩
            · rw [if_neg c10] at H
              exact absurd H (by simp)
          · rw [if_neg c8] at H
            exact absurd H (by simp)
        · rw [if_neg c7] at H
          exact absurd H (by simp)
      · rw [if_neg c6] at H
        have c6b0 : decide (x5_1 < (t149.length : Int)) = false := decide_eq_false c6
        clear c6
        by_cases c13 : t148 = true
        · subst c13
          have H1 : (if (t149.length : Int) ≥ 1 then (if (t149.length : Int) ≤ 10 then (some (((t149.length : Int) == 1) == (decide (a0 < 128)))) else (none)) else (none)) = some r := by rw [if_pos rfl] at H; exact H
          clear H
          have H := H1
          clear H1
          by_cases c14 : (t149.length : Int) ≥ 1
          · rw [if_pos c14] at H
            have c14b0 : decide (1 ≤ (t149.length : Int)) = true := decide_eq_true c14
            have c14b1 : decide (1 ≤ t149.length) = true := decide_eq_true (by omega)
            clear c14
            by_cases c15 : (t149.length : Int) ≤ 10
            · rw [if_pos c15] at H
              have c15b0 : decide ((t149.length : Int) ≤ 10) = true := decide_eq_true c15
              have c15b1 : decide (t149.length ≤ 10) = true := decide_eq_true (by omega)
              clear c15
              obtain rfl := Option.some.inj H
              obtain ⟨Ao16, co16, eo16⟩ := Kd.R_slice HO_4.out
              subst eo16
              go_wp2
              go_ret
              exact ⟨by first | rfl | (simp [errW_none, errW_some] <;> rfl) | (simp [*, errW_none, errW_some] <;> rfl), by repeat (first | (with_reducible first | exact HB.out | apply below_alloc | apply pw_below_drewN | apply below_drew1) | exact HB.out)⟩
            · rw [if_neg c15] at H
              exact absurd H (by simp)
          · rw [if_neg c14] at H
            exact absurd H (by simp)
        · replace c13 := Bool.eq_false_iff.mpr c13
          subst c13
          have H1 : (none) = some r := by rw [if_neg (show ¬ (false = true) by decide)] at H; exact H
          clear H
          have H := H1
          clear H1
          exact absurd H (by simp)

/-- THE ONE PURE STATEMENT of manteletlaw01_NumCuts: yours. -/
def manteletlaw01_NumCuts.Pure : Prop := ∀ (a0 : Int), (Lit.int .u64 a0).wf = true → ∃ k, manteletlaw01_NumCuts.f k a0 = some true
theorem manteletlaw01_NumCuts.walk (P : manteletlaw01_NumCuts.Pure) (a0 : Int) (w : World) (w0 : (Lit.int .u64 a0).wf = true) :
    Calls Try.prog 7 #[.int .u64 a0] w fun e w' => e = .returned (.bool true) ∧ Below w.heap.size w w' := by
  obtain ⟨k, h⟩ := P a0 w0
  refine (manteletlaw01_NumCuts.calls k a0 true w h).mono ?_
  rintro e w' ⟨rfl, hd⟩
  exact ⟨rfl, hd⟩

/-! ### manteletlaw01_NumJoins: function 8 -/
mutual
def manteletlaw01_NumJoins.j1 : Nat → List Int → Bool → List Int → Option (Bool)
  | 0, _, _, _ => none
  | k + 1, x0, x3, x4 => manteletlaw01_NumJoins.l1 k x0 x3 x4 0
def manteletlaw01_NumJoins.l1 : Nat → List Int → Bool → List Int → Int → Option (Bool)
  | 0, _, _, _, _ => none
  | k + 1, x0, x3, x4, x6 => if x6 < (x0.length : Int) then (manteletlaw01_NumJoins.j3 k x0 x3 x4 x6 (decide (x6 < 100))) else (manteletlaw01_NumJoins.j3 k x0 x3 x4 x6 false)
def manteletlaw01_NumJoins.j3 : Nat → List Int → Bool → List Int → Int → Bool → Option (Bool)
  | 0, _, _, _, _, _ => none
  | k + 1, x0, x3, x4, x6, x34 => if x34 = true then ((num_Get.f x4).bind fun bt164 => (if bt164.2.2 = 0 then (if 0 ≤ x6 then (if x6 < (x0.length : Int) then (if bt164.1 = (rd x0 x6) then (if bt164.2.1 > (x4.length : Int) then (none) else (if 0 ≤ bt164.2.1 then (if bt164.2.1 ≤ (x4.length : Int) then (manteletlaw01_NumJoins.l1 k x0 x3 (x4.drop (bt164.2.1 : Int).toNat) (wrap64 (x6 + 1))) else (none)) else (none))) else (none)) else (none)) else (none)) else (none))) else (if x3 = true then (some ((x4.length : Int) == 0)) else (none))
def manteletlaw01_NumJoins.l0 : Nat → List Int → Bool → List Int → Int → Option (Bool)
  | 0, _, _, _, _ => none
  | k + 1, x0, x3, x4, x5 => if x5 < (x0.length : Int) then (if x5 < 100 then (if 0 ≤ x5 then ((num_Put.f k x4 (rd x0 x5)).bind fun t161 => (manteletlaw01_NumJoins.l0 k x0 x3 t161 (wrap64 (x5 + 1)))) else (none)) else (manteletlaw01_NumJoins.j1 k x0 x3 x4)) else (manteletlaw01_NumJoins.j1 k x0 x3 x4)
end
def manteletlaw01_NumJoins.f (k : Nat) (l0 : List Int) : Option (Bool) := (manteletlaw01_shown.f k).bind fun t159 => (manteletlaw01_NumJoins.l0 k l0 t159 ([] : List Int) 0)
theorem manteletlaw01_NumJoins.mono_l : ∀ k, (∀ y0 y1 y2, LeO (manteletlaw01_NumJoins.j1 k y0 y1 y2) (manteletlaw01_NumJoins.j1 (k + 1) y0 y1 y2)) ∧ (∀ y0 y1 y2 y3, LeO (manteletlaw01_NumJoins.l1 k y0 y1 y2 y3) (manteletlaw01_NumJoins.l1 (k + 1) y0 y1 y2 y3)) ∧ (∀ y0 y1 y2 y3 y4, LeO (manteletlaw01_NumJoins.j3 k y0 y1 y2 y3 y4) (manteletlaw01_NumJoins.j3 (k + 1) y0 y1 y2 y3 y4)) ∧ (∀ y0 y1 y2 y3, LeO (manteletlaw01_NumJoins.l0 k y0 y1 y2 y3) (manteletlaw01_NumJoins.l0 (k + 1) y0 y1 y2 y3))
  | 0 => ⟨fun _ _ _ r h => by simp [manteletlaw01_NumJoins.j1] at h, fun _ _ _ _ r h => by simp [manteletlaw01_NumJoins.l1] at h, fun _ _ _ _ _ r h => by simp [manteletlaw01_NumJoins.j3] at h, fun _ _ _ _ r h => by simp [manteletlaw01_NumJoins.l0] at h⟩
  | k + 1 => by
    obtain ⟨ih0, ih1, ih2, ih3⟩ := manteletlaw01_NumJoins.mono_l k
    refine ⟨?_, ?_, ?_, ?_⟩
    · intro y0 y1 y2
      unfold manteletlaw01_NumJoins.j1
      repeat' first
      | (with_reducible exact ih0 _ _ _)
      | (with_reducible exact ih1 _ _ _ _)
      | (with_reducible exact ih2 _ _ _ _ _)
      | (with_reducible exact ih3 _ _ _ _)
      | (with_reducible exact manteletlaw01_shown.mono _)
      | (with_reducible exact num_Put.mono _ _ _)
      | (with_reducible exact LeO.refl _)
      | (with_reducible exact LeO.none _)
      | (with_reducible refine LeO.ite ?_ ?_)
      | (with_reducible refine LeO.bind ?_ (fun _ => ?_))
      | exact ih0 _ _ _
      | exact ih1 _ _ _ _
      | exact ih2 _ _ _ _ _
      | exact ih3 _ _ _ _
      | exact manteletlaw01_shown.mono _
      | exact num_Put.mono _ _ _
      | exact LeO.none _
      | refine LeO.ite ?_ ?_
      | refine LeO.bind ?_ (fun _ => ?_)
    · intro y0 y1 y2 y3
      unfold manteletlaw01_NumJoins.l1
      repeat' first
      | (with_reducible exact ih0 _ _ _)
      | (with_reducible exact ih1 _ _ _ _)
      | (with_reducible exact ih2 _ _ _ _ _)
      | (with_reducible exact ih3 _ _ _ _)
      | (with_reducible exact manteletlaw01_shown.mono _)
      | (with_reducible exact num_Put.mono _ _ _)
      | (with_reducible exact LeO.refl _)
      | (with_reducible exact LeO.none _)
      | (with_reducible refine LeO.ite ?_ ?_)
      | (with_reducible refine LeO.bind ?_ (fun _ => ?_))
      | exact ih0 _ _ _
      | exact ih1 _ _ _ _
      | exact ih2 _ _ _ _ _
      | exact ih3 _ _ _ _
      | exact manteletlaw01_shown.mono _
      | exact num_Put.mono _ _ _
      | exact LeO.none _
      | refine LeO.ite ?_ ?_
      | refine LeO.bind ?_ (fun _ => ?_)
    · intro y0 y1 y2 y3 y4
      unfold manteletlaw01_NumJoins.j3
      repeat' first
      | (with_reducible exact ih0 _ _ _)
      | (with_reducible exact ih1 _ _ _ _)
      | (with_reducible exact ih2 _ _ _ _ _)
      | (with_reducible exact ih3 _ _ _ _)
      | (with_reducible exact manteletlaw01_shown.mono _)
      | (with_reducible exact num_Put.mono _ _ _)
      | (with_reducible exact LeO.refl _)
      | (with_reducible exact LeO.none _)
      | (with_reducible refine LeO.ite ?_ ?_)
      | (with_reducible refine LeO.bind ?_ (fun _ => ?_))
      | exact ih0 _ _ _
      | exact ih1 _ _ _ _
      | exact ih2 _ _ _ _ _
      | exact ih3 _ _ _ _
      | exact manteletlaw01_shown.mono _
      | exact num_Put.mono _ _ _
      | exact LeO.none _
      | refine LeO.ite ?_ ?_
      | refine LeO.bind ?_ (fun _ => ?_)
    · intro y0 y1 y2 y3
      unfold manteletlaw01_NumJoins.l0
      repeat' first
      | (with_reducible exact ih0 _ _ _)
      | (with_reducible exact ih1 _ _ _ _)
      | (with_reducible exact ih2 _ _ _ _ _)
      | (with_reducible exact ih3 _ _ _ _)
      | (with_reducible exact manteletlaw01_shown.mono _)
      | (with_reducible exact num_Put.mono _ _ _)
      | (with_reducible exact LeO.refl _)
      | (with_reducible exact LeO.none _)
      | (with_reducible refine LeO.ite ?_ ?_)
      | (with_reducible refine LeO.bind ?_ (fun _ => ?_))
      | exact ih0 _ _ _
      | exact ih1 _ _ _ _
      | exact ih2 _ _ _ _ _
      | exact ih3 _ _ _ _
      | exact manteletlaw01_shown.mono _
      | exact num_Put.mono _ _ _
      | exact LeO.none _
      | refine LeO.ite ?_ ?_
      | refine LeO.bind ?_ (fun _ => ?_)
theorem manteletlaw01_NumJoins.mono : ∀ a0 k, LeO (manteletlaw01_NumJoins.f k a0) (manteletlaw01_NumJoins.f (k + 1) a0) := by
  intro a0 k
  obtain ⟨ih0, ih1, ih2, ih3⟩ := manteletlaw01_NumJoins.mono_l k
  unfold manteletlaw01_NumJoins.f
  repeat' first
      | (with_reducible exact ih0 _ _ _)
      | (with_reducible exact ih1 _ _ _ _)
      | (with_reducible exact ih2 _ _ _ _ _)
      | (with_reducible exact ih3 _ _ _ _)
      | (with_reducible exact manteletlaw01_shown.mono _)
      | (with_reducible exact num_Put.mono _ _ _)
      | (with_reducible exact LeO.refl _)
      | (with_reducible exact LeO.none _)
      | (with_reducible refine LeO.ite ?_ ?_)
      | (with_reducible refine LeO.bind ?_ (fun _ => ?_))
      | exact ih0 _ _ _
      | exact ih1 _ _ _ _
      | exact ih2 _ _ _ _ _
      | exact ih3 _ _ _ _
      | exact manteletlaw01_shown.mono _
      | exact num_Put.mono _ _ _
      | exact LeO.none _
      | refine LeO.ite ?_ ?_
      | refine LeO.bind ?_ (fun _ => ?_)
set_option maxHeartbeats 8000000 in
set_option maxRecDepth 100000 in
theorem manteletlaw01_NumJoins.calls (k : Nat) (A0 : Option Addr) (c0 : Nat) (l0 : List Int) (r : Bool) (w : World) (hr0 : Kd.C (Kd.int .u64) w A0 l0.length l0) (hc0 : l0.length ≤ c0) (h : manteletlaw01_NumJoins.f k l0 = some r) :
    Calls Try.prog 8 #[.slice A0 l0.length c0] w fun e w' => e = .returned (.bool r) ∧ Below w.heap.size w w' := by
  have HR0 := Aside0.mk hr0
  have HC0 := Aside0.mk hc0
  clear hr0 hc0
  have HB := Aside0.mk (Below.refl w.heap.size w)
  have H : ((manteletlaw01_shown.f k).bind fun t159 => (manteletlaw01_NumJoins.l0 k l0 t159 ([] : List Int) 0)) = some r := h
  clear h
  replace H := Option.bind_eq_some_iff.mp H
  obtain ⟨t159, A20, H⟩ := H
  replace H : (manteletlaw01_NumJoins.l0 k l0 t159 ([] : List Int) 0) = some r := H
  have A2 := Aside0.mk A20
  clear A20
  have HC3 := Aside0.mk H
  clear H
  go_enter Try.func8, Try.ntmps8
  go_upto_block 0 with (first | ((with_reducible refine gate_callee (f := 18) rfl ?_); refine goesL_ (some 10) rfl rfl Try.func18 (by kernel_rfl) rfl #[] rfl (by (try simp only [List.map_toArray, List.map_cons, List.map_nil]); first | done | rfl | (simp only [List.length_drop, List.length_take]; rfl)) ?_; (with_reducible refine (manteletlaw01_shown.calls k  t159 _ A2.out).mono ?_); rintro e w4 ⟨rfl, hb⟩; refine ⟨_, rfl, ?_⟩; have n0_ := Aside0.mk (below_step (by repeat (first | (with_reducible first | exact HB.out | apply below_alloc | apply pw_below_drewN | apply below_drew1) | exact HB.out)) hb); clear HB; have HB := n0_; clear n0_; (try clear hb); (try clear hb2); (try clear hk); (try clear hi)))
  (try simp only [Act.put, List.setIfInBounds_toArray, List.set_cons_zero, List.set_cons_succ])
  go_cut [4] (fun v4 wc => ∃ (kq : Nat) (x4_2 : List Int), Aside0 (manteletlaw01_NumJoins.j1 kq l0 t159 x4_2 = some r) ∧ Aside0 (kq ≤ k) ∧ Aside0 (Kd.Q (Kd.int .u8) 5 wc w.heap.size (fun _ => True) v4 x4_2) ∧ Aside0 (Below w.heap.size w wc))
  case first =>
    have H := HC3.out
    clear HC3
    have H' := Aside0.mk H
    clear H
    go_wp2
    go_loopg [4, 5] k (fun kq v4 v5 w' => ∃ (x4_1 : List Int) (x5_1 : Int), v5 = .int .i64 x5_1 ∧ Aside0 (manteletlaw01_NumJoins.l0 kq l0 t159 x4_1 x5_1 = some r) ∧ Aside0 (kq ≤ k) ∧ Aside0 (Kd.Q (Kd.int .u8) 5 w' w.heap.size (fun _ => True) v4 x4_1) ∧ Aside0 (Below w.heap.size w w'))
    case atStart => exact ⟨(([] : List Int)), (0), (by first | rfl | (simp; done) | (simp [*]; done)), H', ⟨Nat.le_refl _⟩, ⟨Kd.Q_of_R (by first | exact Kd.R_nil _ _ _ _ _ | exact Kd.N_nil _ _ _ _ _ | exact Kd.V_nil _ _ _ _ _ | exact Kd.Q_nil _ _ _ _ _ | exact Kd.S_nil _ _ _ _ _)⟩, ⟨by repeat (first | (with_reducible first | exact HB.out | apply below_alloc | apply pw_below_drewN | apply below_drew1) | exact HB.out)⟩⟩
    case round =>
      clear H'
      try clear c1
      try clear p2
      obtain ⟨x4_1, x5_1, rfl, HA, HK1, HO_4, HB⟩ := hrel
      cases gk with
      | zero => exact absurd HA.out (by simp [manteletlaw01_NumJoins.l0])
      | succ k1 =>
        have H := HA.out
        clear HA
        simp only [manteletlaw01_NumJoins.l0] at H
        by_cases c5 : x5_1 < (l0.length : Int)
        · rw [if_pos c5] at H
          have c5b0 : decide (x5_1 < (l0.length : Int)) = true := decide_eq_true c5
          clear c5
          (first | rw [c5b0] | (simp only [i64_w, i32_w]; rw [c5b0]) | skip)
          by_cases c6 : x5_1 < 100
          · rw [if_pos c6] at H
            have c6b0 : decide (x5_1 < 100) = true := decide_eq_true c6
            clear c6
            by_cases c7 : 0 ≤ x5_1
            · rw [if_pos c7] at H
              have c7b0 : decide (0 ≤ x5_1) = true := decide_eq_true c7
              clear c7
              replace H := Option.bind_eq_some_iff.mp H
              obtain ⟨t161, A80, H⟩ := H
              replace H : (manteletlaw01_NumJoins.l0 k1 l0 t159 t161 (wrap64 (x5_1 + 1))) = some r := H
              have A8 := Aside0.mk A80
              clear A80
              have H' := Aside0.mk H
              clear H
              have p160 : 0 ≤ (x5_1 : Int) := of_decide_eq_true (by first | (with_reducible assumption) | assumption)
              have q160 : x5_1 < (l0.length : Int) := of_decide_eq_true (by first | (with_reducible assumption) | assumption)
              obtain ⟨ad160, e160, hx160_0⟩ := Kd.at_int HR0.out x5_1 p160 q160
              cases e160
              replace hx160_0 := (HB.out.cell (World.block_lt_of_cell? w _ hx160_0)).trans hx160_0
              replace p160 := eq_true p160
              replace q160 := eq_true q160
              obtain ⟨Ao9, co9, eo9, _⟩ := Kd.Q_slice HO_4.out
              subst eo9
              go_wp2_with (first | ((with_reducible refine gate_callee (f := 19) rfl ?_); refine goesL_ (some 26) rfl rfl Try.func19 (by kernel_rfl) rfl #[.slice Ao9 x4_1.length co9, .int .u64 (rd l0 x5_1)] rfl (by (try simp only [List.map_toArray, List.map_cons, List.map_nil]); first | done | rfl | (simp only [List.length_drop, List.length_take]; rfl)) ?_; (with_reducible refine (num_Put.calls k1 _ _ x4_1 (rd l0 x5_1) t161 _ ?side1 ?side2 A8.out).mono ?_); (case side1 => repeat (first | exact (Kd.Q_reads' HO_4.out).2.2 | (with_reducible refine Kd.C_alloc ?_ _) | (with_reducible refine Kd.C_drewN ?_ _) | (with_reducible refine Kd.C_drew ?_))); (case side2 => exact (Kd.Q_reads' HO_4.out).2.1); rintro e w10 ⟨v162, rfl, ho0, hb⟩; refine ⟨_, rfl, ?_⟩; have n0_ := Aside0.mk (Kd.Q_elder' (by (with_reducible repeat (first | apply Kd.Q_alloc | apply Kd.Q_drewN | apply Kd.Q_drew)); exact HO_4.out) (Kd.R_base ho0) hb); have n1_ := Aside0.mk (Kd.R_lower (Kd.R_new' ho0 (Kd.Q_lt (by (with_reducible repeat (first | apply Kd.Q_alloc | apply Kd.Q_drewN | apply Kd.Q_drew)); exact HO_4.out))) (below_size (by repeat (first | (with_reducible first | exact HB.out | apply below_alloc | apply pw_below_drewN | apply below_drew1) | exact HB.out)))); have n2_ := Aside0.mk (below_step (by repeat (first | (with_reducible first | exact HB.out | apply below_alloc | apply pw_below_drewN | apply below_drew1) | exact HB.out)) hb); clear HO_4; clear HB; have HO_4 := n0_; have HO163 := n1_; have HB := n2_; clear n0_ n1_ n2_; (try clear hb); (try clear hb2); (try clear hk); (try clear hi); (try clear ho0)))
              go_roundg k1
              case measure => have := HK1.out; omega
              case rel => exact ⟨(t161), (wrap64 (x5_1 + 1)), (by first | rfl | (simp; done) | (simp [*]; done)), H', ⟨by have := HK1.out; omega⟩, ⟨Kd.Q_of_R (by (with_reducible repeat (first | apply Kd.R_alloc | apply Kd.R_drewN | apply Kd.R_drew)); exact Kd.R_mono HO163.out (fun _ hk => trivial))⟩, ⟨by repeat (first | (with_reducible first | exact HB.out | apply below_alloc | apply pw_below_drewN | apply below_drew1) | exact HB.out)⟩⟩
            · rw [if_neg c7] at H
              exact absurd H (by simp)
          · rw [if_neg c6] at H
            have c6b0 : decide (x5_1 < 100) = false := decide_eq_false c6
            clear c6
            have H' := Aside0.mk H
            clear H
            go_wp2
            go_meet
            case rel => exact ⟨_, (x4_1), H', ⟨by have := HK1.out; first | omega | exact Nat.le_refl _⟩, ⟨by (with_reducible repeat (first | apply Kd.Q_alloc | apply Kd.Q_drewN | apply Kd.Q_drew)); exact HO_4.out⟩, ⟨by repeat (first | (with_reducible first | exact HB.out | apply below_alloc | apply pw_below_drewN | apply below_drew1) | exact HB.out)⟩⟩
        · rw [if_neg c5] at H
          have c5b0 : decide (x5_1 < (l0.length : Int)) = false := decide_eq_false c5
          clear c5
          (first | rw [c5b0] | (simp only [i64_w, i32_w]; rw [c5b0]) | skip)
          have H' := Aside0.mk H
          clear H
          go_wp2
          go_meet
          case rel => exact ⟨_, (x4_1), H', ⟨by have := HK1.out; first | omega | exact Nat.le_refl _⟩, ⟨by (with_reducible repeat (first | apply Kd.Q_alloc | apply Kd.Q_drewN | apply Kd.Q_drew)); exact HO_4.out⟩, ⟨by repeat (first | (with_reducible first | exact HB.out | apply below_alloc | apply pw_below_drewN | apply below_drew1) | exact HB.out)⟩⟩
  case rest =>
    clear HC3
    try clear c1
    try clear p1
    try clear q1
    try clear hx1
    try clear p2
    try clear c5
    try clear c5b0
    try clear c6
    try clear c6b0
    try clear p6
    try clear c7
    try clear c7b0
    try clear c8
    try clear hx160_0
    try clear p160
    try clear p2
    try clear q160
    obtain ⟨kq, x4_2, HA, HJ2, HO_4, HB⟩ := hcut
    cases kq with
    | zero => exact absurd HA.out (by simp [manteletlaw01_NumJoins.j1])
    | succ kj2 =>
      have H := HA.out
      clear HA
      simp only [manteletlaw01_NumJoins.j1] at H
      have H' := Aside0.mk H
      clear H
      go_wp2
      go_loopg [4, 6] kj2 (fun kq v4 v6 w' => ∃ (x4_2 : List Int) (x6_2 : Int), v6 = .int .i64 x6_2 ∧ Aside0 (manteletlaw01_NumJoins.l1 kq l0 t159 x4_2 x6_2 = some r) ∧ Aside0 (kq ≤ kj2) ∧ Aside0 (Kd.Q (Kd.int .u8) 5 w' w.heap.size (fun _ => True) v4 x4_2) ∧ Aside0 (Below w.heap.size w w'))
      case atStart => exact ⟨(x4_2), (0), (by first | rfl | (simp; done) | (simp [*]; done)), H', ⟨Nat.le_refl _⟩, ⟨by (with_reducible repeat (first | apply Kd.Q_alloc | apply Kd.Q_drewN | apply Kd.Q_drew)); exact HO_4.out⟩, ⟨by repeat (first | (with_reducible first | exact HB.out | apply below_alloc | apply pw_below_drewN | apply below_drew1) | exact HB.out)⟩⟩
      case round =>
        clear H'
        try clear c1
        try clear p1
        try clear q1
        try clear hx1
        try clear p2
        try clear c5
        try clear c5b0
        try clear c6
        try clear c6b0
        try clear p6
        try clear c7
        try clear c7b0
        try clear c8
        try clear hx160_0
        try clear p1
        try clear p160
        try clear p2
        try clear p6
        try clear q1
        try clear q160
        obtain ⟨x4_2, x6_2, rfl, HA, HK2, HO_4, HB⟩ := hrel
        cases gk with
        | zero => exact absurd HA.out (by simp [manteletlaw01_NumJoins.l1])
        | succ k2 =>
          have H := HA.out
          clear HA
          simp only [manteletlaw01_NumJoins.l1] at H
          have HC11 := Aside0.mk H
          clear H
          go_upto_region 8 with (fail)
          go_cut [34] (fun v34 wc => ∃ (kq : Nat) (x34_10 : Bool), v34 = .bool x34_10 ∧ Aside0 (manteletlaw01_NumJoins.j3 kq l0 t159 x4_2 x6_2 x34_10 = some r) ∧ Aside0 (kq ≤ k2) ∧ Aside0 (Kd.Q (Kd.int .u8) 5 wc w.heap.size (fun _ => True) u4 x4_2) ∧ Aside0 (Below w.heap.size w wc))
          case first =>
            have H := HC11.out
            clear HC11
            by_cases c12 : x6_2 < (l0.length : Int)
            · rw [if_pos c12] at H
              have c12b0 : decide (x6_2 < (l0.length : Int)) = true := decide_eq_true c12
              clear c12
              (first | rw [c12b0] | (simp only [i64_w, i32_w]; rw [c12b0]) | skip)
              have H' := Aside0.mk H
              clear H
              go_wp2
              go_meet
              case rel => exact ⟨_, (decide (x6_2 < 100)), (by first | rfl | (simp; done) | (simp [*]; done)), H', ⟨by have := HJ2.out; have := HK2.out; first | omega | exact Nat.le_refl _⟩, ⟨by (with_reducible repeat (first | apply Kd.Q_alloc | apply Kd.Q_drewN | apply Kd.Q_drew)); exact HO_4.out⟩, ⟨by repeat (first | (with_reducible first | exact HB.out | apply below_alloc | apply pw_below_drewN | apply below_drew1) | exact HB.out)⟩⟩
            · rw [if_neg c12] at H
              have c12b0 : decide (x6_2 < (l0.length : Int)) = false := decide_eq_false c12
              clear c12
              (first | rw [c12b0] | (simp only [i64_w, i32_w]; rw [c12b0]) | skip)
              have H' := Aside0.mk H
              clear H
              go_wp2
              go_meet
              case rel => exact ⟨_, (false), (by first | rfl | (simp; done) | (simp [*]; done)), H', ⟨by have := HJ2.out; have := HK2.out; first | omega | exact Nat.le_refl _⟩, ⟨by (with_reducible repeat (first | apply Kd.Q_alloc | apply Kd.Q_drewN | apply Kd.Q_drew)); exact HO_4.out⟩, ⟨by repeat (first | (with_reducible first | exact HB.out | apply below_alloc | apply pw_below_drewN | apply below_drew1) | exact HB.out)⟩⟩
          case rest =>
            clear HC11
            try clear c1
            try clear p1
            try clear q1
            try clear hx1
            try clear p2
            try clear c5
            try clear c5b0
            try clear c6
            try clear c6b0
            try clear p6
            try clear c7
            try clear c7b0
            try clear c8
            try clear c12
            try clear c12b0
            try clear hx160_0
            try clear p1
            try clear p160
            try clear p2
            try clear p6
            try clear q1
            try clear q160
            obtain ⟨kq, x34_10, rfl, HA, HJ10, HO_4, HB⟩ := hcut
            cases kq with
            | zero => exact absurd HA.out (by simp [manteletlaw01_NumJoins.j3])
            | succ kj10 =>
              have H := HA.out
              clear HA
              simp only [manteletlaw01_NumJoins.j3] at H
              by_cases c13 : x34_10 = true
              · subst c13
                have H1 : ((num_Get.f x4_2).bind fun bt164 => (if bt164.2.2 = 0 then (if 0 ≤ x6_2 then (if x6_2 < (l0.length : Int) then (if bt164.1 = (rd l0 x6_2) then (if bt164.2.1 > (x4_2.length : Int) then (none) else (if 0 ≤ bt164.2.1 then (if bt164.2.1 ≤ (x4_2.length : Int) then (manteletlaw01_NumJoins.l1 kj10 l0 t159 (x4_2.drop (bt164.2.1 : Int).toNat) (wrap64 (x6_2 + 1))) else (none)) else (none))) else (none)) else (none)) else (none)) else (none))) = some r := by rw [if_pos rfl] at H; exact H
                clear H
                have H := H1
                clear H1
                replace H := Option.bind_eq_some_iff.mp H
                obtain ⟨⟨t164, t165, t166⟩, A140, H⟩ := H
                replace H : (if t166 = 0 then (if 0 ≤ x6_2 then (if x6_2 < (l0.length : Int) then (if t164 = (rd l0 x6_2) then (if t165 > (x4_2.length : Int) then (none) else (if 0 ≤ t165 then (if t165 ≤ (x4_2.length : Int) then (manteletlaw01_NumJoins.l1 kj10 l0 t159 (x4_2.drop (t165 : Int).toNat) (wrap64 (x6_2 + 1))) else (none)) else (none))) else (none)) else (none)) else (none)) else (none)) = some r := H
                have A14 := Aside0.mk A140
                clear A140
                by_cases c15 : t166 = 0
                · rw [if_pos c15] at H
                  have c15b0 : (t166 == 0) = true := beq_iff_eq.mpr c15
                  have c15b1 : (t166 != 0) = false := bne_eq_false_iff_eq.mpr c15
                  clear c15
                  by_cases c16 : 0 ≤ x6_2
                  · rw [if_pos c16] at H
                    have c16b0 : decide (0 ≤ x6_2) = true := decide_eq_true c16
                    clear c16
                    by_cases c17 : x6_2 < (l0.length : Int)
                    · rw [if_pos c17] at H
                      have c17b0 : decide (x6_2 < (l0.length : Int)) = true := decide_eq_true c17
                      clear c17
                      by_cases c18 : t164 = (rd l0 x6_2)
                      · rw [if_pos c18] at H
                        have c18b0 : (t164 == (rd l0 x6_2)) = true := beq_iff_eq.mpr c18
                        have c18b1 : (t164 != (rd l0 x6_2)) = false := bne_eq_false_iff_eq.mpr c18
                        clear c18
                        by_cases c19 : t165 > (x4_2.length : Int)
                        · rw [if_pos c19] at H
                          exact absurd H (by simp)
                        · rw [if_neg c19] at H
                          have c19b0 : decide ((x4_2.length : Int) < t165) = false := decide_eq_false c19
                          clear c19
                          by_cases c20 : 0 ≤ t165
                          · rw [if_pos c20] at H
                            have c20b0 := eq_true c20
                            have c20b1 : decide (0 ≤ t165) = true := decide_eq_true c20
                            clear c20
                            by_cases c21 : t165 ≤ (x4_2.length : Int)
                            · rw [if_pos c21] at H
                              have c21b0 := eq_true c21
                              have c21b1 : decide (t165 ≤ (x4_2.length : Int)) = true := decide_eq_true c21
                              clear c21
                              obtain ⟨y168, hy168⟩ : ∃ y_ : List Int, y_ = (x4_2.drop (t165 : Int).toNat) := ⟨_, rfl⟩
                              replace H : (manteletlaw01_NumJoins.l1 kj10 l0 t159 y168 (wrap64 (x6_2 + 1))) = some r := by first | (rw [hy168]; with_reducible exact H) | (have H2_ := (Option.bind_some _ _).symm.trans H; rw [hy168]; with_reducible exact H2_) | (have H2_ := (Option.bind_some _ _).symm.trans H; with_reducible exact H2_) | with_reducible exact H | (rw [hy168]; exact H) | exact H
                              have Ny168 := Aside0.mk hy168
                              clear hy168
                              have H' := Aside0.mk H
                              clear H
                              obtain ⟨Ao22, co22, eo22, _⟩ := Kd.Q_slice HO_4.out
                              subst eo22
                              go_wp2_with (first | ((with_reducible refine gate_callee (f := 20) rfl ?_); refine goesL_ (some 39) rfl rfl Try.func20 (by kernel_rfl) rfl #[.slice Ao22 x4_2.length co22] rfl (by (try simp only [List.map_toArray, List.map_cons, List.map_nil]); first | done | rfl | (simp only [List.length_drop, List.length_take]; rfl)) ?_; (with_reducible refine (num_Get.calls _ _ x4_2 t164 t165 t166 _ ?side1 ?side2 A14.out).mono ?_); (case side1 => repeat (first | exact (Kd.Q_reads' HO_4.out).2.2 | (with_reducible refine Kd.C_alloc ?_ _) | (with_reducible refine Kd.C_drewN ?_ _) | (with_reducible refine Kd.C_drew ?_))); (case side2 => exact (Kd.Q_reads' HO_4.out).2.1); rintro e w' ⟨rfl, ⟨nd, rfl⟩⟩; refine ⟨_, rfl, ?_⟩; have p167 : 0 ≤ (x6_2 : Int) := of_decide_eq_true (by first | (with_reducible assumption) | assumption); have q167 : x6_2 < (l0.length : Int) := of_decide_eq_true (by first | (with_reducible assumption) | assumption); obtain ⟨ad167, e167, hx167_0⟩ := Kd.at_int HR0.out x6_2 p167 q167; cases e167; replace hx167_0 := (HB.out.cell (World.block_lt_of_cell? w _ hx167_0)).trans hx167_0; replace p167 := eq_true p167; replace q167 := eq_true q167; have q23 : (t165 : Int) ≤ ((x4_2.length : Int) : Int) := of_decide_eq_true (by first | (with_reducible assumption) | assumption); obtain ⟨i023, hi023, _, hsz23, _⟩ := info_parts info5; have hcut23 := cut_from (P := Try.prog) 31 5 .i64 Try.underlying31 hi023 1 hsz23 Ao22 x4_2.length co22 t165 (of_decide_eq_true (by first | (with_reducible assumption) | assumption)) q23; have hr23 := Kd.Q_drop (k := (t165 : Int).toNat) HO_4.out (by omega); obtain ⟨A23, hA23⟩ : ∃ A1, A1 = (if co22 = (t165 : Int).toNat then Ao22 else (Ao22 : Option Addr).map (·.add ((t165 : Int).toNat * 1))) := ⟨_, rfl⟩; obtain ⟨c23, hc23⟩ : ∃ c1, c1 = co22 - (t165 : Int).toNat := ⟨_, rfl⟩; have hy23 : y168.length = x4_2.length - (t165 : Int).toNat := (by rw [Ny168.out, List.length_drop]); rw [← Ny168.out] at hr23; rw [← hy23, ← hA23, ← hc23] at hcut23; replace hr23 : Kd.Q (Kd.int .u8) 5 wc w.heap.size (fun _ => True) (.slice A23 y168.length c23) y168 := (by rw [hA23, hc23, hy23]; exact hr23); have HE23 : Aside0 ((Value.slice A23 y168.length c23).ownBlock = (.slice Ao22 x4_2.length co22 : Value).ownBlock) := ⟨by rw [hA23]; split <;> (cases (Ao22 : Option Addr) <;> first | rfl | simp [Value.ownBlock, add_block])⟩; clear hy23 hi023 hsz23 HO_4 hA23 hc23; have HO170 := Aside0.mk hr23; clear hr23; replace q23 := eq_true q23))
                              go_roundg kj10
                              case measure => have := HJ2.out; have := HK2.out; have := HJ10.out; omega
                              case rel => exact ⟨(y168), (wrap64 (x6_2 + 1)), (by first | rfl | (simp; done) | (simp [*]; done)), H', ⟨by have := HJ2.out; have := HK2.out; have := HJ10.out; omega⟩, ⟨by (with_reducible repeat (first | apply Kd.Q_alloc | apply Kd.Q_drewN | apply Kd.Q_drew)); exact HO170.out⟩, ⟨by repeat (first | (with_reducible first | exact HB.out | apply below_alloc | apply pw_below_drewN | apply below_drew1) | exact HB.out)⟩⟩
                            · rw [if_neg c21] at H
                              exact absurd H (by simp)
                          · rw [if_neg c20] at H
                            exact absurd H (by simp)
                      · rw [if_neg c18] at H
                        exact absurd H (by simp)
                    · rw [if_neg c17] at H
                      exact absurd H (by simp)
                  · rw [if_neg c16] at H
                    exact absurd H (by simp)
                · rw [if_neg c15] at H
                  exact absurd H (by simp)
              · replace c13 := Bool.eq_false_iff.mpr c13
                subst c13
                have H1 : (if t159 = true then (some ((x4_2.length : Int) == 0)) else (none)) = some r := by rw [if_neg (show ¬ (false = true) by decide)] at H; exact H
                clear H
                have H := H1
                clear H1
                by_cases c24 : t159 = true
                · subst c24
                  have H1 : (some ((x4_2.length : Int) == 0)) = some r := by rw [if_pos rfl] at H; exact H
                  clear H
                  have H := H1
                  clear H1
                  obtain rfl := Option.some.inj H
                  obtain ⟨Ao25, co25, eo25, _⟩ := Kd.Q_slice HO_4.out
                  subst eo25
                  go_wp2
                  go_ret
                  exact ⟨by first | rfl | (simp [errW_none, errW_some] <;> rfl) | (simp [*, errW_none, errW_some] <;> rfl), by repeat (first | (with_reducible first | exact HB.out | apply below_alloc | apply pw_below_drewN | apply below_drew1) | exact HB.out)⟩
                · replace c24 := Bool.eq_false_iff.mpr c24
                  subst c24
                  have H1 : (none) = some r := by rw [if_neg (show ¬ (false = true) by decide)] at H; exact H
                  clear H
                  have H := H1
                  clear H1
                  exact absurd H (by simp)

/-- THE ONE PURE STATEMENT of manteletlaw01_NumJoins: yours. -/
def manteletlaw01_NumJoins.Pure : Prop := ∀ (l0 : List Int), l0.length ≤ maxLen → l0.length * 8 ≤ 140737488351232 → (∀ x ∈ l0, (Lit.int .u64 x).wf = true) → ∃ k, manteletlaw01_NumJoins.f k l0 = some true
theorem manteletlaw01_NumJoins.walk (P : manteletlaw01_NumJoins.Pure) (a0 : Option Addr) (len0 cap0 : Nat) (z0 : List Int) (w : World) (w0 : (a0 = none ∧ len0 = 0 ∧ cap0 = 0 ∧ z0 = []) ∨ ∃ x, a0 = some x ∧ len0 ≤ cap0 ∧ cap0 ≤ maxLen ∧ z0.length = cap0 ∧ (∀ i, i < z0.length → w.cell? (x.add i) = some (.int .u64 (z0.getD i 0))) ∧ ∀ n ∈ z0, (Lit.int .u64 n).wf = true) (y0 : len0 * 8 ≤ 140737488351232) :
    Calls Try.prog 8 #[.slice a0 len0 cap0] w fun e w' => e = .returned (.bool true) ∧ Below w.heap.size w w' := by
  obtain ⟨l0, rfl, hr0, hm0, hw0, hc0⟩ := ReadsInt.ofRowC w0
  obtain ⟨k, h⟩ := P l0 hm0 y0 hw0
  refine (manteletlaw01_NumJoins.calls k _ _ l0 true w (Kd.C_of_reads (d := (0 : Int)) (h1 := fun _ => rfl) hr0) hc0 h).mono ?_
  rintro e w' ⟨rfl, hd⟩
  exact ⟨rfl, hd⟩

/-! ### manteletlaw01_NumHeads: function 9 -/
def manteletlaw01_NumHeads.l0 : Nat → Int → Int → Bool → List Int → List Int → Int → Option (Bool)
  | 0, _, _, _, _, _, _ => none
  | k + 1, x0, x1, x5, x6, x7, x8 => if x8 < (x6.length : Int) then (if 0 ≤ x8 then (if ((decide ((rd x6 x8) ≥ 128)) != (decide (x8 < (wrap64 ((x6.length : Int) - 1))))) = true then (none) else (manteletlaw01_NumHeads.l0 k x0 x1 x5 x6 x7 (wrap64 (x8 + 1)))) else (none)) else (if x5 = true then (if (x6.length : Int) ≥ 1 then (if (x6.length : Int) ≤ (x7.length : Int) then (some (((strOfNums x6).toList == (strOfNums x7).toList) == (x0 == x1))) else (none)) else (none)) else (none))
def manteletlaw01_NumHeads.f (k : Nat) (a0 : Int) (a1 : Int) : Option (Bool) := (manteletlaw01_shown.f k).bind fun t171 => ((num_Put.f k ([] : List Int) (mn a0 a1)).bind fun t172 => ((num_Put.f k ([] : List Int) (mx a0 a1)).bind fun t175 => (manteletlaw01_NumHeads.l0 k a0 a1 t171 t172 t175 0)))
theorem manteletlaw01_NumHeads.mono_l : ∀ k, (∀ y0 y1 y2 y3 y4 y5, LeO (manteletlaw01_NumHeads.l0 k y0 y1 y2 y3 y4 y5) (manteletlaw01_NumHeads.l0 (k + 1) y0 y1 y2 y3 y4 y5))
  | 0 => fun _ _ _ _ _ _ r h => by simp [manteletlaw01_NumHeads.l0] at h
  | k + 1 => by
    have ih0 := manteletlaw01_NumHeads.mono_l k
    · intro y0 y1 y2 y3 y4 y5
      unfold manteletlaw01_NumHeads.l0
      repeat' first
      | (with_reducible exact ih0 _ _ _ _ _ _)
      | (with_reducible exact manteletlaw01_shown.mono _)
      | (with_reducible exact num_Put.mono _ _ _)
      | (with_reducible exact LeO.refl _)
      | (with_reducible exact LeO.none _)
      | (with_reducible refine LeO.ite ?_ ?_)
      | (with_reducible refine LeO.bind ?_ (fun _ => ?_))
      | exact ih0 _ _ _ _ _ _
      | exact manteletlaw01_shown.mono _
      | exact num_Put.mono _ _ _
      | exact LeO.none _
      | refine LeO.ite ?_ ?_
      | refine LeO.bind ?_ (fun _ => ?_)
theorem manteletlaw01_NumHeads.mono : ∀ a0 a1 k, LeO (manteletlaw01_NumHeads.f k a0 a1) (manteletlaw01_NumHeads.f (k + 1) a0 a1) := by
  intro a0 a1 k
  have ih0 := manteletlaw01_NumHeads.mono_l k
  unfold manteletlaw01_NumHeads.f
  repeat' first
      | (with_reducible exact ih0 _ _ _ _ _ _)
      | (with_reducible exact manteletlaw01_shown.mono _)
      | (with_reducible exact num_Put.mono _ _ _)
      | (with_reducible exact LeO.refl _)
      | (with_reducible exact LeO.none _)
      | (with_reducible refine LeO.ite ?_ ?_)
      | (with_reducible refine LeO.bind ?_ (fun _ => ?_))
      | exact ih0 _ _ _ _ _ _
      | exact manteletlaw01_shown.mono _
      | exact num_Put.mono _ _ _
      | exact LeO.none _
      | refine LeO.ite ?_ ?_
      | refine LeO.bind ?_ (fun _ => ?_)
set_option maxHeartbeats 8000000 in
set_option maxRecDepth 100000 in
theorem manteletlaw01_NumHeads.calls (k : Nat) (a0 : Int) (a1 : Int) (r : Bool) (w : World) (h : manteletlaw01_NumHeads.f k a0 a1 = some r) :
    Calls Try.prog 9 #[.int .u64 a0, .int .u64 a1] w fun e w' => e = .returned (.bool r) ∧ Below w.heap.size w w' := by
  have HB := Aside0.mk (Below.refl w.heap.size w)
  have H : ((manteletlaw01_shown.f k).bind fun t171 => ((num_Put.f k ([] : List Int) (mn a0 a1)).bind fun t172 => ((num_Put.f k ([] : List Int) (mx a0 a1)).bind fun t175 => (manteletlaw01_NumHeads.l0 k a0 a1 t171 t172 t175 0)))) = some r := h
  clear h
  replace H := Option.bind_eq_some_iff.mp H
  obtain ⟨t171, A30, H⟩ := H
  replace H : ((num_Put.f k ([] : List Int) (mn a0 a1)).bind fun t172 => ((num_Put.f k ([] : List Int) (mx a0 a1)).bind fun t175 => (manteletlaw01_NumHeads.l0 k a0 a1 t171 t172 t175 0))) = some r := H
  have A3 := Aside0.mk A30
  clear A30
  obtain ⟨ji4, hji4⟩ : ∃ j_ : Int, (mn a0 a1) = j_ := ⟨_, rfl⟩
  replace H : ((num_Put.f k ([] : List Int) (ji4)).bind fun t172 => ((num_Put.f k ([] : List Int) (mx a0 a1)).bind fun t175 => (manteletlaw01_NumHeads.l0 k a0 a1 t171 t172 t175 0))) = some r := by first | (rw [hji4] at H; exact H) | (simp only [hji4] at H ⊢; exact H)
  (try rw [hji4] at A3)
  have hji4_ : (if a1 < a0 then a1 else a0) = ji4 := hji4
  replace H := Option.bind_eq_some_iff.mp H
  obtain ⟨t172, A50, H⟩ := H
  replace H : ((num_Put.f k ([] : List Int) (mx a0 a1)).bind fun t175 => (manteletlaw01_NumHeads.l0 k a0 a1 t171 t172 t175 0)) = some r := H
  have A5 := Aside0.mk A50
  clear A50
  obtain ⟨ji6, hji6⟩ : ∃ j_ : Int, (mx a0 a1) = j_ := ⟨_, rfl⟩
  replace H : ((num_Put.f k ([] : List Int) (ji6)).bind fun t175 => (manteletlaw01_NumHeads.l0 k a0 a1 t171 t172 t175 0)) = some r := by first | (rw [hji6] at H; exact H) | (simp only [hji6] at H ⊢; exact H)
  (try rw [hji6] at A3)
  (try rw [hji6] at A5)
  have hji6_ : (if a0 < a1 then a1 else a0) = ji6 := hji6
  replace H := Option.bind_eq_some_iff.mp H
  obtain ⟨t175, A70, H⟩ := H
  replace H : (manteletlaw01_NumHeads.l0 k a0 a1 t171 t172 t175 0) = some r := H
  have A7 := Aside0.mk A70
  clear A70
  have H' := Aside0.mk H
  clear H
  go_enter Try.func9, Try.ntmps9
  go_wp2_with (first | ((with_reducible refine gate_callee (f := 18) rfl ?_); refine goesL_ (some 9) rfl rfl Try.func18 (by kernel_rfl) rfl #[] rfl (by (try simp only [List.map_toArray, List.map_cons, List.map_nil]); first | done | rfl | (simp only [List.length_drop, List.length_take]; rfl)) ?_; (with_reducible refine (manteletlaw01_shown.calls k  t171 _ A3.out).mono ?_); rintro e w8 ⟨rfl, hb⟩; refine ⟨_, rfl, ?_⟩; have n0_ := Aside0.mk (below_step (by repeat (first | (with_reducible first | exact HB.out | apply below_alloc | apply pw_below_drewN | apply below_drew1) | exact HB.out)) hb); clear HB; have HB := n0_; clear n0_; (try clear hb); (try clear hb2); (try clear hk); (try clear hi)) | ((with_reducible refine gate_callee (f := 19) rfl ?_); refine goesL_ (some 13) rfl rfl Try.func19 (by kernel_rfl) rfl #[.slice none 0 0, .int .u64 ji4] rfl (by (try simp only [List.map_toArray, List.map_cons, List.map_nil]); first | done | (simp only [hji4]; rfl) | rfl | (simp only [List.length_drop, List.length_take]; rfl)) ?_; (refine (num_Put.calls k _ _ ([] : List Int) ji4 t172 _ ?side1 ?side2 A5.out).mono ?_); (case side1 => exact Kd.C_nil _ _); (case side2 => exact Nat.le_refl _); rintro e w9 ⟨v173, rfl, ho0, hb⟩; refine ⟨_, rfl, ?_⟩; have n0_ := Aside0.mk (Kd.R_lower ho0 (below_size (by repeat (first | (with_reducible first | exact HB.out | apply below_alloc | apply pw_below_drewN | apply below_drew1) | exact HB.out)))); have n1_ := Aside0.mk (below_step (by repeat (first | (with_reducible first | exact HB.out | apply below_alloc | apply pw_below_drewN | apply below_drew1) | exact HB.out)) hb); clear HB; have HO174 := n0_; have HB := n1_; clear n0_ n1_; (try clear hb); (try clear hb2); (try clear hk); (try clear hi); (try clear ho0)) | ((with_reducible refine gate_callee (f := 19) rfl ?_); refine goesL_ (some 17) rfl rfl Try.func19 (by kernel_rfl) rfl #[.slice none 0 0, .int .u64 ji6] rfl (by (try simp only [List.map_toArray, List.map_cons, List.map_nil]); first | done | (simp only [hji6]; rfl) | rfl | (simp only [List.length_drop, List.length_take]; rfl)) ?_; (refine (num_Put.calls k _ _ ([] : List Int) ji6 t175 _ ?side1 ?side2 A7.out).mono ?_); (case side1 => exact Kd.C_nil _ _); (case side2 => exact Nat.le_refl _); rintro e w10 ⟨v176, rfl, ho0, hb⟩; refine ⟨_, rfl, ?_⟩; have n0_ := Aside0.mk (Kd.R_elder' (by (with_reducible repeat (first | apply Kd.R_alloc | apply Kd.R_drewN | apply Kd.R_drew)); exact HO174.out) (Kd.R_base ho0) hb); have n1_ := Aside0.mk (Kd.R_lower (Kd.R_new' ho0 (Kd.R_lt (by (with_reducible repeat (first | apply Kd.R_alloc | apply Kd.R_drewN | apply Kd.R_drew)); exact HO174.out))) (below_size (by repeat (first | (with_reducible first | exact HB.out | apply below_alloc | apply pw_below_drewN | apply below_drew1) | exact HB.out)))); have n2_ := Aside0.mk (below_step (by repeat (first | (with_reducible first | exact HB.out | apply below_alloc | apply pw_below_drewN | apply below_drew1) | exact HB.out)) hb); clear HO174; clear HB; have HO174 := n0_; have HO177 := n1_; have HB := n2_; clear n0_ n1_ n2_; (try clear hb); (try clear hb2); (try clear hk); (try clear hi); (try clear ho0)))
  go_loopg [8] k (fun kq v8 w' => ∃ (x8_1 : Int), v8 = .int .i64 x8_1 ∧ Aside0 (manteletlaw01_NumHeads.l0 kq a0 a1 t171 t172 t175 x8_1 = some r) ∧ Aside0 (kq ≤ k) ∧ Aside0 (Kd.R (Kd.int .u8) 5 w' w.heap.size (fun k_ => some k_ ≠ (v176 : Value).ownBlock) v173 t172) ∧ Aside0 (Kd.R (Kd.int .u8) 5 w' w.heap.size (fun k_ => some k_ ≠ (v173 : Value).ownBlock) v176 t175) ∧ Aside0 (Below w.heap.size w w'))
  case atStart => exact ⟨(0), (by first | rfl | (simp; done) | (simp [*]; done)), H', ⟨Nat.le_refl _⟩, ⟨by (with_reducible repeat (first | apply Kd.R_alloc | apply Kd.R_drewN | apply Kd.R_drew)); exact Kd.R_mono HO174.out (fun _ hk => hk.2)⟩, ⟨by (with_reducible repeat (first | apply Kd.R_alloc | apply Kd.R_drewN | apply Kd.R_drew)); exact Kd.R_mono HO177.out (fun _ hk => hk.2)⟩, ⟨by repeat (first | (with_reducible first | exact HB.out | apply below_alloc | apply pw_below_drewN | apply below_drew1) | exact HB.out)⟩⟩
  case round =>
    clear H'
    try clear c1
    try clear p2
    try clear c9
    obtain ⟨x8_1, rfl, HA, HK1, HO_6, HO_7, HB⟩ := hrel
    cases gk with
    | zero => exact absurd HA.out (by simp [manteletlaw01_NumHeads.l0])
    | succ k1 =>
      have H := HA.out
      clear HA
      simp only [manteletlaw01_NumHeads.l0] at H
      by_cases c11 : x8_1 < (t172.length : Int)
      · rw [if_pos c11] at H
        have c11b0 : decide (x8_1 < (t172.length : Int)) = true := decide_eq_true c11
        clear c11
        by_cases c12 : 0 ≤ x8_1
        · rw [if_pos c12] at H
          have c12b0 : decide (0 ≤ x8_1) = true := decide_eq_true c12
          clear c12
          by_cases c13 : ((decide ((rd t172 x8_1) ≥ 128)) != (decide (x8_1 < (wrap64 ((t172.length : Int) - 1))))) = true
          · rw [if_pos c13] at H
            exact absurd H (by simp)
          · rw [if_neg c13] at H
            have c13b0 : ((decide ((rd t172 x8_1) ≥ 128)) != (decide (x8_1 < (wrap64 ((t172.length : Int) - 1))))) = false := by simpa using c13
            (try (have c13b1 : decide ((decide ((rd t172 x8_1) ≥ 128)) = (decide (x8_1 < (wrap64 ((t172.length : Int) - 1))))) = true := by simpa using c13))
            (try (have c13b2 : ((decide ((rd t172 x8_1) ≥ 128)) == (decide (x8_1 < (wrap64 ((t172.length : Int) - 1))))) = true := by simpa using c13))
            clear c13
            have H' := Aside0.mk H
            clear H
            obtain ⟨Ao14, co14, eo14⟩ := Kd.R_slice HO_6.out
            subst eo14
            have p178 : 0 ≤ (x8_1 : Int) := of_decide_eq_true (by first | (with_reducible assumption) | assumption)
            have q178 : x8_1 < (t172.length : Int) := of_decide_eq_true (by first | (with_reducible assumption) | assumption)
            obtain ⟨ad178, e178, hx178_0⟩ := Kd.at_int (Kd.R_reads' HO_6.out).2.2 x8_1 p178 q178
            cases e178
            replace p178 := eq_true p178
            replace q178 := eq_true q178
            go_wp2
            go_roundg k1
            case measure => have := HK1.out; omega
            case rel => exact ⟨(wrap64 (x8_1 + 1)), (by first | rfl | (simp; done) | (simp [*]; done)), H', ⟨by have := HK1.out; omega⟩, ⟨by (with_reducible repeat (first | apply Kd.R_alloc | apply Kd.R_drewN | apply Kd.R_drew)); exact HO_6.out⟩, ⟨by (with_reducible repeat (first | apply Kd.R_alloc | apply Kd.R_drewN | apply Kd.R_drew)); exact HO_7.out⟩, ⟨by repeat (first | (with_reducible first | exact HB.out | apply below_alloc | apply pw_below_drewN | apply below_drew1) | exact HB.out)⟩⟩
        · rw [if_neg c12] at H
          exact absurd H (by simp)
      · rw [if_neg c11] at H
        have c11b0 : decide (x8_1 < (t172.length : Int)) = false := decide_eq_false c11
        clear c11
        by_cases c15 : t171 = true
        · subst c15
          have H1 : (if (t172.length : Int) ≥ 1 then (if (t172.length : Int) ≤ (t175.length : Int) then (some (((strOfNums t172).toList == (strOfNums t175).toList) == (a0 == a1))) else (none)) else (none)) = some r := by rw [if_pos rfl] at H; exact H
          clear H
          have H := H1
          clear H1
          by_cases c16 : (t172.length : Int) ≥ 1
          · rw [if_pos c16] at H
            have c16b0 : decide (1 ≤ (t172.length : Int)) = true := decide_eq_true c16
            have c16b1 : decide (1 ≤ t172.length) = true := decide_eq_true (by omega)
            clear c16
            by_cases c17 : (t172.length : Int) ≤ (t175.length : Int)
            · rw [if_pos c17] at H
              have c17b0 : decide ((t172.length : Int) ≤ (t175.length : Int)) = true := decide_eq_true c17
              have c17b1 : decide (t172.length ≤ t175.length) = true := decide_eq_true (Int.ofNat_le.mp c17)
              clear c17
              obtain rfl := Option.some.inj H
              obtain ⟨Ao18, co18, eo18⟩ := Kd.R_slice HO_6.out
              subst eo18
              obtain ⟨Ao19, co19, eo19⟩ := Kd.R_slice HO_7.out
              subst eo19
              have hcv20 := own_string (P := Try.prog) Try.underlying31 Try.underlying5 Try.underlying9 (Kd.own_of_R HO_6.out)
              have hcv21 := own_string (P := Try.prog) Try.underlying31 Try.underlying5 Try.underlying9 (Kd.own_of_R HO_7.out)
              go_wp2
              go_ret
              exact ⟨by first | rfl | (simp [errW_none, errW_some] <;> rfl) | (simp only [← hji4, ← hji6]; first | rfl | (simp [errW_none, errW_some] <;> rfl)) | (simp [*, errW_none, errW_some] <;> rfl), by repeat (first | (with_reducible first | exact HB.out | apply below_alloc | apply pw_below_drewN | apply below_drew1) | exact HB.out)⟩
            · rw [if_neg c17] at H
              exact absurd H (by simp)
          · rw [if_neg c16] at H
            exact absurd H (by simp)
        · replace c15 := Bool.eq_false_iff.mpr c15
          subst c15
          have H1 : (none) = some r := by rw [if_neg (show ¬ (false = true) by decide)] at H; exact H
          clear H
          have H := H1
          clear H1
          exact absurd H (by simp)

/-- THE ONE PURE STATEMENT of manteletlaw01_NumHeads: yours. -/
def manteletlaw01_NumHeads.Pure : Prop := ∀ (a0 : Int) (a1 : Int), (Lit.int .u64 a0).wf = true → (Lit.int .u64 a1).wf = true → ∃ k, manteletlaw01_NumHeads.f k a0 a1 = some true
theorem manteletlaw01_NumHeads.walk (P : manteletlaw01_NumHeads.Pure) (a0 : Int) (a1 : Int) (w : World) (w0 : (Lit.int .u64 a0).wf = true) (w1 : (Lit.int .u64 a1).wf = true) :
    Calls Try.prog 9 #[.int .u64 a0, .int .u64 a1] w fun e w' => e = .returned (.bool true) ∧ Below w.heap.size w w' := by
  obtain ⟨k, h⟩ := P a0 a1 w0 w1
  refine (manteletlaw01_NumHeads.calls k a0 a1 true w h).mono ?_
  rintro e w' ⟨rfl, hd⟩
  exact ⟨rfl, hd⟩

end Go.Proofs.Ytlndbodbhbcgcaa.PNum
