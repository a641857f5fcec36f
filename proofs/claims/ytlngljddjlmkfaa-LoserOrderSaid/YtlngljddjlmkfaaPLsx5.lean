/- Contracts of Go functions: called with what reads as these lists and numbers, a function returns what its plain Lean function says, and leaves what was there. Written by a program of this session. -/
import Derived.Test.YtlngljddjlmkfaaPLsx0
import Derived.Test.YtlngljddjlmkfaaPLsx2
import Derived.Test.YtlngljddjlmkfaaPLsx3
import Derived.Test.YtlngljddjlmkfaaPLsx4
namespace Go.Proofs.Ytlngljddjlmkfaa.PLs
open Go.RowKit Go.Proofs.YtlngljddjlmkfaaW.PrintWords Go.Proofs.YtlngljddjlmkfaaW.PrintLast Go.Proofs.YtlngljddjlmkfaaW.PrintMore
attribute [local go_sem] max2_int min2_int max_two min_two max_three min_three max_four min_four   -- for this text's walks alone
attribute [local go_sem] Go.Proofs.Ytlngljddjlmkfaa.MoreWords.str_leq Go.Proofs.Ytlngljddjlmkfaa.MoreWords.str_gtr Go.Proofs.Ytlngljddjlmkfaa.MoreWords.str_geq
set_option linter.unusedVariables false
set_option linter.unusedSimpArgs false

/-! ### manteletlaw11_LoserOrder: function 4 -/
mutual
def manteletlaw11_LoserOrder.j0 : Nat → List (List (S37)) → Int → Bool → Bool → Option (Bool)
  | 0, _, _, _, _ => none
  | k + 1, x0, x1, x5, x24 => if x24 = true then (some x5) else (manteletlaw11_LoserOrder.l0 k x0 x1 x5 0)
def manteletlaw11_LoserOrder.l0 : Nat → List (List (S37)) → Int → Bool → Int → Option (Bool)
  | 0, _, _, _, _ => none
  | k + 1, x0, x1, x5, x6 => if x6 < (x0.length : Int) then (if 0 ≤ x6 then ((run_May.f k (rd_L3 x0 x6)).bind fun t136 => (if t136 = 0 then (manteletlaw11_LoserOrder.l0 k x0 x1 x5 (wrap64 (x6 + 1))) else ((loser_Merge.f k x0).bind fun bt137 => (if x5 = true then ((run_May.f k (rd_L3 x0 x6)).bind fun t142 => (some (bt137.2 == t142))) else (none))))) else (none)) else (if (x0.length : Int) = 0 then (none) else (manteletlaw11_LoserOrder.l1 k x0 x5 (Int.tmod (wrap64 (x1)) (x0.length : Int)) ([] : List (List (S37))) (wrap64 ((x0.length : Int) - 1))))
def manteletlaw11_LoserOrder.l1 : Nat → List (List (S37)) → Bool → Int → List (List (S37)) → Int → Option (Bool)
  | 0, _, _, _, _, _ => none
  | k + 1, x0, x5, x9, x10, x11 => if x11 ≥ 0 then (if (x0.length : Int) = 0 then (none) else (if 0 ≤ (Int.tmod (wrap64 (x11 + x9)) (x0.length : Int)) then (if (Int.tmod (wrap64 (x11 + x9)) (x0.length : Int)) < (x0.length : Int) then (if x10.length < 5864062014805 then (manteletlaw11_LoserOrder.l1 k x0 x5 x9 (x10 ++ [rd_L3 x0 (Int.tmod (wrap64 (x11 + x9)) (x0.length : Int))]) (wrap64 (x11 - 1))) else (none)) else (none)) else (none))) else ((loser_Merge.f k x0).bind fun bt147 => ((loser_Merge.f k x10).bind fun bt151 => (if x5 = true then ((manteletref08_Same.f k bt147.1 bt151.1).bind fun t155 => (if t155 = true then (some (bt147.2 == bt151.2)) else (none))) else (none))))
end
def manteletlaw11_LoserOrder.f (k : Nat) (l0 : List (List (S37))) (a1 : Int) : Option (Bool) := (manteletlaw11_shown.f k).bind fun t133 => ((manteletlaw11_few.f k l0).bind fun t134 => (if t134 = true then (manteletlaw11_LoserOrder.j0 k l0 a1 t133 ((l0.length : Int) == 0)) else (manteletlaw11_LoserOrder.j0 k l0 a1 t133 true)))
theorem manteletlaw11_LoserOrder.mono_l : ∀ k, (∀ y0 y1 y2 y3, LeO (manteletlaw11_LoserOrder.j0 k y0 y1 y2 y3) (manteletlaw11_LoserOrder.j0 (k + 1) y0 y1 y2 y3)) ∧ (∀ y0 y1 y2 y3, LeO (manteletlaw11_LoserOrder.l0 k y0 y1 y2 y3) (manteletlaw11_LoserOrder.l0 (k + 1) y0 y1 y2 y3)) ∧ (∀ y0 y1 y2 y3 y4, LeO (manteletlaw11_LoserOrder.l1 k y0 y1 y2 y3 y4) (manteletlaw11_LoserOrder.l1 (k + 1) y0 y1 y2 y3 y4))
  | 0 => ⟨fun _ _ _ _ r h => by simp [manteletlaw11_LoserOrder.j0] at h, fun _ _ _ _ r h => by simp [manteletlaw11_LoserOrder.l0] at h, fun _ _ _ _ _ r h => by simp [manteletlaw11_LoserOrder.l1] at h⟩
  | k + 1 => by
    obtain ⟨ih0, ih1, ih2⟩ := manteletlaw11_LoserOrder.mono_l k
    refine ⟨?_, ?_, ?_⟩
    · intro y0 y1 y2 y3
      unfold manteletlaw11_LoserOrder.j0
      repeat' first
      | (with_reducible exact ih0 _ _ _ _)
      | (with_reducible exact ih1 _ _ _ _)
      | (with_reducible exact ih2 _ _ _ _ _)
      | (with_reducible exact loser_Merge.mono _ _)
      | (with_reducible exact manteletlaw11_few.mono _ _)
      | (with_reducible exact manteletlaw11_shown.mono _)
      | (with_reducible exact manteletref08_Same.mono _ _ _)
      | (with_reducible exact run_May.mono _ _)
      | (with_reducible exact LeO.refl _)
      | (with_reducible exact LeO.none _)
      | (with_reducible refine LeO.ite ?_ ?_)
      | (with_reducible refine LeO.bind ?_ (fun _ => ?_))
      | exact ih0 _ _ _ _
      | exact ih1 _ _ _ _
      | exact ih2 _ _ _ _ _
      | exact loser_Merge.mono _ _
      | exact manteletlaw11_few.mono _ _
      | exact manteletlaw11_shown.mono _
      | exact manteletref08_Same.mono _ _ _
      | exact run_May.mono _ _
      | exact LeO.none _
      | refine LeO.ite ?_ ?_
      | refine LeO.bind ?_ (fun _ => ?_)
    · intro y0 y1 y2 y3
      unfold manteletlaw11_LoserOrder.l0
      repeat' first
      | (with_reducible exact ih0 _ _ _ _)
      | (with_reducible exact ih1 _ _ _ _)
      | (with_reducible exact ih2 _ _ _ _ _)
      | (with_reducible exact loser_Merge.mono _ _)
      | (with_reducible exact manteletlaw11_few.mono _ _)
      | (with_reducible exact manteletlaw11_shown.mono _)
      | (with_reducible exact manteletref08_Same.mono _ _ _)
      | (with_reducible exact run_May.mono _ _)
      | (with_reducible exact LeO.refl _)
      | (with_reducible exact LeO.none _)
      | (with_reducible refine LeO.ite ?_ ?_)
      | (with_reducible refine LeO.bind ?_ (fun _ => ?_))
      | exact ih0 _ _ _ _
      | exact ih1 _ _ _ _
      | exact ih2 _ _ _ _ _
      | exact loser_Merge.mono _ _
      | exact manteletlaw11_few.mono _ _
      | exact manteletlaw11_shown.mono _
      | exact manteletref08_Same.mono _ _ _
      | exact run_May.mono _ _
      | exact LeO.none _
      | refine LeO.ite ?_ ?_
      | refine LeO.bind ?_ (fun _ => ?_)
    · intro y0 y1 y2 y3 y4
      unfold manteletlaw11_LoserOrder.l1
      repeat' first
      | (with_reducible exact ih0 _ _ _ _)
      | (with_reducible exact ih1 _ _ _ _)
      | (with_reducible exact ih2 _ _ _ _ _)
      | (with_reducible exact loser_Merge.mono _ _)
      | (with_reducible exact manteletlaw11_few.mono _ _)
      | (with_reducible exact manteletlaw11_shown.mono _)
      | (with_reducible exact manteletref08_Same.mono _ _ _)
      | (with_reducible exact run_May.mono _ _)
      | (with_reducible exact LeO.refl _)
      | (with_reducible exact LeO.none _)
      | (with_reducible refine LeO.ite ?_ ?_)
      | (with_reducible refine LeO.bind ?_ (fun _ => ?_))
      | exact ih0 _ _ _ _
      | exact ih1 _ _ _ _
      | exact ih2 _ _ _ _ _
      | exact loser_Merge.mono _ _
      | exact manteletlaw11_few.mono _ _
      | exact manteletlaw11_shown.mono _
      | exact manteletref08_Same.mono _ _ _
      | exact run_May.mono _ _
      | exact LeO.none _
      | refine LeO.ite ?_ ?_
      | refine LeO.bind ?_ (fun _ => ?_)
theorem manteletlaw11_LoserOrder.mono : ∀ a0 a1 k, LeO (manteletlaw11_LoserOrder.f k a0 a1) (manteletlaw11_LoserOrder.f (k + 1) a0 a1) := by
  intro a0 a1 k
  obtain ⟨ih0, ih1, ih2⟩ := manteletlaw11_LoserOrder.mono_l k
  unfold manteletlaw11_LoserOrder.f
  repeat' first
      | (with_reducible exact ih0 _ _ _ _)
      | (with_reducible exact ih1 _ _ _ _)
      | (with_reducible exact ih2 _ _ _ _ _)
      | (with_reducible exact loser_Merge.mono _ _)
      | (with_reducible exact manteletlaw11_few.mono _ _)
      | (with_reducible exact manteletlaw11_shown.mono _)
      | (with_reducible exact manteletref08_Same.mono _ _ _)
      | (with_reducible exact run_May.mono _ _)
      | (with_reducible exact LeO.refl _)
      | (with_reducible exact LeO.none _)
      | (with_reducible refine LeO.ite ?_ ?_)
      | (with_reducible refine LeO.bind ?_ (fun _ => ?_))
      | exact ih0 _ _ _ _
      | exact ih1 _ _ _ _
      | exact ih2 _ _ _ _ _
      | exact loser_Merge.mono _ _
      | exact manteletlaw11_few.mono _ _
      | exact manteletlaw11_shown.mono _
      | exact manteletref08_Same.mono _ _ _
      | exact run_May.mono _ _
      | exact LeO.none _
      | refine LeO.ite ?_ ?_
      | refine LeO.bind ?_ (fun _ => ?_)
set_option maxHeartbeats 8000000 in
set_option maxRecDepth 100000 in
theorem manteletlaw11_LoserOrder.calls (k : Nat) (P0_ : Nat → Prop) (A0 : Option Addr) (c0 : Nat) (l0 : List (List (S37))) (a1 : Int) (r : Bool) (w : World) (hs0 : Kd.V (Kd.slice 37 k37) 25 w w.heap.size (fun k_ => P0_ k_) (.slice A0 l0.length c0) l0) (h : manteletlaw11_LoserOrder.f k l0 a1 = some r) :
    Calls Try.prog 4 #[.slice A0 l0.length c0, .int .u8 a1] w fun e w' => e = .returned (.bool r) ∧ Below w.heap.size w w' := by
  have HO0 := Aside0.mk (show Kd.V (Kd.slice 37 k37) 25 w w.heap.size (fun k_ => (P0_ k_ ∨ w.heap.size ≤ k_)) (.slice A0 l0.length c0) l0 from Kd.V_mono hs0 (fun k_ hk => .inl hk))
  have HB := Aside0.mk (Below.refl w.heap.size w)
  have H : ((manteletlaw11_shown.f k).bind fun t133 => ((manteletlaw11_few.f k l0).bind fun t134 => (if t134 = true then (manteletlaw11_LoserOrder.j0 k l0 a1 t133 ((l0.length : Int) == 0)) else (manteletlaw11_LoserOrder.j0 k l0 a1 t133 true)))) = some r := h
  clear h
  replace H := Option.bind_eq_some_iff.mp H
  obtain ⟨t133, A30, H⟩ := H
  replace H : ((manteletlaw11_few.f k l0).bind fun t134 => (if t134 = true then (manteletlaw11_LoserOrder.j0 k l0 a1 t133 ((l0.length : Int) == 0)) else (manteletlaw11_LoserOrder.j0 k l0 a1 t133 true))) = some r := H
  have A3 := Aside0.mk A30
  clear A30
  have HC4 := Aside0.mk H
  clear H
  go_enter Try.func4, Try.ntmps4
  go_upto_region 2 with (first | ((with_reducible refine gate_callee (f := 8) rfl ?_); refine goesL_ (some 16) rfl rfl Try.func8 (by kernel_rfl) rfl #[] rfl (by (try simp only [List.map_toArray, List.map_cons, List.map_nil]); first | done | rfl | (simp only [List.length_drop, List.length_take]; rfl)) ?_; (with_reducible refine (manteletlaw11_shown.calls k  t133 _ A3.out).mono ?_); rintro e w5 ⟨rfl, hb⟩; refine ⟨_, rfl, ?_⟩; have n0_ := Aside0.mk (Kd.V_below (by (with_reducible repeat (first | apply Kd.V_alloc | apply Kd.V_drewN | apply Kd.V_drew)); exact HO0.out) hb); have n1_ := Aside0.mk (below_step (by repeat (first | (with_reducible first | exact HB.out | apply below_alloc | apply pw_below_drewN | apply below_drew1) | exact HB.out)) hb); clear HO0; clear HB; have HO0 := n0_; have HB := n1_; clear n0_ n1_; (try clear hb); (try clear hb2); (try clear hk); (try clear hi)))
  (try simp only [Act.put, List.setIfInBounds_toArray, List.set_cons_zero, List.set_cons_succ])
  go_cut [24] (fun v24 wc => ∃ (kq : Nat) (x24_3 : Bool), v24 = .bool x24_3 ∧ Aside0 (manteletlaw11_LoserOrder.j0 kq l0 a1 t133 x24_3 = some r) ∧ Aside0 (kq ≤ k) ∧ Aside0 (Kd.V (Kd.slice 37 k37) 25 wc w.heap.size (fun k_ => (P0_ k_ ∨ w.heap.size ≤ k_)) (.slice A0 l0.length c0) l0) ∧ Aside0 (Below w.heap.size w wc))
  case first =>
    have H := HC4.out
    clear HC4
    replace H := Option.bind_eq_some_iff.mp H
    obtain ⟨t134, A60, H⟩ := H
    replace H : (if t134 = true then (manteletlaw11_LoserOrder.j0 k l0 a1 t133 ((l0.length : Int) == 0)) else (manteletlaw11_LoserOrder.j0 k l0 a1 t133 true)) = some r := H
    have A6 := Aside0.mk A60
    clear A60
    by_cases c7 : t134 = true
    · subst c7
      have H1 : (manteletlaw11_LoserOrder.j0 k l0 a1 t133 ((l0.length : Int) == 0)) = some r := by rw [if_pos rfl] at H; exact H
      clear H
      have H := H1
      clear H1
      have H' := Aside0.mk H
      clear H
      go_wp2_with (first | ((with_reducible refine gate_callee (f := 9) rfl ?_); refine goesL_ (some 18) rfl rfl Try.func9 (by kernel_rfl) rfl #[.slice A0 l0.length c0] rfl (by (try simp only [List.map_toArray, List.map_cons, List.map_nil]); first | done | rfl | (simp only [List.length_drop, List.length_take]; rfl)) ?_; (with_reducible refine (manteletlaw11_few.calls k _ _ l0 true _ ?side1 ?side2 A6.out).mono ?_); (case side1 => repeat (first | exact (Kd.V_reads' HO0.out).2.2 | (with_reducible refine Kd.C_alloc ?_ _) | (with_reducible refine Kd.C_drewN ?_ _) | (with_reducible refine Kd.C_drew ?_))); (case side2 => exact (Kd.V_reads' HO0.out).2.1); rintro e w' ⟨rfl, ⟨nd, rfl⟩⟩; refine ⟨_, rfl, ?_⟩))
      go_meet
      case rel => exact ⟨_, (((l0.length : Int) == 0)), (by first | rfl | (simp; done) | (simp [*]; done)), H', ⟨by first | omega | exact Nat.le_refl _⟩, ⟨by (with_reducible repeat (first | apply Kd.V_alloc | apply Kd.V_drewN | apply Kd.V_drew)); exact HO0.out⟩, ⟨by repeat (first | (with_reducible first | exact HB.out | apply below_alloc | apply pw_below_drewN | apply below_drew1) | exact HB.out)⟩⟩
    · replace c7 := Bool.eq_false_iff.mpr c7
      subst c7
      have H1 : (manteletlaw11_LoserOrder.j0 k l0 a1 t133 true) = some r := by rw [if_neg (show ¬ (false = true) by decide)] at H; exact H
      clear H
      have H := H1
      clear H1
      have H' := Aside0.mk H
      clear H
      go_wp2_with (first | ((with_reducible refine gate_callee (f := 9) rfl ?_); refine goesL_ (some 18) rfl rfl Try.func9 (by kernel_rfl) rfl #[.slice A0 l0.length c0] rfl (by (try simp only [List.map_toArray, List.map_cons, List.map_nil]); first | done | rfl | (simp only [List.length_drop, List.length_take]; rfl)) ?_; (with_reducible refine (manteletlaw11_few.calls k _ _ l0 false _ ?side1 ?side2 A6.out).mono ?_); (case side1 => repeat (first | exact (Kd.V_reads' HO0.out).2.2 | (with_reducible refine Kd.C_alloc ?_ _) | (with_reducible refine Kd.C_drewN ?_ _) | (with_reducible refine Kd.C_drew ?_))); (case side2 => exact (Kd.V_reads' HO0.out).2.1); rintro e w' ⟨rfl, ⟨nd, rfl⟩⟩; refine ⟨_, rfl, ?_⟩))
      go_meet
      case rel => exact ⟨_, (true), (by first | rfl | (simp; done) | (simp [*]; done)), H', ⟨by first | omega | exact Nat.le_refl _⟩, ⟨by (with_reducible repeat (first | apply Kd.V_alloc | apply Kd.V_drewN | apply Kd.V_drew)); exact HO0.out⟩, ⟨by repeat (first | (with_reducible first | exact HB.out | apply below_alloc | apply pw_below_drewN | apply below_drew1) | exact HB.out)⟩⟩
  case rest =>
    clear HC4
    try clear p2
    try clear c4
    try clear c7
    obtain ⟨kq, x24_3, rfl, HA, HJ3, HO_0, HB⟩ := hcut
    cases kq with
    | zero => exact absurd HA.out (by simp [manteletlaw11_LoserOrder.j0])
    | succ kj3 =>
      have H := HA.out
      clear HA
      simp only [manteletlaw11_LoserOrder.j0] at H
      by_cases c8 : x24_3 = true
      · subst c8
        have H1 : (some t133) = some r := by rw [if_pos rfl] at H; exact H
        clear H
        have H := H1
        clear H1
        obtain rfl := Option.some.inj H
        go_wp2
        go_ret
        exact ⟨by first | rfl | (simp [errW_none, errW_some] <;> rfl) | (have e_ := Option.some.inj (A3.out.symm.trans A6.out); subst e_; rfl) | (simp [*, errW_none, errW_some] <;> rfl), by repeat (first | (with_reducible first | exact HB.out | apply below_alloc | apply pw_below_drewN | apply below_drew1) | exact HB.out)⟩
      · replace c8 := Bool.eq_false_iff.mpr c8
        subst c8
        have H1 : (manteletlaw11_LoserOrder.l0 kj3 l0 a1 t133 0) = some r := by rw [if_neg (show ¬ (false = true) by decide)] at H; exact H
        clear H
        have H := H1
        clear H1
        have H' := Aside0.mk H
        clear H
        go_wp2
        go_loopg [6] kj3 (fun kq v6 w' => ∃ (x6_2 : Int), v6 = .int .i64 x6_2 ∧ Aside0 (manteletlaw11_LoserOrder.l0 kq l0 a1 t133 x6_2 = some r) ∧ Aside0 (kq ≤ kj3) ∧ Aside0 (Kd.V (Kd.slice 37 k37) 25 w' w.heap.size (fun k_ => (P0_ k_ ∨ w.heap.size ≤ k_)) (.slice A0 l0.length c0) l0) ∧ Aside0 (Below w.heap.size w w'))
        case atStart => exact ⟨(0), (by first | rfl | (simp; done) | (simp [*]; done)), H', ⟨Nat.le_refl _⟩, ⟨by (with_reducible repeat (first | apply Kd.V_alloc | apply Kd.V_drewN | apply Kd.V_drew)); exact HO_0.out⟩, ⟨by repeat (first | (with_reducible first | exact HB.out | apply below_alloc | apply pw_below_drewN | apply below_drew1) | exact HB.out)⟩⟩
        case round =>
          clear H'
          try clear p2
          try clear c4
          try clear c7
          try clear c8
          try clear p2
          obtain ⟨x6_2, rfl, HA, HK2, HO_0, HB⟩ := hrel
          cases gk with
          | zero => exact absurd HA.out (by simp [manteletlaw11_LoserOrder.l0])
          | succ k2 =>
            have H := HA.out
            clear HA
            simp only [manteletlaw11_LoserOrder.l0] at H
            by_cases c9 : x6_2 < (l0.length : Int)
            · rw [if_pos c9] at H
              have c9b0 : decide (x6_2 < (l0.length : Int)) = true := decide_eq_true c9
              clear c9
              by_cases c10 : 0 ≤ x6_2
              · rw [if_pos c10] at H
                have c10b0 : decide (0 ≤ x6_2) = true := decide_eq_true c10
                clear c10
                replace H := Option.bind_eq_some_iff.mp H
                obtain ⟨t136, A110, H⟩ := H
                replace H : (if t136 = 0 then (manteletlaw11_LoserOrder.l0 k2 l0 a1 t133 (wrap64 (x6_2 + 1))) else ((loser_Merge.f k2 l0).bind fun bt137 => (if t133 = true then ((run_May.f k2 (rd_L3 l0 x6_2)).bind fun t142 => (some (bt137.2 == t142))) else (none)))) = some r := H
                have A11 := Aside0.mk A110
                clear A110
                by_cases c12 : t136 = 0
                · rw [if_pos c12] at H
                  have c12b0 : (t136 == 0) = true := beq_iff_eq.mpr c12
                  have c12b1 : (t136 != 0) = false := bne_eq_false_iff_eq.mpr c12
                  clear c12
                  have H' := Aside0.mk H
                  clear H
                  have p135 : 0 ≤ (x6_2 : Int) := of_decide_eq_true (by first | (with_reducible assumption) | assumption)
                  have q135 : x6_2 < (l0.length : Int) := of_decide_eq_true (by first | (with_reducible assumption) | assumption)
                  obtain ⟨ad135, A135_0, c135_0, e135, hx135_0, hl135_0, hi135_0⟩ := at_L3 (Kd.V_reads' HO_0.out).2.2 x6_2 p135 q135
                  cases e135
                  obtain ⟨ce135, hce135, hMe135, hcc135⟩ := Kd.V_get HO_0.out [] x6_2 p135 (by first | exact q135 | exact of_decide_eq_true (by first | (with_reducible assumption) | assumption) | (have e_ := (Kd.V_reads' HO_0.out).1; omega))
                  obtain ⟨ua135_0, uc135_0, rfl, ul135_0, ge135_0⟩ := Kd.FK_slice_open hMe135
                  have hv135_0 := hcc135 0 _ rfl
                  rw [Nat.add_zero, show ((Kd.slice 37 k37)).sz = 1 from rfl, Nat.mul_one] at hv135_0
                  replace hv135_0 := Option.some.inj (hv135_0.symm.trans hx135_0)
                  injection hv135_0 with hva_ hvn_ hvc_
                  rw [hva_] at ge135_0
                  rw [hvc_] at ul135_0
                  have HL135_0 := Aside0.mk (show Kd.V k37 37 _ w.heap.size _ _ (rd_L3 l0 x6_2) from Kd.V_mk ul135_0 ge135_0)
                  clear hva_ hvn_ hvc_ ge135_0 ul135_0
                  clear hcc135 hce135
                  have HR135_0 := Aside0.mk hi135_0
                  have HC135_0 := Aside0.mk hl135_0
                  clear hi135_0 hl135_0
                  replace p135 := eq_true p135
                  replace q135 := eq_true q135
                  go_wp2_with (first | ((with_reducible refine gate_callee (f := 13) rfl ?_); refine goesL_ (some 36) rfl rfl Try.func13 (by kernel_rfl) rfl #[.slice A135_0 (rd_L3 l0 x6_2).length c135_0] rfl (by (try simp only [List.map_toArray, List.map_cons, List.map_nil]); first | done | rfl | (simp only [List.length_drop, List.length_take]; rfl)) ?_; (with_reducible refine (run_May.calls k2 _ _ (rd_L3 l0 x6_2) t136 _ ?side1 ?side2 A11.out).mono ?_); (case side1 => repeat (first | exact (by repeat (first | (with_reducible exact HR135_0.out) | (with_reducible refine Kd.C_alloc ?_ _) | (with_reducible refine Kd.C_drewN ?_ _) | (with_reducible refine Kd.C_drew ?_) | exact HR135_0.out)) | (with_reducible refine Kd.C_alloc ?_ _) | (with_reducible refine Kd.C_drewN ?_ _) | (with_reducible refine Kd.C_drew ?_))); (case side2 => exact HC135_0.out); rintro e w13 ⟨rfl, hb⟩; refine ⟨_, rfl, ?_⟩; have n0_ := Aside0.mk (Kd.V_below (by (with_reducible repeat (first | apply Kd.V_alloc | apply Kd.V_drewN | apply Kd.V_drew)); exact HO_0.out) hb); have n1_ := Aside0.mk (Kd.V_below (by (with_reducible repeat (first | apply Kd.V_alloc | apply Kd.V_drewN | apply Kd.V_drew)); exact HL135_0.out) hb); have n2_ := Aside0.mk (Kd.C_below (by repeat (first | (with_reducible exact HR135_0.out) | (with_reducible refine Kd.C_alloc ?_ _) | (with_reducible refine Kd.C_drewN ?_ _) | (with_reducible refine Kd.C_drew ?_) | exact HR135_0.out)) hb); have n3_ := Aside0.mk (below_step (by repeat (first | (with_reducible first | exact HB.out | apply below_alloc | apply pw_below_drewN | apply below_drew1) | exact HB.out)) hb); clear HO_0; clear HL135_0; clear HR135_0; clear HB; have HO_0 := n0_; have HL135_0 := n1_; have HR135_0 := n2_; have HB := n3_; clear n0_ n1_ n2_ n3_; (try clear hb); (try clear hb2); (try clear hk); (try clear hi)))
                  go_roundg k2
                  case measure => have := HJ3.out; have := HK2.out; omega
                  case rel => exact ⟨(wrap64 (x6_2 + 1)), (by first | rfl | (simp; done) | (simp [*]; done)), H', ⟨by have := HJ3.out; have := HK2.out; omega⟩, ⟨by (with_reducible repeat (first | apply Kd.V_alloc | apply Kd.V_drewN | apply Kd.V_drew)); exact HO_0.out⟩, ⟨by repeat (first | (with_reducible first | exact HB.out | apply below_alloc | apply pw_below_drewN | apply below_drew1) | exact HB.out)⟩⟩
                · rw [if_neg c12] at H
                  have c12b0 : (t136 == 0) = false := beq_eq_false_iff_ne.mpr c12
                  have c12b1 : (t136 != 0) = true := bne_iff_ne.mpr c12
                  replace H := Option.bind_eq_some_iff.mp H
                  obtain ⟨⟨t137, t138⟩, A140, H⟩ := H
                  replace H : (if t133 = true then ((run_May.f k2 (rd_L3 l0 x6_2)).bind fun t142 => (some (t138 == t142))) else (none)) = some r := H
                  have A14 := Aside0.mk A140
                  clear A140
                  by_cases c15 : t133 = true
                  · subst c15
                    have H1 : ((run_May.f k2 (rd_L3 l0 x6_2)).bind fun t142 => (some (t138 == t142))) = some r := by rw [if_pos rfl] at H; exact H
                    clear H
                    have H := H1
                    clear H1
                    replace H := Option.bind_eq_some_iff.mp H
                    obtain ⟨t142, A160, H⟩ := H
                    replace H : (some (t138 == t142)) = some r := H
                    have A16 := Aside0.mk A160
                    clear A160
                    obtain rfl := Option.some.inj H
                    have p135 : 0 ≤ (x6_2 : Int) := of_decide_eq_true (by first | (with_reducible assumption) | assumption)
                    have q135 : x6_2 < (l0.length : Int) := of_decide_eq_true (by first | (with_reducible assumption) | assumption)
                    obtain ⟨ad135, A135_0, c135_0, e135, hx135_0, hl135_0, hi135_0⟩ := at_L3 (Kd.V_reads' HO_0.out).2.2 x6_2 p135 q135
                    cases e135
                    obtain ⟨ce135, hce135, hMe135, hcc135⟩ := Kd.V_get HO_0.out [] x6_2 p135 (by first | exact q135 | exact of_decide_eq_true (by first | (with_reducible assumption) | assumption) | (have e_ := (Kd.V_reads' HO_0.out).1; omega))
                    obtain ⟨ua135_0, uc135_0, rfl, ul135_0, ge135_0⟩ := Kd.FK_slice_open hMe135
                    have hv135_0 := hcc135 0 _ rfl
                    rw [Nat.add_zero, show ((Kd.slice 37 k37)).sz = 1 from rfl, Nat.mul_one] at hv135_0
                    replace hv135_0 := Option.some.inj (hv135_0.symm.trans hx135_0)
                    injection hv135_0 with hva_ hvn_ hvc_
                    rw [hva_] at ge135_0
                    rw [hvc_] at ul135_0
                    have HL135_0 := Aside0.mk (show Kd.V k37 37 _ w.heap.size _ _ (rd_L3 l0 x6_2) from Kd.V_mk ul135_0 ge135_0)
                    clear hva_ hvn_ hvc_ ge135_0 ul135_0
                    clear hcc135 hce135
                    have HR135_0 := Aside0.mk hi135_0
                    have HC135_0 := Aside0.mk hl135_0
                    clear hi135_0 hl135_0
                    replace p135 := eq_true p135
                    replace q135 := eq_true q135
                    go_wp2_with (first | ((with_reducible refine gate_callee (f := 13) rfl ?_); refine goesL_ (some 36) rfl rfl Try.func13 (by kernel_rfl) rfl #[.slice A135_0 (rd_L3 l0 x6_2).length c135_0] rfl (by (try simp only [List.map_toArray, List.map_cons, List.map_nil]); first | done | rfl | (simp only [List.length_drop, List.length_take]; rfl)) ?_; (with_reducible refine (run_May.calls k2 _ _ (rd_L3 l0 x6_2) t136 _ ?side1 ?side2 A11.out).mono ?_); (case side1 => repeat (first | exact (by repeat (first | (with_reducible exact HR135_0.out) | (with_reducible refine Kd.C_alloc ?_ _) | (with_reducible refine Kd.C_drewN ?_ _) | (with_reducible refine Kd.C_drew ?_) | exact HR135_0.out)) | (with_reducible refine Kd.C_alloc ?_ _) | (with_reducible refine Kd.C_drewN ?_ _) | (with_reducible refine Kd.C_drew ?_))); (case side2 => exact HC135_0.out); rintro e w17 ⟨rfl, hb⟩; refine ⟨_, rfl, ?_⟩; have n0_ := Aside0.mk (Kd.V_below (by (with_reducible repeat (first | apply Kd.V_alloc | apply Kd.V_drewN | apply Kd.V_drew)); exact HO_0.out) hb); have n1_ := Aside0.mk (Kd.V_below (by (with_reducible repeat (first | apply Kd.V_alloc | apply Kd.V_drewN | apply Kd.V_drew)); exact HL135_0.out) hb); have n2_ := Aside0.mk (Kd.C_below (by repeat (first | (with_reducible exact HR135_0.out) | (with_reducible refine Kd.C_alloc ?_ _) | (with_reducible refine Kd.C_drewN ?_ _) | (with_reducible refine Kd.C_drew ?_) | exact HR135_0.out)) hb); have n3_ := Aside0.mk (below_step (by repeat (first | (with_reducible first | exact HB.out | apply below_alloc | apply pw_below_drewN | apply below_drew1) | exact HB.out)) hb); clear HO_0; clear HL135_0; clear HR135_0; clear HB; have HO_0 := n0_; have HL135_0 := n1_; have HR135_0 := n2_; have HB := n3_; clear n0_ n1_ n2_ n3_; (try clear hb); (try clear hb2); (try clear hk); (try clear hi)) | ((with_reducible refine gate_callee (f := 10) rfl ?_); refine goesL_ (some 40) rfl rfl Try.func10 (by kernel_rfl) rfl #[.slice (some ad135) l0.length c0] rfl (by (try simp only [List.map_toArray, List.map_cons, List.map_nil]); first | done | rfl | (simp only [List.length_drop, List.length_take]; rfl)) ?_; (with_reducible refine (loser_Merge.calls k2 _ _ l0 t137 t138 _ ?side1 ?side2 A14.out).mono ?_); (case side1 => repeat (first | exact (Kd.V_reads' HO_0.out).2.2 | (with_reducible refine Kd.C_alloc ?_ _) | (with_reducible refine Kd.C_drewN ?_ _) | (with_reducible refine Kd.C_drew ?_))); (case side2 => exact (Kd.V_reads' HO_0.out).2.1); rintro e w18 ⟨v139, rfl, ho0, hb⟩; refine ⟨_, rfl, ?_⟩; have n0_ := Aside0.mk (Kd.V_elder' (by (with_reducible repeat (first | apply Kd.V_alloc | apply Kd.V_drewN | apply Kd.V_drew)); exact HO_0.out) (Kd.R_base ho0) hb); have n1_ := Aside0.mk (Kd.V_elder' (by (with_reducible repeat (first | apply Kd.V_alloc | apply Kd.V_drewN | apply Kd.V_drew)); exact HL135_0.out) (Kd.R_base ho0) hb); have n2_ := Aside0.mk (Kd.R_lower (Kd.R_newM (M := fun k_ => (w.heap.size ≤ k_)) ho0 (below_size (by repeat (first | (with_reducible first | exact HB.out | apply below_alloc | apply pw_below_drewN | apply below_drew1) | exact HB.out))) (fun k_ h_ => h_)) (below_size (by repeat (first | (with_reducible first | exact HB.out | apply below_alloc | apply pw_below_drewN | apply below_drew1) | exact HB.out)))); have n3_ := Aside0.mk (Kd.C_below (by repeat (first | (with_reducible exact HR135_0.out) | (with_reducible refine Kd.C_alloc ?_ _) | (with_reducible refine Kd.C_drewN ?_ _) | (with_reducible refine Kd.C_drew ?_) | exact HR135_0.out)) hb); have n4_ := Aside0.mk (below_step (by repeat (first | (with_reducible first | exact HB.out | apply below_alloc | apply pw_below_drewN | apply below_drew1) | exact HB.out)) hb); clear HO_0; clear HL135_0; clear HR135_0; clear HB; have HO_0 := n0_; have HL135_0 := n1_; have HO140 := n2_; have HR135_0 := n3_; have HB := n4_; clear n0_ n1_ n2_ n3_ n4_; (try clear hb); (try clear hb2); (try clear hk); (try clear hi); (try clear ho0); have p141 : 0 ≤ (x6_2 : Int) := of_decide_eq_true (by first | (with_reducible assumption) | assumption); have q141 : x6_2 < (l0.length : Int) := of_decide_eq_true (by first | (with_reducible assumption) | assumption); obtain ⟨ad141, A141_0, c141_0, e141, hx141_0, hl141_0, hi141_0⟩ := at_L3 (Kd.V_reads' HO_0.out).2.2 x6_2 p141 q141; obtain rfl : ad135 = ad141 := (by injection e141); obtain ⟨ce141, hce141, hMe141, hcc141⟩ := Kd.V_get HO_0.out [] x6_2 p141 (by first | exact q141 | exact of_decide_eq_true (by first | (with_reducible assumption) | assumption) | (have e_ := (Kd.V_reads' HO_0.out).1; omega)); obtain ⟨ua141_0, uc141_0, rfl, ul141_0, ge141_0⟩ := Kd.FK_slice_open hMe141; have hv141_0 := hcc141 0 _ rfl; rw [Nat.add_zero, show ((Kd.slice 37 k37)).sz = 1 from rfl, Nat.mul_one] at hv141_0; replace hv141_0 := Option.some.inj (hv141_0.symm.trans hx141_0); injection hv141_0 with hva_ hvn_ hvc_; rw [hva_] at ge141_0; rw [hvc_] at ul141_0; have HL141_0 := Aside0.mk (show Kd.V k37 37 _ w.heap.size _ _ (rd_L3 l0 x6_2) from Kd.V_mk ul141_0 ge141_0); clear hva_ hvn_ hvc_ ge141_0 ul141_0; clear hcc141 hce141; have HR141_0 := Aside0.mk hi141_0; have HC141_0 := Aside0.mk hl141_0; clear hi141_0 hl141_0; replace p141 := eq_true p141; replace q141 := eq_true q141) | (go_at_call 13; (with_reducible refine (run_May.calls k2 _ _ (rd_L3 l0 x6_2) t142 _ ?side1 ?side2 A16.out).mono ?_); (case side1 => repeat (first | exact (by repeat (first | (with_reducible exact HR141_0.out) | (with_reducible refine Kd.C_alloc ?_ _) | (with_reducible refine Kd.C_drewN ?_ _) | (with_reducible refine Kd.C_drew ?_) | exact HR141_0.out)) | (with_reducible refine Kd.C_alloc ?_ _) | (with_reducible refine Kd.C_drewN ?_ _) | (with_reducible refine Kd.C_drew ?_))); (case side2 => exact HC141_0.out); rintro e w19 ⟨rfl, hb⟩; have n0_ := Aside0.mk (Kd.V_below (by (with_reducible repeat (first | apply Kd.V_alloc | apply Kd.V_drewN | apply Kd.V_drew)); exact HO_0.out) hb); have n1_ := Aside0.mk (Kd.V_below (by (with_reducible repeat (first | apply Kd.V_alloc | apply Kd.V_drewN | apply Kd.V_drew)); exact HL135_0.out) hb); have n2_ := Aside0.mk (Kd.R_below (by (with_reducible repeat (first | apply Kd.R_alloc | apply Kd.R_drewN | apply Kd.R_drew)); exact HO140.out) hb); have n3_ := Aside0.mk (Kd.V_below (by (with_reducible repeat (first | apply Kd.V_alloc | apply Kd.V_drewN | apply Kd.V_drew)); exact HL141_0.out) hb); have n4_ := Aside0.mk (Kd.C_below (by repeat (first | (with_reducible exact HR135_0.out) | (with_reducible refine Kd.C_alloc ?_ _) | (with_reducible refine Kd.C_drewN ?_ _) | (with_reducible refine Kd.C_drew ?_) | exact HR135_0.out)) hb); have n5_ := Aside0.mk (Kd.C_below (by repeat (first | (with_reducible exact HR141_0.out) | (with_reducible refine Kd.C_alloc ?_ _) | (with_reducible refine Kd.C_drewN ?_ _) | (with_reducible refine Kd.C_drew ?_) | exact HR141_0.out)) hb); have n6_ := Aside0.mk (below_step (by repeat (first | (with_reducible first | exact HB.out | apply below_alloc | apply pw_below_drewN | apply below_drew1) | exact HB.out)) hb); clear HO_0; clear HL135_0; clear HO140; clear HL141_0; clear HR135_0; clear HR141_0; clear HB; have HO_0 := n0_; have HL135_0 := n1_; have HO140 := n2_; have HL141_0 := n3_; have HR135_0 := n4_; have HR141_0 := n5_; have HB := n6_; clear n0_ n1_ n2_ n3_ n4_ n5_ n6_; (try clear hb); (try clear hb2); (try clear hk); (try clear hi)))
                    go_ret
                    exact ⟨by first | rfl | (simp [errW_none, errW_some] <;> rfl) | (have e_ := Option.some.inj (A3.out.symm.trans A6.out); subst e_; rfl) | (have e_ := Option.some.inj (A3.out.symm.trans A11.out); subst e_; rfl) | (have e_ := Option.some.inj (A6.out.symm.trans A11.out); subst e_; rfl) | (have e_ := Option.some.inj (A3.out.symm.trans A14.out); subst e_; rfl) | (have e_ := Option.some.inj (A6.out.symm.trans A14.out); subst e_; rfl) | (have e_ := Option.some.inj (A11.out.symm.trans A14.out); subst e_; rfl) | (have e_ := Option.some.inj (A3.out.symm.trans A16.out); subst e_; rfl) | (have e_ := Option.some.inj (A6.out.symm.trans A16.out); subst e_; rfl) | (have e_ := Option.some.inj (A11.out.symm.trans A16.out); subst e_; rfl) | (have e_ := Option.some.inj (A14.out.symm.trans A16.out); subst e_; rfl) | (simp [*, errW_none, errW_some] <;> rfl), by repeat (first | (with_reducible first | exact HB.out | apply below_alloc | apply pw_below_drewN | apply below_drew1) | exact HB.out)⟩
                  · replace c15 := Bool.eq_false_iff.mpr c15
                    subst c15
                    have H1 : (none) = some r := by rw [if_neg (show ¬ (false = true) by decide)] at H; exact H
                    clear H
                    have H := H1
                    clear H1
                    exact absurd H (by simp)
              · rw [if_neg c10] at H
                exact absurd H (by simp)
            · rw [if_neg c9] at H
              have c9b0 : decide (x6_2 < (l0.length : Int)) = false := decide_eq_false c9
              clear c9
              by_cases c20 : (l0.length : Int) = 0
              · rw [if_pos c20] at H
                exact absurd H (by simp)
              · rw [if_neg c20] at H
                have c20b0 : ((l0.length : Int) == 0) = false := beq_eq_false_iff_ne.mpr c20
                have c20b1 : ((l0.length : Int) != 0) = true := bne_iff_ne.mpr c20
                have c20b2 : ¬ (l0 = []) := fun h_ => c20 (by rw [h_]; rfl)
                have H' := Aside0.mk H
                clear H
                go_wp2
                go_loopg [10, 11] k2 (fun kq v10 v11 w' => ∃ (x10_3 : List (List (S37))) (x11_3 : Int), v11 = .int .i64 x11_3 ∧ Aside0 (manteletlaw11_LoserOrder.l1 kq l0 t133 (Int.tmod (wrap64 (a1)) (l0.length : Int)) x10_3 x11_3 = some r) ∧ Aside0 (kq ≤ k2) ∧ Aside0 (Kd.V (Kd.slice 37 k37) 25 w' w.heap.size (fun k_ => (P0_ k_ ∨ w.heap.size ≤ k_) ∧ some k_ ≠ (v10 : Value).ownBlock) (.slice A0 l0.length c0) l0) ∧ Aside0 (Kd.N (Kd.slice 37 k37) 25 w' w.heap.size (fun k_ => (P0_ k_ ∨ w.heap.size ≤ k_)) v10 x10_3) ∧ Aside0 (Below w.heap.size w w'))
                case atStart => exact ⟨(([] : List (List (S37)))), (wrap64 ((l0.length : Int) - 1)), (by first | rfl | (simp; done) | (simp [*]; done)), H', ⟨Nat.le_refl _⟩, ⟨by (with_reducible repeat (first | apply Kd.V_alloc | apply Kd.V_drewN | apply Kd.V_drew)); exact Kd.V_mono HO_0.out (fun _ hk => ⟨hk, (by simp [Value.ownBlock])⟩)⟩, ⟨by first | exact Kd.S_nil _ _ _ _ _ | exact Kd.N_nil _ _ _ _ _ | exact Kd.V_nil _ _ _ _ _ | exact Kd.Q_nil _ _ _ _ _ | exact Kd.R_nil _ _ _ _ _⟩, ⟨by repeat (first | (with_reducible first | exact HB.out | apply below_alloc | apply pw_below_drewN | apply below_drew1) | exact HB.out)⟩⟩
                case round =>
                  clear H'
                  try clear c1
                  try clear p1
                  try clear q1
                  try clear hx1
                  try clear c2
                  try clear p2
                  try clear c4
                  try clear p6
                  try clear c7
                  try clear c8
                  try clear c9
                  try clear c9b0
                  try clear c10
                  try clear c10b0
                  try clear c12
                  try clear c12b0
                  try clear c12b1
                  try clear c13
                  try clear p13
                  try clear q13
                  try clear hx13
                  try clear c14
                  try clear p14
                  try clear q14
                  try clear hx14
                  try clear c15
                  try clear c20
                  try clear c20b0
                  try clear c20b1
                  try clear c20b2
                  try clear hx135_0
                  try clear hx141_0
                  try clear p135
                  try clear p141
                  try clear p2
                  try clear q135
                  try clear q141
                  obtain ⟨x10_3, x11_3, rfl, HA, HK3, HO_0, HO_10, HB⟩ := hrel
                  cases gk with
                  | zero => exact absurd HA.out (by simp [manteletlaw11_LoserOrder.l1])
                  | succ k3 =>
                    have H := HA.out
                    clear HA
                    simp only [manteletlaw11_LoserOrder.l1] at H
                    by_cases c21 : x11_3 ≥ 0
                    · rw [if_pos c21] at H
                      have c21b0 : decide (0 ≤ x11_3) = true := decide_eq_true c21
                      clear c21
                      by_cases c22 : (l0.length : Int) = 0
                      · rw [if_pos c22] at H
                        exact absurd H (by simp)
                      · rw [if_neg c22] at H
                        have c22b0 : ((l0.length : Int) == 0) = false := beq_eq_false_iff_ne.mpr c22
                        have c22b1 : ((l0.length : Int) != 0) = true := bne_iff_ne.mpr c22
                        have c22b2 : ¬ (l0 = []) := fun h_ => c22 (by rw [h_]; rfl)
                        obtain ⟨ji23, hji23⟩ : ∃ j_ : Int, (Int.tmod (wrap64 (x11_3 + (Int.tmod (wrap64 (a1)) (l0.length : Int)))) (l0.length : Int)) = j_ := ⟨_, rfl⟩
                        replace H : (if 0 ≤ (ji23) then (if (ji23) < (l0.length : Int) then (if x10_3.length < 5864062014805 then (manteletlaw11_LoserOrder.l1 k3 l0 t133 (Int.tmod (wrap64 (a1)) (l0.length : Int)) (x10_3 ++ [rd_L3 l0 (ji23)]) (wrap64 (x11_3 - 1))) else (none)) else (none)) else (none)) = some r := by first | (rw [hji23] at H; exact H) | (simp only [hji23] at H ⊢; exact H)
                        by_cases c24 : 0 ≤ (ji23)
                        · rw [if_pos c24] at H
                          have c24b0 : decide (0 ≤ (ji23)) = true := decide_eq_true c24
                          clear c24
                          by_cases c25 : (ji23) < (l0.length : Int)
                          · rw [if_pos c25] at H
                            have c25b0 : decide ((ji23) < (l0.length : Int)) = true := decide_eq_true c25
                            clear c25
                            by_cases c26 : x10_3.length < 5864062014805
                            · rw [if_pos c26] at H
                              have LMc26 := Aside0.mk c26
                              clear c26
                              obtain ⟨y144, hy144⟩ : ∃ y_ : List (List (S37)), y_ = (x10_3 ++ [rd_L3 l0 (ji23)]) := ⟨_, rfl⟩
                              replace H : (manteletlaw11_LoserOrder.l1 k3 l0 t133 (Int.tmod (wrap64 (a1)) (l0.length : Int)) y144 (wrap64 (x11_3 - 1))) = some r := by first | (rw [hy144]; with_reducible exact H) | (have H2_ := (Option.bind_some _ _).symm.trans H; rw [hy144]; with_reducible exact H2_) | (have H2_ := (Option.bind_some _ _).symm.trans H; with_reducible exact H2_) | with_reducible exact H | (rw [hy144]; exact H) | exact H
                              have Ny144 := Aside0.mk hy144
                              clear hy144
                              have H' := Aside0.mk H
                              clear H
                              have p143 : 0 ≤ ((ji23) : Int) := of_decide_eq_true (by first | (with_reducible assumption) | assumption)
                              have q143 : (ji23) < (l0.length : Int) := of_decide_eq_true (by first | (with_reducible assumption) | assumption)
                              obtain ⟨ad143, A143_0, c143_0, e143, hx143_0, hl143_0, hi143_0⟩ := at_L3 (Kd.V_reads' HO_0.out).2.2 (ji23) p143 q143
                              cases e143
                              obtain ⟨ce143, hce143, hMe143, hcc143⟩ := Kd.V_get HO_0.out [] (ji23) p143 (by first | exact q143 | exact of_decide_eq_true (by first | (with_reducible assumption) | assumption) | (have e_ := (Kd.V_reads' HO_0.out).1; omega))
                              obtain ⟨ua143_0, uc143_0, rfl, ul143_0, ge143_0⟩ := Kd.FK_slice_open hMe143
                              have hv143_0 := hcc143 0 _ rfl
                              rw [Nat.add_zero, show ((Kd.slice 37 k37)).sz = 1 from rfl, Nat.mul_one] at hv143_0
                              replace hv143_0 := Option.some.inj (hv143_0.symm.trans hx143_0)
                              injection hv143_0 with hva_ hvn_ hvc_
                              rw [hva_] at ge143_0
                              rw [hvc_] at ul143_0
                              have HL143_0 := Aside0.mk (show Kd.V k37 37 _ w.heap.size _ _ (rd_L3 l0 (ji23)) from Kd.V_mk ul143_0 ge143_0)
                              clear hva_ hvn_ hvc_ ge143_0 ul143_0
                              clear hcc143 hce143
                              have HR143_0 := Aside0.mk hi143_0
                              have HC143_0 := Aside0.mk hl143_0
                              clear hi143_0 hl143_0
                              replace p143 := eq_true p143
                              replace q143 := eq_true q143
                              go_wp2_with (first | ((with_reducible refine gate_builtin (b := .append) (xs := #[.tmp 65, .tmp 75]) rfl ?_); (try (refine gate_guard (by rfl) ?_; dsimp only)); at_builtin; refine Kd.N_append (Kd.slice 37 k37) (w0 := w) w.heap.size rfl (.tmp 65) (.tmp 75) 22 25 (.slice none 0 0) 24 rfl Try.underlying22 info25 rfl (by decide) (by omega) u10 x10_3 (rd_L3 l0 (ji23)) [.slice A143_0 (rd_L3 l0 (ji23)).length c143_0] (fun k_ => (P0_ k_ ∨ w.heap.size ≤ k_)) (fun k_ => ((fun k_ => (P0_ k_ ∨ w.heap.size ≤ k_))) k_ ∧ some k_ ≠ (u10 : Value).ownBlock) rfl rfl ?aP (fun _ hk => hk) ?aF ?aO ?aB ?aS ?aL ?_; (case aP => exact (Kd.FK_slice_mk (Kd.V_reads' (Kd.V_mono (ok' := (fun k_ => ((fun k_ => (P0_ k_ ∨ w.heap.size ≤ k_))) k_ ∧ some k_ ≠ (u10 : Value).ownBlock)) (HL143_0.out) (fun k_ hk => ⟨hk.1, hk.2⟩))).2.1 (Kd.V_F (Kd.V_mono (ok' := (fun k_ => ((fun k_ => (P0_ k_ ∨ w.heap.size ≤ k_))) k_ ∧ some k_ ≠ (u10 : Value).ownBlock)) (HL143_0.out) (fun k_ hk => ⟨hk.1, hk.2⟩))))); (case aB => exact (by repeat (first | (with_reducible first | exact HB.out | apply below_alloc | apply pw_below_drewN | apply below_drew1) | exact HB.out))); (case aF => exact (fun k_ hk => (.inr (Nat.le_trans (below_size (by repeat (first | (with_reducible first | exact HB.out | apply below_alloc | apply pw_below_drewN | apply below_drew1) | exact HB.out))) hk)))); (case aO => exact (by (with_reducible repeat (first | apply Kd.N_alloc | apply Kd.N_drewN | apply Kd.N_drew)); exact HO_10.out)); (case aS => exact (below_size (by repeat (first | (with_reducible first | exact HB.out | apply below_alloc | apply pw_below_drewN | apply below_drew1) | exact HB.out)))); (case aL => have := LMc26.out; omega); intro v145 w27 ho hb hg hat; rw [← Ny144.out] at ho; have n0_ := Aside0.mk (Kd.V_afterv (ok := (fun k_ => (P0_ k_ ∨ w.heap.size ≤ k_))) (by (with_reducible repeat (first | apply Kd.V_alloc | apply Kd.V_drewN | apply Kd.V_drew)); exact HO_0.out) hg hat); have n1_ := Aside0.mk (Kd.V_afterv (ok := (fun k_ => (P0_ k_ ∨ w.heap.size ≤ k_))) (by (with_reducible repeat (first | apply Kd.V_alloc | apply Kd.V_drewN | apply Kd.V_drew)); exact HL143_0.out) hg hat); have n2_ := Aside0.mk (hb); have n3_ := Aside0.mk (ho); clear HO_0; clear HL143_0; clear HB; clear HO_10; have HO_0 := n0_; have HL143_0 := n1_; have HB := n2_; have HO146 := n3_; clear n0_ n1_ n2_ n3_; clear ho hb hg hat))
                              go_roundg k3
                              case measure => have := HJ3.out; have := HK2.out; have := HK3.out; omega
                              case rel => exact ⟨(y144), (wrap64 (x11_3 - 1)), (by first | rfl | (simp; done) | (simp [*]; done)), H', ⟨by have := HJ3.out; have := HK2.out; have := HK3.out; omega⟩, ⟨by (with_reducible repeat (first | apply Kd.V_alloc | apply Kd.V_drewN | apply Kd.V_drew)); exact HO_0.out⟩, ⟨by (with_reducible repeat (first | apply Kd.N_alloc | apply Kd.N_drewN | apply Kd.N_drew)); exact HO146.out⟩, ⟨by repeat (first | (with_reducible first | exact HB.out | apply below_alloc | apply pw_below_drewN | apply below_drew1) | exact HB.out)⟩⟩
                            · rw [if_neg c26] at H
                              exact absurd H (by simp)
                          · rw [if_neg c25] at H
                            exact absurd H (by simp)
                        · rw [if_neg c24] at H
                          exact absurd H (by simp)
                    · rw [if_neg c21] at H
                      have c21b0 : decide (0 ≤ x11_3) = false := decide_eq_false c21
                      clear c21
                      replace H := Option.bind_eq_some_iff.mp H
                      obtain ⟨⟨t147, t148⟩, A280, H⟩ := H
                      replace H : ((loser_Merge.f k3 x10_3).bind fun bt151 => (if t133 = true then ((manteletref08_Same.f k3 t147 bt151.1).bind fun t155 => (if t155 = true then (some (t148 == bt151.2)) else (none))) else (none))) = some r := H
                      have A28 := Aside0.mk A280
                      clear A280
                      replace H := Option.bind_eq_some_iff.mp H
                      obtain ⟨⟨t151, t152⟩, A290, H⟩ := H
                      replace H : (if t133 = true then ((manteletref08_Same.f k3 t147 t151).bind fun t155 => (if t155 = true then (some (t148 == t152)) else (none))) else (none)) = some r := H
                      have A29 := Aside0.mk A290
                      clear A290
                      by_cases c30 : t133 = true
                      · subst c30
                        have H1 : ((manteletref08_Same.f k3 t147 t151).bind fun t155 => (if t155 = true then (some (t148 == t152)) else (none))) = some r := by rw [if_pos rfl] at H; exact H
                        clear H
                        have H := H1
                        clear H1
                        replace H := Option.bind_eq_some_iff.mp H
                        obtain ⟨t155, A310, H⟩ := H
                        replace H : (if t155 = true then (some (t148 == t152)) else (none)) = some r := H
                        have A31 := Aside0.mk A310
                        clear A310
                        by_cases c32 : t155 = true
                        · subst c32
                          have H1 : (some (t148 == t152)) = some r := by rw [if_pos rfl] at H; exact H
                          clear H
                          have H := H1
                          clear H1
                          obtain rfl := Option.some.inj H
                          go_wp2_with (first | ((with_reducible refine gate_callee (f := 10) rfl ?_); refine goesL_ (some 79) rfl rfl Try.func10 (by kernel_rfl) rfl #[.slice A0 l0.length c0] rfl (by (try simp only [List.map_toArray, List.map_cons, List.map_nil]); first | done | rfl | (simp only [List.length_drop, List.length_take]; rfl)) ?_; (with_reducible refine (loser_Merge.calls k3 _ _ l0 t147 t148 _ ?side1 ?side2 A28.out).mono ?_); (case side1 => repeat (first | exact (Kd.V_reads' HO_0.out).2.2 | (with_reducible refine Kd.C_alloc ?_ _) | (with_reducible refine Kd.C_drewN ?_ _) | (with_reducible refine Kd.C_drew ?_))); (case side2 => exact (Kd.V_reads' HO_0.out).2.1); rintro e w33 ⟨v149, rfl, ho0, hb⟩; refine ⟨_, rfl, ?_⟩; have n0_ := Aside0.mk (Kd.V_elder' (by (with_reducible repeat (first | apply Kd.V_alloc | apply Kd.V_drewN | apply Kd.V_drew)); exact HO_0.out) (Kd.R_base ho0) hb); have n1_ := Aside0.mk (Kd.N_elder' (by (with_reducible repeat (first | apply Kd.N_alloc | apply Kd.N_drewN | apply Kd.N_drew)); exact HO_10.out) (Kd.R_base ho0) hb); have n2_ := Aside0.mk (Kd.R_lower (Kd.R_newM (M := fun k_ => (w.heap.size ≤ k_)) ho0 (below_size (by repeat (first | (with_reducible first | exact HB.out | apply below_alloc | apply pw_below_drewN | apply below_drew1) | exact HB.out))) (fun k_ h_ => h_)) (below_size (by repeat (first | (with_reducible first | exact HB.out | apply below_alloc | apply pw_below_drewN | apply below_drew1) | exact HB.out)))); have n3_ := Aside0.mk (below_step (by repeat (first | (with_reducible first | exact HB.out | apply below_alloc | apply pw_below_drewN | apply below_drew1) | exact HB.out)) hb); clear HO_0; clear HO_10; clear HB; have HO_0 := n0_; have HO_10 := n1_; have HO150 := n2_; have HB := n3_; clear n0_ n1_ n2_ n3_; (try clear hb); (try clear hb2); (try clear hk); (try clear hi); (try clear ho0); obtain ⟨Ao34, co34, eo34⟩ := Kd.N_slice HO_10.out; subst eo34) | ((with_reducible refine gate_callee (f := 10) rfl ?_); refine goesL_ (some 84) rfl rfl Try.func10 (by kernel_rfl) rfl #[.slice Ao34 x10_3.length co34] rfl (by (try simp only [List.map_toArray, List.map_cons, List.map_nil]); first | done | rfl | (simp only [List.length_drop, List.length_take]; rfl)) ?_; (with_reducible refine (loser_Merge.calls k3 _ _ x10_3 t151 t152 _ ?side1 ?side2 A29.out).mono ?_); (case side1 => repeat (first | exact (Kd.N_reads' HO_10.out).2.2 | (with_reducible refine Kd.C_alloc ?_ _) | (with_reducible refine Kd.C_drewN ?_ _) | (with_reducible refine Kd.C_drew ?_))); (case side2 => exact (Kd.N_reads' HO_10.out).2.1); rintro e w35 ⟨v153, rfl, ho0, hb⟩; refine ⟨_, rfl, ?_⟩; have n0_ := Aside0.mk (Kd.V_elder' (by (with_reducible repeat (first | apply Kd.V_alloc | apply Kd.V_drewN | apply Kd.V_drew)); exact HO_0.out) (Kd.R_base ho0) hb); have n1_ := Aside0.mk (Kd.N_elder' (by (with_reducible repeat (first | apply Kd.N_alloc | apply Kd.N_drewN | apply Kd.N_drew)); exact HO_10.out) (Kd.R_base ho0) hb); have n2_ := Aside0.mk (Kd.R_elder' (by (with_reducible repeat (first | apply Kd.R_alloc | apply Kd.R_drewN | apply Kd.R_drew)); exact HO150.out) (Kd.R_base ho0) hb); have n3_ := Aside0.mk (Kd.R_lower (Kd.R_new' (Kd.R_newM (M := fun k_ => (w.heap.size ≤ k_)) ho0 (below_size (by repeat (first | (with_reducible first | exact HB.out | apply below_alloc | apply pw_below_drewN | apply below_drew1) | exact HB.out))) (fun k_ h_ => h_)) (Kd.R_lt (by (with_reducible repeat (first | apply Kd.R_alloc | apply Kd.R_drewN | apply Kd.R_drew)); exact HO150.out))) (below_size (by repeat (first | (with_reducible first | exact HB.out | apply below_alloc | apply pw_below_drewN | apply below_drew1) | exact HB.out)))); have n4_ := Aside0.mk (below_step (by repeat (first | (with_reducible first | exact HB.out | apply below_alloc | apply pw_below_drewN | apply below_drew1) | exact HB.out)) hb); clear HO_0; clear HO_10; clear HO150; clear HB; have HO_0 := n0_; have HO_10 := n1_; have HO150 := n2_; have HO154 := n3_; have HB := n4_; clear n0_ n1_ n2_ n3_ n4_; (try clear hb); (try clear hb2); (try clear hk); (try clear hi); (try clear ho0); obtain ⟨Ao36, co36, eo36⟩ := Kd.R_slice HO150.out; subst eo36; obtain ⟨Ao37, co37, eo37⟩ := Kd.R_slice HO154.out; subst eo37) | (go_at_call 12; (with_reducible refine (manteletref08_Same.calls k3 _ _ t147 _ _ t151 true _ ?side1 ?side2 ?side3 ?side4 A31.out).mono ?_); (case side1 => repeat (first | exact (Kd.R_reads' HO150.out).2.2 | (with_reducible refine Kd.C_alloc ?_ _) | (with_reducible refine Kd.C_drewN ?_ _) | (with_reducible refine Kd.C_drew ?_))); (case side2 => exact (Kd.R_reads' HO150.out).2.1); (case side3 => repeat (first | exact (Kd.R_reads' HO154.out).2.2 | (with_reducible refine Kd.C_alloc ?_ _) | (with_reducible refine Kd.C_drewN ?_ _) | (with_reducible refine Kd.C_drew ?_))); (case side4 => exact (Kd.R_reads' HO154.out).2.1); rintro e w' ⟨rfl, ⟨nd, rfl⟩⟩))
                          go_ret
                          exact ⟨by first | rfl | (simp [errW_none, errW_some] <;> rfl) | (have e_ := Option.some.inj (A3.out.symm.trans A6.out); subst e_; rfl) | (have e_ := Option.some.inj (A3.out.symm.trans A11.out); subst e_; rfl) | (have e_ := Option.some.inj (A6.out.symm.trans A11.out); subst e_; rfl) | (have e_ := Option.some.inj (A3.out.symm.trans A14.out); subst e_; rfl) | (have e_ := Option.some.inj (A6.out.symm.trans A14.out); subst e_; rfl) | (have e_ := Option.some.inj (A11.out.symm.trans A14.out); subst e_; rfl) | (have e_ := Option.some.inj (A3.out.symm.trans A16.out); subst e_; rfl) | (have e_ := Option.some.inj (A6.out.symm.trans A16.out); subst e_; rfl) | (have e_ := Option.some.inj (A11.out.symm.trans A16.out); subst e_; rfl) | (have e_ := Option.some.inj (A14.out.symm.trans A16.out); subst e_; rfl) | (have e_ := Option.some.inj (A3.out.symm.trans A28.out); subst e_; rfl) | (have e_ := Option.some.inj (A6.out.symm.trans A28.out); subst e_; rfl) | (have e_ := Option.some.inj (A11.out.symm.trans A28.out); subst e_; rfl) | (have e_ := Option.some.inj (A14.out.symm.trans A28.out); subst e_; rfl) | (have e_ := Option.some.inj (A16.out.symm.trans A28.out); subst e_; rfl) | (have e_ := Option.some.inj (A3.out.symm.trans A29.out); subst e_; rfl) | (have e_ := Option.some.inj (A6.out.symm.trans A29.out); subst e_; rfl) | (have e_ := Option.some.inj (A11.out.symm.trans A29.out); subst e_; rfl) | (have e_ := Option.some.inj (A14.out.symm.trans A29.out); subst e_; rfl) | (have e_ := Option.some.inj (A16.out.symm.trans A29.out); subst e_; rfl) | (have e_ := Option.some.inj (A28.out.symm.trans A29.out); subst e_; rfl) | (have e_ := Option.some.inj (A3.out.symm.trans A31.out); subst e_; rfl) | (have e_ := Option.some.inj (A6.out.symm.trans A31.out); subst e_; rfl) | (have e_ := Option.some.inj (A11.out.symm.trans A31.out); subst e_; rfl) | (have e_ := Option.some.inj (A14.out.symm.trans A31.out); subst e_; rfl) | (have e_ := Option.some.inj (A16.out.symm.trans A31.out); subst e_; rfl) | (have e_ := Option.some.inj (A28.out.symm.trans A31.out); subst e_; rfl) | (have e_ := Option.some.inj (A29.out.symm.trans A31.out); subst e_; rfl) | (simp [*, errW_none, errW_some] <;> rfl), by repeat (first | (with_reducible first | exact HB.out | apply below_alloc | apply pw_below_drewN | apply below_drew1) | exact HB.out)⟩
                        · replace c32 := Bool.eq_false_iff.mpr c32
                          subst c32
                          have H1 : (none) = some r := by rw [if_neg (show ¬ (false = true) by decide)] at H; exact H
                          clear H
                          have H := H1
                          clear H1
                          exact absurd H (by simp)
                      · replace c30 := Bool.eq_false_iff.mpr c30
                        subst c30
                        have H1 : (none) = some r := by rw [if_neg (show ¬ (false = true) by decide)] at H; exact H
                        clear H
                        have H := H1
                        clear H1
                        exact absurd H (by simp)

end Go.Proofs.Ytlngljddjlmkfaa.PLs
