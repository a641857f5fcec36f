/- Contracts of Go functions: called with what reads as these lists and numbers, a function returns what its plain Lean function says, and leaves what was there. Written by a program of this session. -/
import Derived.Test.YtlngljddjlmkfaaPLoserx0
import Derived.Test.YtlngljddjlmkfaaPLoserx2
import Derived.Test.YtlngljddjlmkfaaPLoserx3
import Derived.Test.YtlngljddjlmkfaaPLoserx4
import Derived.Test.YtlngljddjlmkfaaPLoserx6
namespace Go.Proofs.Ytlngljddjlmkfaa.PLoser
open Go.RowKit Go.Proofs.YtlngljddjlmkfaaW.PrintWords Go.Proofs.YtlngljddjlmkfaaW.PrintLast Go.Proofs.YtlngljddjlmkfaaW.PrintMore
attribute [local go_sem] max2_int min2_int max_two min_two max_three min_three max_four min_four   -- for this text's walks alone
attribute [local go_sem] Go.Proofs.Ytlngljddjlmkfaa.MoreWords.str_leq Go.Proofs.Ytlngljddjlmkfaa.MoreWords.str_gtr Go.Proofs.Ytlngljddjlmkfaa.MoreWords.str_geq
set_option linter.unusedVariables false
set_option linter.unusedSimpArgs false

/-! ### manteletlaw11_LoserTwice: function 5 -/
def manteletlaw11_LoserTwice.j0 : Nat → List (List (S37)) → Int → Bool → Bool → Option (Bool)
  | 0, _, _, _, _ => none
  | k + 1, x0, x1, x5, x25 => if x25 = true then (some x5) else (if (x0.length : Int) = 0 then (none) else ((loser_Merge.f k x0).bind fun bt208 => (if 0 ≤ (Int.tmod (wrap64 (x1)) (x0.length : Int)) then (if (Int.tmod (wrap64 (x1)) (x0.length : Int)) ≤ (x0.length : Int) then ((loser_Merge.f k (x0.take ((Int.tmod (wrap64 (x1)) (x0.length : Int)) : Int).toNat)).bind fun bt216 => ((loser_Merge.f k (x0.drop ((Int.tmod (wrap64 (x1)) (x0.length : Int)) : Int).toNat)).bind fun bt224 => (if bt208.2 = 0 then ((loser_Merge.f k (([bt216.1, [], bt224.1] : List (List (S37))))).bind fun bt231 => ((loser_Merge.f k (([[], bt208.1] : List (List (S37))))).bind fun bt238 => (if x5 = true then (if bt216.2 = 0 then (if bt224.2 = 0 then (if bt231.2 = 0 then (if bt238.2 = 0 then ((manteletref08_Same.f k bt231.1 bt208.1).bind fun t242 => (if t242 = true then ((manteletref08_Same.f k bt238.1 bt208.1).bind fun t243 => (if t243 = true then ((run_May.f k bt208.1).bind fun t244 => (some (t244 == 0))) else (none))) else (none))) else (none)) else (none)) else (none)) else (none)) else (none)))) else (if x5 = true then (some ((bt208.1.length : Int) == 0)) else (none))))) else (none)) else (none))))
def manteletlaw11_LoserTwice.f (k : Nat) (l0 : List (List (S37))) (a1 : Int) : Option (Bool) := (manteletlaw11_shown.f k).bind fun t206 => ((manteletlaw11_few.f k l0).bind fun t207 => (if t207 = true then (manteletlaw11_LoserTwice.j0 k l0 a1 t206 ((l0.length : Int) == 0)) else (manteletlaw11_LoserTwice.j0 k l0 a1 t206 true)))
theorem manteletlaw11_LoserTwice.mono_l : ∀ k, (∀ y0 y1 y2 y3, LeO (manteletlaw11_LoserTwice.j0 k y0 y1 y2 y3) (manteletlaw11_LoserTwice.j0 (k + 1) y0 y1 y2 y3))
  | 0 => fun _ _ _ _ r h => by simp [manteletlaw11_LoserTwice.j0] at h
  | k + 1 => by
    have ih0 := manteletlaw11_LoserTwice.mono_l k
    · intro y0 y1 y2 y3
      unfold manteletlaw11_LoserTwice.j0
      repeat' first
      | (with_reducible exact ih0 _ _ _ _)
      | (with_reducible exact loser_Merge.mono _ _)
      | (with_reducible exact manteletlaw11_few.mono _ _)
      | (with_reducible exact manteletlaw11_shown.mono _)
      | (with_reducible exact manteletref08_Same.mono _ _ _)
      | (with_reducible exact run_May.mono _ _)
      | (with_reducible exact LeO.refl _)
      | (with_reducible exact LeO.none _)
      | (with_reducible refine LeO.ite ?_ ?_)
      | (with_reducible refine LeO.bind ?_ (fun _ => ?_))
      | exact ih0 _ _ _ _
      | exact loser_Merge.mono _ _
      | exact manteletlaw11_few.mono _ _
      | exact manteletlaw11_shown.mono _
      | exact manteletref08_Same.mono _ _ _
      | exact run_May.mono _ _
      | exact LeO.none _
      | refine LeO.ite ?_ ?_
      | refine LeO.bind ?_ (fun _ => ?_)
theorem manteletlaw11_LoserTwice.mono : ∀ a0 a1 k, LeO (manteletlaw11_LoserTwice.f k a0 a1) (manteletlaw11_LoserTwice.f (k + 1) a0 a1) := by
  intro a0 a1 k
  have ih0 := manteletlaw11_LoserTwice.mono_l k
  unfold manteletlaw11_LoserTwice.f
  repeat' first
      | (with_reducible exact ih0 _ _ _ _)
      | (with_reducible exact loser_Merge.mono _ _)
      | (with_reducible exact manteletlaw11_few.mono _ _)
      | (with_reducible exact manteletlaw11_shown.mono _)
      | (with_reducible exact manteletref08_Same.mono _ _ _)
      | (with_reducible exact run_May.mono _ _)
      | (with_reducible exact LeO.refl _)
      | (with_reducible exact LeO.none _)
      | (with_reducible refine LeO.ite ?_ ?_)
      | (with_reducible refine LeO.bind ?_ (fun _ => ?_))
      | exact ih0 _ _ _ _
      | exact loser_Merge.mono _ _
      | exact manteletlaw11_few.mono _ _
      | exact manteletlaw11_shown.mono _
      | exact manteletref08_Same.mono _ _ _
      | exact run_May.mono _ _
      | exact LeO.none _
      | refine LeO.ite ?_ ?_
      | refine LeO.bind ?_ (fun _ => ?_)
set_option maxHeartbeats 8000000 in
set_option maxRecDepth 100000 in
theorem manteletlaw11_LoserTwice.calls (k : Nat) (A0 : Option Addr) (c0 : Nat) (l0 : List (List (S37))) (a1 : Int) (r : Bool) (w : World) (hr0 : Kd.C (Kd.slice 37 k37) w A0 l0.length l0) (hc0 : l0.length ≤ c0) (h : manteletlaw11_LoserTwice.f k l0 a1 = some r) :
    Calls Try.prog 5 #[.slice A0 l0.length c0, .int .u8 a1] w fun e w' => e = .returned (.bool r) ∧ Below w.heap.size w w' := by
  have HR0 := Aside0.mk hr0
  have HC0 := Aside0.mk hc0
  clear hr0 hc0
  have HB := Aside0.mk (Below.refl w.heap.size w)
  have H : ((manteletlaw11_shown.f k).bind fun t206 => ((manteletlaw11_few.f k l0).bind fun t207 => (if t207 = true then (manteletlaw11_LoserTwice.j0 k l0 a1 t206 ((l0.length : Int) == 0)) else (manteletlaw11_LoserTwice.j0 k l0 a1 t206 true)))) = some r := h
  clear h
  replace H := Option.bind_eq_some_iff.mp H
  obtain ⟨t206, A30, H⟩ := H
  replace H : ((manteletlaw11_few.f k l0).bind fun t207 => (if t207 = true then (manteletlaw11_LoserTwice.j0 k l0 a1 t206 ((l0.length : Int) == 0)) else (manteletlaw11_LoserTwice.j0 k l0 a1 t206 true))) = some r := H
  have A3 := Aside0.mk A30
  clear A30
  have HC4 := Aside0.mk H
  clear H
  go_enter Try.func5, Try.ntmps5
  go_upto_region 2 with (first | ((with_reducible refine gate_callee (f := 8) rfl ?_); refine goesL_ (some 17) rfl rfl Try.func8 (by kernel_rfl) rfl #[] rfl (by (try simp only [List.map_toArray, List.map_cons, List.map_nil]); first | done | rfl | (simp only [List.length_drop, List.length_take]; rfl)) ?_; (with_reducible refine (manteletlaw11_shown.calls k  t206 _ A3.out).mono ?_); rintro e w5 ⟨rfl, hb⟩; refine ⟨_, rfl, ?_⟩; have n0_ := Aside0.mk (below_step (by repeat (first | (with_reducible first | exact HB.out | apply below_alloc | apply pw_below_drewN | apply below_drew1) | exact HB.out)) hb); clear HB; have HB := n0_; clear n0_; (try clear hb); (try clear hb2); (try clear hk); (try clear hi)))
  (try simp only [Act.put, List.setIfInBounds_toArray, List.set_cons_zero, List.set_cons_succ])
  go_cut [25] (fun v25 wc => ∃ (kq : Nat) (x25_3 : Bool), v25 = .bool x25_3 ∧ Aside0 (manteletlaw11_LoserTwice.j0 kq l0 a1 t206 x25_3 = some r) ∧ Aside0 (kq ≤ k) ∧ Aside0 (Below w.heap.size w wc))
  case first =>
    have H := HC4.out
    clear HC4
    replace H := Option.bind_eq_some_iff.mp H
    obtain ⟨t207, A60, H⟩ := H
    replace H : (if t207 = true then (manteletlaw11_LoserTwice.j0 k l0 a1 t206 ((l0.length : Int) == 0)) else (manteletlaw11_LoserTwice.j0 k l0 a1 t206 true)) = some r := H
    have A6 := Aside0.mk A60
    clear A60
    by_cases c7 : t207 = true
    · subst c7
      have H1 : (manteletlaw11_LoserTwice.j0 k l0 a1 t206 ((l0.length : Int) == 0)) = some r := by rw [if_pos rfl] at H; exact H
      clear H
      have H := H1
      clear H1
      have H' := Aside0.mk H
      clear H
      go_wp2_with (first | ((with_reducible refine gate_callee (f := 9) rfl ?_); refine goesL_ (some 19) rfl rfl Try.func9 (by kernel_rfl) rfl #[.slice A0 l0.length c0] rfl (by (try simp only [List.map_toArray, List.map_cons, List.map_nil]); first | done | rfl | (simp only [List.length_drop, List.length_take]; rfl)) ?_; (with_reducible refine (manteletlaw11_few.calls k _ _ l0 true _ ?side1 ?side2 A6.out).mono ?_); (case side1 => repeat (first | exact (Kd.C_below HR0.out HB.out) | (with_reducible refine Kd.C_alloc ?_ _) | (with_reducible refine Kd.C_drewN ?_ _) | (with_reducible refine Kd.C_drew ?_))); (case side2 => exact HC0.out); rintro e w' ⟨rfl, ⟨nd, rfl⟩⟩; refine ⟨_, rfl, ?_⟩))
      go_meet
      case rel => exact ⟨_, (((l0.length : Int) == 0)), (by first | rfl | (simp; done) | (simp [*]; done)), H', ⟨by first | omega | exact Nat.le_refl _⟩, ⟨by repeat (first | (with_reducible first | exact HB.out | apply below_alloc | apply pw_below_drewN | apply below_drew1) | exact HB.out)⟩⟩
    · replace c7 := Bool.eq_false_iff.mpr c7
      subst c7
      have H1 : (manteletlaw11_LoserTwice.j0 k l0 a1 t206 true) = some r := by rw [if_neg (show ¬ (false = true) by decide)] at H; exact H
      clear H
      have H := H1
      clear H1
      have H' := Aside0.mk H
      clear H
      go_wp2_with (first | ((with_reducible refine gate_callee (f := 9) rfl ?_); refine goesL_ (some 19) rfl rfl Try.func9 (by kernel_rfl) rfl #[.slice A0 l0.length c0] rfl (by (try simp only [List.map_toArray, List.map_cons, List.map_nil]); first | done | rfl | (simp only [List.length_drop, List.length_take]; rfl)) ?_; (with_reducible refine (manteletlaw11_few.calls k _ _ l0 false _ ?side1 ?side2 A6.out).mono ?_); (case side1 => repeat (first | exact (Kd.C_below HR0.out HB.out) | (with_reducible refine Kd.C_alloc ?_ _) | (with_reducible refine Kd.C_drewN ?_ _) | (with_reducible refine Kd.C_drew ?_))); (case side2 => exact HC0.out); rintro e w' ⟨rfl, ⟨nd, rfl⟩⟩; refine ⟨_, rfl, ?_⟩))
      go_meet
      case rel => exact ⟨_, (true), (by first | rfl | (simp; done) | (simp [*]; done)), H', ⟨by first | omega | exact Nat.le_refl _⟩, ⟨by repeat (first | (with_reducible first | exact HB.out | apply below_alloc | apply pw_below_drewN | apply below_drew1) | exact HB.out)⟩⟩
  case rest =>
    clear HC4
    try clear p2
    try clear c5
    try clear c7
    obtain ⟨kq, x25_3, rfl, HA, HJ3, HB⟩ := hcut
    cases kq with
    | zero => exact absurd HA.out (by simp [manteletlaw11_LoserTwice.j0])
    | succ kj3 =>
      have H := HA.out
      clear HA
      simp only [manteletlaw11_LoserTwice.j0] at H
      by_cases c8 : x25_3 = true
      · subst c8
        have H1 : (some t206) = some r := by rw [if_pos rfl] at H; exact H
        clear H
        have H := H1
        clear H1
        obtain rfl := Option.some.inj H
        go_wp2
        go_ret
        exact ⟨by first | rfl | (simp [errW_none, errW_some] <;> rfl) | (have e_ := Option.some.inj (A3.out.symm.trans A6.out); subst e_; rfl) | (simp [*, errW_none, errW_some] <;> rfl), by repeat (first | (with_reducible first | exact HB.out | apply below_alloc | apply pw_below_drewN | apply below_drew1) | exact HB.out)⟩
      · replace c8 := Bool.eq_false_iff.mpr c8
        subst c8
        have H1 : (if (l0.length : Int) = 0 then (none) else ((loser_Merge.f kj3 l0).bind fun bt208 => (if 0 ≤ (Int.tmod (wrap64 (a1)) (l0.length : Int)) then (if (Int.tmod (wrap64 (a1)) (l0.length : Int)) ≤ (l0.length : Int) then ((loser_Merge.f kj3 (l0.take ((Int.tmod (wrap64 (a1)) (l0.length : Int)) : Int).toNat)).bind fun bt216 => ((loser_Merge.f kj3 (l0.drop ((Int.tmod (wrap64 (a1)) (l0.length : Int)) : Int).toNat)).bind fun bt224 => (if bt208.2 = 0 then ((loser_Merge.f kj3 (([bt216.1, [], bt224.1] : List (List (S37))))).bind fun bt231 => ((loser_Merge.f kj3 (([[], bt208.1] : List (List (S37))))).bind fun bt238 => (if t206 = true then (if bt216.2 = 0 then (if bt224.2 = 0 then (if bt231.2 = 0 then (if bt238.2 = 0 then ((manteletref08_Same.f kj3 bt231.1 bt208.1).bind fun t242 => (if t242 = true then ((manteletref08_Same.f kj3 bt238.1 bt208.1).bind fun t243 => (if t243 = true then ((run_May.f kj3 bt208.1).bind fun t244 => (some (t244 == 0))) else (none))) else (none))) else (none)) else (none)) else (none)) else (none)) else (none)))) else (if t206 = true then (some ((bt208.1.length : Int) == 0)) else (none))))) else (none)) else (none)))) = some r := by rw [if_neg (show ¬ (false = true) by decide)] at H; exact H
        clear H
        have H := H1
        clear H1
        by_cases c9 : (l0.length : Int) = 0
        · rw [if_pos c9] at H
          exact absurd H (by simp)
        · rw [if_neg c9] at H
          have c9b0 : ((l0.length : Int) == 0) = false := beq_eq_false_iff_ne.mpr c9
          have c9b1 : ((l0.length : Int) != 0) = true := bne_iff_ne.mpr c9
          have c9b2 : ¬ (l0 = []) := fun h_ => c9 (by rw [h_]; rfl)
          replace H := Option.bind_eq_some_iff.mp H
          obtain ⟨⟨t208, t209⟩, A100, H⟩ := H
          replace H : (if 0 ≤ (Int.tmod (wrap64 (a1)) (l0.length : Int)) then (if (Int.tmod (wrap64 (a1)) (l0.length : Int)) ≤ (l0.length : Int) then ((loser_Merge.f kj3 (l0.take ((Int.tmod (wrap64 (a1)) (l0.length : Int)) : Int).toNat)).bind fun bt216 => ((loser_Merge.f kj3 (l0.drop ((Int.tmod (wrap64 (a1)) (l0.length : Int)) : Int).toNat)).bind fun bt224 => (if t209 = 0 then ((loser_Merge.f kj3 (([bt216.1, [], bt224.1] : List (List (S37))))).bind fun bt231 => ((loser_Merge.f kj3 (([[], t208] : List (List (S37))))).bind fun bt238 => (if t206 = true then (if bt216.2 = 0 then (if bt224.2 = 0 then (if bt231.2 = 0 then (if bt238.2 = 0 then ((manteletref08_Same.f kj3 bt231.1 t208).bind fun t242 => (if t242 = true then ((manteletref08_Same.f kj3 bt238.1 t208).bind fun t243 => (if t243 = true then ((run_May.f kj3 t208).bind fun t244 => (some (t244 == 0))) else (none))) else (none))) else (none)) else (none)) else (none)) else (none)) else (none)))) else (if t206 = true then (some ((t208.length : Int) == 0)) else (none))))) else (none)) else (none)) = some r := H
          have A10 := Aside0.mk A100
          clear A100
          obtain ⟨ji11, hji11⟩ : ∃ j_ : Int, (Int.tmod (wrap64 (a1)) (l0.length : Int)) = j_ := ⟨_, rfl⟩
          replace H : (if 0 ≤ (ji11) then (if (ji11) ≤ (l0.length : Int) then ((loser_Merge.f kj3 (l0.take ((ji11) : Int).toNat)).bind fun bt216 => ((loser_Merge.f kj3 (l0.drop ((ji11) : Int).toNat)).bind fun bt224 => (if t209 = 0 then ((loser_Merge.f kj3 (([bt216.1, [], bt224.1] : List (List (S37))))).bind fun bt231 => ((loser_Merge.f kj3 (([[], t208] : List (List (S37))))).bind fun bt238 => (if t206 = true then (if bt216.2 = 0 then (if bt224.2 = 0 then (if bt231.2 = 0 then (if bt238.2 = 0 then ((manteletref08_Same.f kj3 bt231.1 t208).bind fun t242 => (if t242 = true then ((manteletref08_Same.f kj3 bt238.1 t208).bind fun t243 => (if t243 = true then ((run_May.f kj3 t208).bind fun t244 => (some (t244 == 0))) else (none))) else (none))) else (none)) else (none)) else (none)) else (none)) else (none)))) else (if t206 = true then (some ((t208.length : Int) == 0)) else (none))))) else (none)) else (none)) = some r := by first | (rw [hji11] at H; exact H) | (simp only [hji11] at H ⊢; exact H)
          (try rw [hji11] at A10)
          by_cases c12 : 0 ≤ (ji11)
          · rw [if_pos c12] at H
            have c12b0 := eq_true c12
            have c12b1 : decide (0 ≤ (ji11)) = true := decide_eq_true c12
            clear c12
            by_cases c13 : (ji11) ≤ (l0.length : Int)
            · rw [if_pos c13] at H
              have c13b0 := eq_true c13
              have c13b1 : decide ((ji11) ≤ (l0.length : Int)) = true := decide_eq_true c13
              clear c13
              obtain ⟨y212, hy212⟩ : ∃ y_ : List (List (S37)), y_ = (l0.take ((ji11) : Int).toNat) := ⟨_, rfl⟩
              replace H : ((loser_Merge.f kj3 y212).bind fun bt216 => ((loser_Merge.f kj3 (l0.drop ((ji11) : Int).toNat)).bind fun bt224 => (if t209 = 0 then ((loser_Merge.f kj3 (([bt216.1, [], bt224.1] : List (List (S37))))).bind fun bt231 => ((loser_Merge.f kj3 (([[], t208] : List (List (S37))))).bind fun bt238 => (if t206 = true then (if bt216.2 = 0 then (if bt224.2 = 0 then (if bt231.2 = 0 then (if bt238.2 = 0 then ((manteletref08_Same.f kj3 bt231.1 t208).bind fun t242 => (if t242 = true then ((manteletref08_Same.f kj3 bt238.1 t208).bind fun t243 => (if t243 = true then ((run_May.f kj3 t208).bind fun t244 => (some (t244 == 0))) else (none))) else (none))) else (none)) else (none)) else (none)) else (none)) else (none)))) else (if t206 = true then (some ((t208.length : Int) == 0)) else (none))))) = some r := by first | (rw [hy212]; with_reducible exact H) | (have H2_ := (Option.bind_some _ _).symm.trans H; rw [hy212]; with_reducible exact H2_) | (have H2_ := (Option.bind_some _ _).symm.trans H; with_reducible exact H2_) | with_reducible exact H | (rw [hy212]; exact H) | exact H
              have Ny212 := Aside0.mk hy212
              clear hy212
              replace H := Option.bind_eq_some_iff.mp H
              obtain ⟨⟨t216, t217⟩, A140, H⟩ := H
              replace H : ((loser_Merge.f kj3 (l0.drop ((ji11) : Int).toNat)).bind fun bt224 => (if t209 = 0 then ((loser_Merge.f kj3 (([t216, [], bt224.1] : List (List (S37))))).bind fun bt231 => ((loser_Merge.f kj3 (([[], t208] : List (List (S37))))).bind fun bt238 => (if t206 = true then (if t217 = 0 then (if bt224.2 = 0 then (if bt231.2 = 0 then (if bt238.2 = 0 then ((manteletref08_Same.f kj3 bt231.1 t208).bind fun t242 => (if t242 = true then ((manteletref08_Same.f kj3 bt238.1 t208).bind fun t243 => (if t243 = true then ((run_May.f kj3 t208).bind fun t244 => (some (t244 == 0))) else (none))) else (none))) else (none)) else (none)) else (none)) else (none)) else (none)))) else (if t206 = true then (some ((t208.length : Int) == 0)) else (none)))) = some r := H
              have A14 := Aside0.mk A140
              clear A140
              have c15b0 := eq_true (of_decide_eq_true (by first | (with_reducible assumption) | assumption) : 0 ≤ (ji11))
              have c16b0 := eq_true (of_decide_eq_true (by first | (with_reducible assumption) | assumption) : (ji11) ≤ (l0.length : Int))
              obtain ⟨y220, hy220⟩ : ∃ y_ : List (List (S37)), y_ = (l0.drop ((ji11) : Int).toNat) := ⟨_, rfl⟩
              replace H : ((loser_Merge.f kj3 y220).bind fun bt224 => (if t209 = 0 then ((loser_Merge.f kj3 (([t216, [], bt224.1] : List (List (S37))))).bind fun bt231 => ((loser_Merge.f kj3 (([[], t208] : List (List (S37))))).bind fun bt238 => (if t206 = true then (if t217 = 0 then (if bt224.2 = 0 then (if bt231.2 = 0 then (if bt238.2 = 0 then ((manteletref08_Same.f kj3 bt231.1 t208).bind fun t242 => (if t242 = true then ((manteletref08_Same.f kj3 bt238.1 t208).bind fun t243 => (if t243 = true then ((run_May.f kj3 t208).bind fun t244 => (some (t244 == 0))) else (none))) else (none))) else (none)) else (none)) else (none)) else (none)) else (none)))) else (if t206 = true then (some ((t208.length : Int) == 0)) else (none)))) = some r := by first | (rw [hy220]; with_reducible exact H) | (have H2_ := (Option.bind_some _ _).symm.trans H; rw [hy220]; with_reducible exact H2_) | (have H2_ := (Option.bind_some _ _).symm.trans H; with_reducible exact H2_) | with_reducible exact H | (rw [hy220]; exact H) | exact H
              have Ny220 := Aside0.mk hy220
              clear hy220
              replace H := Option.bind_eq_some_iff.mp H
              obtain ⟨⟨t224, t225⟩, A170, H⟩ := H
              replace H : (if t209 = 0 then ((loser_Merge.f kj3 (([t216, [], t224] : List (List (S37))))).bind fun bt231 => ((loser_Merge.f kj3 (([[], t208] : List (List (S37))))).bind fun bt238 => (if t206 = true then (if t217 = 0 then (if t225 = 0 then (if bt231.2 = 0 then (if bt238.2 = 0 then ((manteletref08_Same.f kj3 bt231.1 t208).bind fun t242 => (if t242 = true then ((manteletref08_Same.f kj3 bt238.1 t208).bind fun t243 => (if t243 = true then ((run_May.f kj3 t208).bind fun t244 => (some (t244 == 0))) else (none))) else (none))) else (none)) else (none)) else (none)) else (none)) else (none)))) else (if t206 = true then (some ((t208.length : Int) == 0)) else (none))) = some r := H
              have A17 := Aside0.mk A170
              clear A170
              by_cases c18 : t209 = 0
              · rw [if_pos c18] at H
                have c18b0 : (t209 == 0) = true := beq_iff_eq.mpr c18
                have c18b1 : (t209 != 0) = false := bne_eq_false_iff_eq.mpr c18
                clear c18
                obtain ⟨y228, hy228⟩ : ∃ y_ : List (List (S37)), y_ = (([t216, [], t224] : List (List (S37)))) := ⟨_, rfl⟩
                replace H : ((loser_Merge.f kj3 y228).bind fun bt231 => ((loser_Merge.f kj3 (([[], t208] : List (List (S37))))).bind fun bt238 => (if t206 = true then (if t217 = 0 then (if t225 = 0 then (if bt231.2 = 0 then (if bt238.2 = 0 then ((manteletref08_Same.f kj3 bt231.1 t208).bind fun t242 => (if t242 = true then ((manteletref08_Same.f kj3 bt238.1 t208).bind fun t243 => (if t243 = true then ((run_May.f kj3 t208).bind fun t244 => (some (t244 == 0))) else (none))) else (none))) else (none)) else (none)) else (none)) else (none)) else (none)))) = some r := by first | (rw [hy228]; with_reducible exact H) | (have H2_ := (Option.bind_some _ _).symm.trans H; rw [hy228]; with_reducible exact H2_) | (have H2_ := (Option.bind_some _ _).symm.trans H; with_reducible exact H2_) | with_reducible exact H | (rw [hy228]; exact H) | exact H
                have Ny228 := Aside0.mk hy228
                clear hy228
                replace H := Option.bind_eq_some_iff.mp H
                obtain ⟨⟨t231, t232⟩, A190, H⟩ := H
                replace H : ((loser_Merge.f kj3 (([[], t208] : List (List (S37))))).bind fun bt238 => (if t206 = true then (if t217 = 0 then (if t225 = 0 then (if t232 = 0 then (if bt238.2 = 0 then ((manteletref08_Same.f kj3 t231 t208).bind fun t242 => (if t242 = true then ((manteletref08_Same.f kj3 bt238.1 t208).bind fun t243 => (if t243 = true then ((run_May.f kj3 t208).bind fun t244 => (some (t244 == 0))) else (none))) else (none))) else (none)) else (none)) else (none)) else (none)) else (none))) = some r := H
                have A19 := Aside0.mk A190
                clear A190
                obtain ⟨y235, hy235⟩ : ∃ y_ : List (List (S37)), y_ = (([[], t208] : List (List (S37)))) := ⟨_, rfl⟩
                replace H : ((loser_Merge.f kj3 y235).bind fun bt238 => (if t206 = true then (if t217 = 0 then (if t225 = 0 then (if t232 = 0 then (if bt238.2 = 0 then ((manteletref08_Same.f kj3 t231 t208).bind fun t242 => (if t242 = true then ((manteletref08_Same.f kj3 bt238.1 t208).bind fun t243 => (if t243 = true then ((run_May.f kj3 t208).bind fun t244 => (some (t244 == 0))) else (none))) else (none))) else (none)) else (none)) else (none)) else (none)) else (none))) = some r := by first | (rw [hy235]; with_reducible exact H) | (have H2_ := (Option.bind_some _ _).symm.trans H; rw [hy235]; with_reducible exact H2_) | (have H2_ := (Option.bind_some _ _).symm.trans H; with_reducible exact H2_) | with_reducible exact H | (rw [hy235]; exact H) | exact H
                have Ny235 := Aside0.mk hy235
                clear hy235
                replace H := Option.bind_eq_some_iff.mp H
                obtain ⟨⟨t238, t239⟩, A200, H⟩ := H
                replace H : (if t206 = true then (if t217 = 0 then (if t225 = 0 then (if t232 = 0 then (if t239 = 0 then ((manteletref08_Same.f kj3 t231 t208).bind fun t242 => (if t242 = true then ((manteletref08_Same.f kj3 t238 t208).bind fun t243 => (if t243 = true then ((run_May.f kj3 t208).bind fun t244 => (some (t244 == 0))) else (none))) else (none))) else (none)) else (none)) else (none)) else (none)) else (none)) = some r := H
                have A20 := Aside0.mk A200
                clear A200
                by_cases c21 : t206 = true
                · subst c21
                  have H1 : (if t217 = 0 then (if t225 = 0 then (if t232 = 0 then (if t239 = 0 then ((manteletref08_Same.f kj3 t231 t208).bind fun t242 => (if t242 = true then ((manteletref08_Same.f kj3 t238 t208).bind fun t243 => (if t243 = true then ((run_May.f kj3 t208).bind fun t244 => (some (t244 == 0))) else (none))) else (none))) else (none)) else (none)) else (none)) else (none)) = some r := by rw [if_pos rfl] at H; exact H
                  clear H
                  have H := H1
                  clear H1
                  by_cases c22 : t217 = 0
                  · rw [if_pos c22] at H
                    have c22b0 : (t217 == 0) = true := beq_iff_eq.mpr c22
                    have c22b1 : (t217 != 0) = false := bne_eq_false_iff_eq.mpr c22
                    clear c22
                    by_cases c23 : t225 = 0
                    · rw [if_pos c23] at H
                      have c23b0 : (t225 == 0) = true := beq_iff_eq.mpr c23
                      have c23b1 : (t225 != 0) = false := bne_eq_false_iff_eq.mpr c23
                      clear c23
                      by_cases c24 : t232 = 0
                      · rw [if_pos c24] at H
                        have c24b0 : (t232 == 0) = true := beq_iff_eq.mpr c24
                        have c24b1 : (t232 != 0) = false := bne_eq_false_iff_eq.mpr c24
                        clear c24
                        by_cases c25 : t239 = 0
                        · rw [if_pos c25] at H
                          have c25b0 : (t239 == 0) = true := beq_iff_eq.mpr c25
                          have c25b1 : (t239 != 0) = false := bne_eq_false_iff_eq.mpr c25
                          clear c25
                          replace H := Option.bind_eq_some_iff.mp H
                          obtain ⟨t242, A260, H⟩ := H
                          replace H : (if t242 = true then ((manteletref08_Same.f kj3 t238 t208).bind fun t243 => (if t243 = true then ((run_May.f kj3 t208).bind fun t244 => (some (t244 == 0))) else (none))) else (none)) = some r := H
                          have A26 := Aside0.mk A260
                          clear A260
                          by_cases c27 : t242 = true
                          · subst c27
                            have H1 : ((manteletref08_Same.f kj3 t238 t208).bind fun t243 => (if t243 = true then ((run_May.f kj3 t208).bind fun t244 => (some (t244 == 0))) else (none))) = some r := by rw [if_pos rfl] at H; exact H
                            clear H
                            have H := H1
                            clear H1
                            replace H := Option.bind_eq_some_iff.mp H
                            obtain ⟨t243, A280, H⟩ := H
                            replace H : (if t243 = true then ((run_May.f kj3 t208).bind fun t244 => (some (t244 == 0))) else (none)) = some r := H
                            have A28 := Aside0.mk A280
                            clear A280
                            by_cases c29 : t243 = true
                            · subst c29
                              have H1 : ((run_May.f kj3 t208).bind fun t244 => (some (t244 == 0))) = some r := by rw [if_pos rfl] at H; exact H
                              clear H
                              have H := H1
                              clear H1
                              replace H := Option.bind_eq_some_iff.mp H
                              obtain ⟨t244, A300, H⟩ := H
                              replace H : (some (t244 == 0)) = some r := H
                              have A30 := Aside0.mk A300
                              clear A300
                              obtain rfl := Option.some.inj H
                              go_wp2_with (first | ((with_reducible refine gate_callee (f := 10) rfl ?_); refine goesL_ (some 34) rfl rfl Try.func10 (by kernel_rfl) rfl #[.slice A0 l0.length c0] rfl (by (try simp only [List.map_toArray, List.map_cons, List.map_nil]); first | done | rfl | (simp only [List.length_drop, List.length_take]; rfl)) ?_; (with_reducible refine (loser_Merge.calls kj3 _ _ l0 t208 t209 _ ?side1 ?side2 A10.out).mono ?_); (case side1 => repeat (first | exact (Kd.C_below HR0.out HB.out) | (with_reducible refine Kd.C_alloc ?_ _) | (with_reducible refine Kd.C_drewN ?_ _) | (with_reducible refine Kd.C_drew ?_))); (case side2 => exact HC0.out); rintro e w31 ⟨v210, rfl, ho0, hb⟩; refine ⟨_, rfl, ?_⟩; have n0_ := Aside0.mk (Kd.R_lower ho0 (below_size (by repeat (first | (with_reducible first | exact HB.out | apply below_alloc | apply pw_below_drewN | apply below_drew1) | exact HB.out)))); have n1_ := Aside0.mk (below_step (by repeat (first | (with_reducible first | exact HB.out | apply below_alloc | apply pw_below_drewN | apply below_drew1) | exact HB.out)) hb); clear HB; have HO211 := n0_; have HB := n1_; clear n0_ n1_; (try clear hb); (try clear hb2); (try clear hk); (try clear hi); (try clear ho0); have q32 : ((ji11) : Int) ≤ ((l0.length : Int) : Int) := of_decide_eq_true (by first | (with_reducible assumption) | assumption); obtain ⟨i032, hi032, _, hsz32, _⟩ := info_parts info25; have hroom32 : l0.length ≤ c0 := HC0.out; have hC32 : Kd.C (Kd.slice 37 k37) _ A0 l0.length l0 := HR0.out; have hcut32 := cut_to (P := Try.prog) 22 25 .i64 Try.underlying22 hi032 A0 l0.length c0 (ji11) (of_decide_eq_true (by first | (with_reducible assumption) | assumption)) q32 hroom32; have hr32 := Kd.C_take (m := ((ji11) : Int).toNat) hC32 (by omega); have hy32 : y212.length = ((ji11) : Int).toNat := (by rw [Ny212.out, List.length_take]; omega); rw [← Ny212.out] at hr32; rw [← hy32] at hcut32; have HR215 := Aside0.mk hr32; have HC215 := Aside0.mk (show y212.length ≤ c0 from by omega); clear hr32 hC32 hroom32 hi032 hsz32; have KY32 := Aside0.mk hy32; clear hy32; replace q32 := eq_true q32) | ((with_reducible refine gate_callee (f := 10) rfl ?_); refine goesL_ (some 41) rfl rfl Try.func10 (by kernel_rfl) rfl #[.slice A0 y212.length c0] rfl (by (try simp only [List.map_toArray, List.map_cons, List.map_nil]); first | done | rfl | (simp only [List.length_drop, List.length_take]; rfl)) ?_; (with_reducible refine (loser_Merge.calls kj3 _ _ y212 t216 t217 _ ?side1 ?side2 A14.out).mono ?_); (case side1 => repeat (first | exact (Kd.C_below HR215.out HB.out) | (with_reducible refine Kd.C_alloc ?_ _) | (with_reducible refine Kd.C_drewN ?_ _) | (with_reducible refine Kd.C_drew ?_))); (case side2 => exact HC215.out); rintro e w33 ⟨v218, rfl, ho0, hb⟩; refine ⟨_, rfl, ?_⟩; have n0_ := Aside0.mk (Kd.R_elder' (by (with_reducible repeat (first | apply Kd.R_alloc | apply Kd.R_drewN | apply Kd.R_drew)); exact HO211.out) (Kd.R_base ho0) hb); have n1_ := Aside0.mk (Kd.R_lower (Kd.R_new' ho0 (Kd.R_lt (by (with_reducible repeat (first | apply Kd.R_alloc | apply Kd.R_drewN | apply Kd.R_drew)); exact HO211.out))) (below_size (by repeat (first | (with_reducible first | exact HB.out | apply below_alloc | apply pw_below_drewN | apply below_drew1) | exact HB.out)))); have n2_ := Aside0.mk (below_step (by repeat (first | (with_reducible first | exact HB.out | apply below_alloc | apply pw_below_drewN | apply below_drew1) | exact HB.out)) hb); clear HO211; clear HB; have HO211 := n0_; have HO219 := n1_; have HB := n2_; clear n0_ n1_ n2_; (try clear hb); (try clear hb2); (try clear hk); (try clear hi); (try clear ho0); have q34 : ((ji11) : Int) ≤ ((l0.length : Int) : Int) := of_decide_eq_true (by first | (with_reducible assumption) | assumption); obtain ⟨i034, hi034, _, hsz34, _⟩ := info_parts info25; have hroom34 : l0.length ≤ c0 := HC0.out; have hC34 : Kd.C (Kd.slice 37 k37) _ A0 l0.length l0 := HR0.out; have q034 : (0 : Int) ≤ ((ji11) : Int) := of_decide_eq_true (by first | (with_reducible assumption) | assumption); have hcut34 := cut_from (P := Try.prog) 22 25 .i64 Try.underlying22 hi034 1 hsz34 A0 l0.length c0 (ji11) q034 q34; have hr34 := Kd.C_drop (m := ((ji11) : Int).toNat) (c := c0) hC34 (by omega) hroom34; obtain ⟨A34, hA34⟩ : ∃ A1, A1 = (if c0 = ((ji11) : Int).toNat then A0 else (A0 : Option Addr).map (·.add (((ji11) : Int).toNat * 1))) := ⟨_, rfl⟩; obtain ⟨c34, hc34⟩ : ∃ c1, c1 = c0 - ((ji11) : Int).toNat := ⟨_, rfl⟩; have hy34 : y220.length = l0.length - ((ji11) : Int).toNat := (by rw [Ny220.out, List.length_drop] <;> omega); rw [show (l0).drop ((ji11) : Int).toNat = y220 from Ny220.out.symm] at hr34; replace hr34 : Kd.C (Kd.slice 37 k37) _ A34 y220.length y220 := (by rw [hA34]; exact hr34); rw [← hy34, ← hA34, ← hc34] at hcut34; have HR223 := Aside0.mk hr34; have HC223 := Aside0.mk (show y220.length ≤ c34 from by rw [hy34, hc34]; exact Nat.sub_le_sub_right hroom34 _); clear hr34 hC34 hroom34 hi034 hsz34 hc34; have KY34 := Aside0.mk hy34; have KA34 := Aside0.mk hA34; clear hy34 hA34; replace q34 := eq_true q34) | ((with_reducible refine gate_callee (f := 10) rfl ?_); refine goesL_ (some 48) rfl rfl Try.func10 (by kernel_rfl) rfl #[.slice A34 y220.length c34] rfl (by (try simp only [List.map_toArray, List.map_cons, List.map_nil]); first | done | rfl | (simp only [List.length_drop, List.length_take]; rfl)) ?_; (with_reducible refine (loser_Merge.calls kj3 _ _ y220 t224 t225 _ ?side1 ?side2 A17.out).mono ?_); (case side1 => repeat (first | exact (Kd.C_below HR223.out HB.out) | (with_reducible refine Kd.C_alloc ?_ _) | (with_reducible refine Kd.C_drewN ?_ _) | (with_reducible refine Kd.C_drew ?_))); (case side2 => exact HC223.out); rintro e w35 ⟨v226, rfl, ho0, hb⟩; refine ⟨_, rfl, ?_⟩; have n0_ := Aside0.mk (Kd.R_elder' (by (with_reducible repeat (first | apply Kd.R_alloc | apply Kd.R_drewN | apply Kd.R_drew)); exact HO211.out) (Kd.R_base ho0) hb); have n1_ := Aside0.mk (Kd.R_elder' (by (with_reducible repeat (first | apply Kd.R_alloc | apply Kd.R_drewN | apply Kd.R_drew)); exact HO219.out) (Kd.R_base ho0) hb); have n2_ := Aside0.mk (Kd.R_lower (Kd.R_new' (Kd.R_new' ho0 (Kd.R_lt (by (with_reducible repeat (first | apply Kd.R_alloc | apply Kd.R_drewN | apply Kd.R_drew)); exact HO211.out))) (Kd.R_lt (by (with_reducible repeat (first | apply Kd.R_alloc | apply Kd.R_drewN | apply Kd.R_drew)); exact HO219.out))) (below_size (by repeat (first | (with_reducible first | exact HB.out | apply below_alloc | apply pw_below_drewN | apply below_drew1) | exact HB.out)))); have n3_ := Aside0.mk (below_step (by repeat (first | (with_reducible first | exact HB.out | apply below_alloc | apply pw_below_drewN | apply below_drew1) | exact HB.out)) hb); clear HO211; clear HO219; clear HB; have HO211 := n0_; have HO219 := n1_; have HO227 := n2_; have HB := n3_; clear n0_ n1_ n2_ n3_; (try clear hb); (try clear hb2); (try clear hk); (try clear hi); (try clear ho0); obtain ⟨Ao36, co36, eo36⟩ := Kd.R_slice HO219.out; subst eo36; obtain ⟨Ao37, co37, eo37⟩ := Kd.R_slice HO227.out; subst eo37) | ((with_reducible refine gate_dst (N := 62) rfl ?_); (try (refine gate_guard (by rfl) ?_; dsimp only)); refine Kd.N_lit (Kd.slice 37 k37) _ 25 ?hg (N' := 62) ?hd (xs := ([t216, [], t224] : List (List (S37)))) (inner := [.slice Ao36 t216.length co36, .slice none 0 0, .slice Ao37 t224.length co37]) (ok := (fun k_ => some k_ ≠ (v210 : Value).ownBlock)) (okp := (fun k_ => some k_ ≠ (v210 : Value).ownBlock)) ?hr ?hp (fun _ hk => hk) ((show ∀ k_, w35.heap.size ≤ k_ → (fun k_ => some k_ ≠ (v210 : Value).ownBlock) k_ from fun k_ hk => Kd.fresh' (Kd.R_lt (by (with_reducible repeat (first | apply Kd.R_alloc | apply Kd.R_drewN | apply Kd.R_drew)); exact HO211.out)) k_ hk) _ (Nat.le_refl _)) (Below.refl _ _) (Nat.le_refl _) (by simp) ?_; (case hd => rfl); (case hg => rfl); (case hr => first | (go_simp; done) | (go_simp; rfl)); (case hp => exact (Reps.one (show Kd.FK (Kd.slice 37 k37) _ _ t216 [.slice Ao36 t216.length co36] from (Kd.FK_slice_mk (Kd.R_reads' (Kd.R_mono (ok' := (fun k_ => some k_ ≠ (v210 : Value).ownBlock)) (HO219.out) (fun k_ hk => hk.1.2))).2.1 (Kd.R_F (Kd.R_mono (ok' := (fun k_ => some k_ ≠ (v210 : Value).ownBlock)) (HO219.out) (fun k_ hk => hk.1.2))))) (Reps.one (show Kd.FK (Kd.slice 37 k37) _ _ [] [.slice none 0 0] from (Kd.FK_slice_mk (Nat.le_refl _) (Kd.F_nil _ _ _))) (Reps.one (show Kd.FK (Kd.slice 37 k37) _ _ t224 [.slice Ao37 t224.length co37] from (Kd.FK_slice_mk (Kd.R_reads' (Kd.R_mono (ok' := (fun k_ => some k_ ≠ (v210 : Value).ownBlock)) (HO227.out) (fun k_ hk => hk.1.2))).2.1 (Kd.R_F (Kd.R_mono (ok' := (fun k_ => some k_ ≠ (v210 : Value).ownBlock)) (HO227.out) (fun k_ hk => hk.1.2))))) (Reps.none _ _))))); intro v229 w38 ho39 hb hg_ hnew_; clear hg_ hnew_; (first | rw [← Ny228.out] at ho39 | (simp only [Int.reduceToNat] at ho39; rw [← Ny228.out] at ho39)); have n0_ := Aside0.mk (Kd.R_below (by (with_reducible repeat (first | apply Kd.R_alloc | apply Kd.R_drewN | apply Kd.R_drew)); exact HO211.out) hb); have n1_ := Aside0.mk (Kd.N_lower ho39 (below_size (by repeat (first | (with_reducible first | exact HB.out | apply below_alloc | apply pw_below_drewN | apply below_drew1) | exact HB.out)))); have n2_ := Aside0.mk (below_step (by repeat (first | (with_reducible first | exact HB.out | apply below_alloc | apply pw_below_drewN | apply below_drew1) | exact HB.out)) hb); clear HO211; clear HB; clear HO219; clear HO227; have HO211 := n0_; have HO230 := n1_; have HB := n2_; clear n0_ n1_ n2_; clear hb ho39; obtain ⟨Ao40, co40, eo40⟩ := Kd.N_slice HO230.out; subst eo40) | ((with_reducible refine gate_callee (f := 10) rfl ?_); refine goesL_ (some 63) rfl rfl Try.func10 (by kernel_rfl) rfl #[.slice Ao40 y228.length co40] rfl (by (try simp only [List.map_toArray, List.map_cons, List.map_nil]); first | done | rfl | (simp only [List.length_drop, List.length_take]; rfl)) ?_; (with_reducible refine (loser_Merge.calls kj3 _ _ y228 t231 t232 _ ?side1 ?side2 A19.out).mono ?_); (case side1 => repeat (first | exact (Kd.N_reads' HO230.out).2.2 | (with_reducible refine Kd.C_alloc ?_ _) | (with_reducible refine Kd.C_drewN ?_ _) | (with_reducible refine Kd.C_drew ?_))); (case side2 => exact (Kd.N_reads' HO230.out).2.1); rintro e w41 ⟨v233, rfl, ho0, hb⟩; refine ⟨_, rfl, ?_⟩; have n0_ := Aside0.mk (Kd.R_elder' (by (with_reducible repeat (first | apply Kd.R_alloc | apply Kd.R_drewN | apply Kd.R_drew)); exact HO211.out) (Kd.R_base ho0) hb); have n1_ := Aside0.mk (Kd.N_elder' (by (with_reducible repeat (first | apply Kd.N_alloc | apply Kd.N_drewN | apply Kd.N_drew)); exact HO230.out) (Kd.R_base ho0) hb); have n2_ := Aside0.mk (Kd.R_lower (Kd.R_new' ho0 (Kd.R_lt (by (with_reducible repeat (first | apply Kd.R_alloc | apply Kd.R_drewN | apply Kd.R_drew)); exact HO211.out))) (below_size (by repeat (first | (with_reducible first | exact HB.out | apply below_alloc | apply pw_below_drewN | apply below_drew1) | exact HB.out)))); have n3_ := Aside0.mk (below_step (by repeat (first | (with_reducible first | exact HB.out | apply below_alloc | apply pw_below_drewN | apply below_drew1) | exact HB.out)) hb); clear HO211; clear HO230; clear HB; have HO211 := n0_; have HO230 := n1_; have HO234 := n2_; have HB := n3_; clear n0_ n1_ n2_ n3_; (try clear hb); (try clear hb2); (try clear hk); (try clear hi); (try clear ho0); obtain ⟨Ao42, co42, eo42⟩ := Kd.R_slice HO211.out; subst eo42) | ((with_reducible refine gate_dst (N := 68) rfl ?_); (try (refine gate_guard (by rfl) ?_; dsimp only)); refine Kd.N_lit (Kd.slice 37 k37) _ 25 ?hg (N' := 68) ?hd (xs := ([[], t208] : List (List (S37)))) (inner := [.slice none 0 0, .slice Ao42 t208.length co42]) (ok := (fun k_ => some k_ ≠ (.slice Ao40 y228.length co40 : Value).ownBlock ∧ some k_ ≠ (v233 : Value).ownBlock)) (okp := (fun k_ => some k_ ≠ (.slice Ao40 y228.length co40 : Value).ownBlock ∧ some k_ ≠ (v233 : Value).ownBlock)) ?hr ?hp (fun _ hk => hk) ((show ∀ k_, w41.heap.size ≤ k_ → (fun k_ => some k_ ≠ (.slice Ao40 y228.length co40 : Value).ownBlock ∧ some k_ ≠ (v233 : Value).ownBlock) k_ from fun k_ hk => ⟨Kd.fresh' (Kd.N_lt (by (with_reducible repeat (first | apply Kd.N_alloc | apply Kd.N_drewN | apply Kd.N_drew)); exact HO230.out)) k_ hk, Kd.fresh' (Kd.R_lt (by (with_reducible repeat (first | apply Kd.R_alloc | apply Kd.R_drewN | apply Kd.R_drew)); exact HO234.out)) k_ hk⟩) _ (Nat.le_refl _)) (Below.refl _ _) (Nat.le_refl _) (by simp) ?_; (case hd => rfl); (case hg => rfl); (case hr => first | (go_simp; done) | (go_simp; rfl)); (case hp => exact (Reps.one (show Kd.FK (Kd.slice 37 k37) _ _ [] [.slice none 0 0] from (Kd.FK_slice_mk (Nat.le_refl _) (Kd.F_nil _ _ _))) (Reps.one (show Kd.FK (Kd.slice 37 k37) _ _ t208 [.slice Ao42 t208.length co42] from (Kd.FK_slice_mk (Kd.R_reads' (Kd.R_mono (ok' := (fun k_ => some k_ ≠ (.slice Ao40 y228.length co40 : Value).ownBlock ∧ some k_ ≠ (v233 : Value).ownBlock)) (Kd.R_apart' (HO211.out) (Kd.N_typed HO230.out) (by decide)) (fun k_ hk => ⟨hk.2, hk.1.2⟩))).2.1 (Kd.R_F (Kd.R_mono (ok' := (fun k_ => some k_ ≠ (.slice Ao40 y228.length co40 : Value).ownBlock ∧ some k_ ≠ (v233 : Value).ownBlock)) (Kd.R_apart' (HO211.out) (Kd.N_typed HO230.out) (by decide)) (fun k_ hk => ⟨hk.2, hk.1.2⟩))))) (Reps.none _ _)))); intro v236 w43 ho44 hb hg_ hnew_; clear hg_ hnew_; (first | rw [← Ny235.out] at ho44 | (simp only [Int.reduceToNat] at ho44; rw [← Ny235.out] at ho44)); have nk_ := Aside0.mk (Kd.R_below (by (with_reducible repeat (first | apply Kd.R_alloc | apply Kd.R_drewN | apply Kd.R_drew)); exact HO211.out) hb); have n0_ := Aside0.mk (Kd.N_elder' (by (with_reducible repeat (first | apply Kd.N_alloc | apply Kd.N_drewN | apply Kd.N_drew)); exact HO230.out) (Kd.N_base ho44) hb); have n1_ := Aside0.mk (Kd.R_below (by (with_reducible repeat (first | apply Kd.R_alloc | apply Kd.R_drewN | apply Kd.R_drew)); exact HO234.out) hb); have n2_ := Aside0.mk (Kd.N_lower ho44 (below_size (by repeat (first | (with_reducible first | exact HB.out | apply below_alloc | apply pw_below_drewN | apply below_drew1) | exact HB.out)))); have n3_ := Aside0.mk (below_step (by repeat (first | (with_reducible first | exact HB.out | apply below_alloc | apply pw_below_drewN | apply below_drew1) | exact HB.out)) hb); clear HO230; clear HO234; clear HB; clear HO211 ; have HO211 := nk_; clear nk_; have HO230 := n0_; have HO234 := n1_; have HO237 := n2_; have HB := n3_; clear n0_ n1_ n2_ n3_; clear hb ho44; obtain ⟨Ao45, co45, eo45⟩ := Kd.N_slice HO237.out; subst eo45) | ((with_reducible refine gate_callee (f := 10) rfl ?_); refine goesL_ (some 69) rfl rfl Try.func10 (by kernel_rfl) rfl #[.slice Ao45 y235.length co45] rfl (by (try simp only [List.map_toArray, List.map_cons, List.map_nil]); first | done | rfl | (simp only [List.length_drop, List.length_take]; rfl)) ?_; (with_reducible refine (loser_Merge.calls kj3 _ _ y235 t238 t239 _ ?side1 ?side2 A20.out).mono ?_); (case side1 => repeat (first | exact (Kd.N_reads' HO237.out).2.2 | (with_reducible refine Kd.C_alloc ?_ _) | (with_reducible refine Kd.C_drewN ?_ _) | (with_reducible refine Kd.C_drew ?_))); (case side2 => exact (Kd.N_reads' HO237.out).2.1); rintro e w46 ⟨v240, rfl, ho0, hb⟩; refine ⟨_, rfl, ?_⟩; have nk_ := Aside0.mk (Kd.R_below (by (with_reducible repeat (first | apply Kd.R_alloc | apply Kd.R_drewN | apply Kd.R_drew)); exact HO211.out) hb); have n0_ := Aside0.mk (Kd.N_elder' (by (with_reducible repeat (first | apply Kd.N_alloc | apply Kd.N_drewN | apply Kd.N_drew)); exact HO230.out) (Kd.R_base ho0) hb); have n1_ := Aside0.mk (Kd.R_elder' (by (with_reducible repeat (first | apply Kd.R_alloc | apply Kd.R_drewN | apply Kd.R_drew)); exact HO234.out) (Kd.R_base ho0) hb); have n2_ := Aside0.mk (Kd.N_elder' (by (with_reducible repeat (first | apply Kd.N_alloc | apply Kd.N_drewN | apply Kd.N_drew)); exact HO237.out) (Kd.R_base ho0) hb); have n3_ := Aside0.mk (Kd.R_lower (Kd.R_new' ho0 (Kd.R_lt (by (with_reducible repeat (first | apply Kd.R_alloc | apply Kd.R_drewN | apply Kd.R_drew)); exact HO234.out))) (below_size (by repeat (first | (with_reducible first | exact HB.out | apply below_alloc | apply pw_below_drewN | apply below_drew1) | exact HB.out)))); have n4_ := Aside0.mk (below_step (by repeat (first | (with_reducible first | exact HB.out | apply below_alloc | apply pw_below_drewN | apply below_drew1) | exact HB.out)) hb); clear HO230; clear HO234; clear HO237; clear HB; clear HO211; have HO211 := nk_; clear nk_; have HO230 := n0_; have HO234 := n1_; have HO237 := n2_; have HO241 := n3_; have HB := n4_; clear n0_ n1_ n2_ n3_ n4_; (try clear hb); (try clear hb2); (try clear hk); (try clear hi); (try clear ho0); obtain ⟨Ao47, co47, eo47⟩ := Kd.R_slice HO234.out; subst eo47) | (go_at_call 12; (with_reducible refine (manteletref08_Same.calls kj3 _ _ t231 _ _ t208 true _ ?side1 ?side2 ?side3 ?side4 A26.out).mono ?_); (case side1 => repeat (first | exact (Kd.R_reads' HO234.out).2.2 | (with_reducible refine Kd.C_alloc ?_ _) | (with_reducible refine Kd.C_drewN ?_ _) | (with_reducible refine Kd.C_drew ?_))); (case side2 => exact (Kd.R_reads' HO234.out).2.1); (case side3 => repeat (first | exact (Kd.R_reads' HO211.out).2.2 | (with_reducible refine Kd.C_alloc ?_ _) | (with_reducible refine Kd.C_drewN ?_ _) | (with_reducible refine Kd.C_drew ?_))); (case side4 => exact (Kd.R_reads' HO211.out).2.1); rintro e w' ⟨rfl, ⟨nd, rfl⟩⟩; obtain ⟨Ao48, co48, eo48⟩ := Kd.R_slice HO241.out; subst eo48) | (go_at_call 12; (with_reducible refine (manteletref08_Same.calls kj3 _ _ t238 _ _ t208 true _ ?side1 ?side2 ?side3 ?side4 A28.out).mono ?_); (case side1 => repeat (first | exact (Kd.R_reads' HO241.out).2.2 | (with_reducible refine Kd.C_alloc ?_ _) | (with_reducible refine Kd.C_drewN ?_ _) | (with_reducible refine Kd.C_drew ?_))); (case side2 => exact (Kd.R_reads' HO241.out).2.1); (case side3 => repeat (first | exact (Kd.R_reads' HO211.out).2.2 | (with_reducible refine Kd.C_alloc ?_ _) | (with_reducible refine Kd.C_drewN ?_ _) | (with_reducible refine Kd.C_drew ?_))); (case side4 => exact (Kd.R_reads' HO211.out).2.1); rintro e w' ⟨rfl, ⟨nd, rfl⟩⟩) | (go_at_call 13; (with_reducible refine (run_May.calls kj3 _ _ t208 t244 _ ?side1 ?side2 A30.out).mono ?_); (case side1 => repeat (first | exact (Kd.R_reads' HO211.out).2.2 | (with_reducible refine Kd.C_alloc ?_ _) | (with_reducible refine Kd.C_drewN ?_ _) | (with_reducible refine Kd.C_drew ?_))); (case side2 => exact (Kd.R_reads' HO211.out).2.1); rintro e w49 ⟨rfl, hb⟩; have nk_ := Aside0.mk (Kd.R_below (by (with_reducible repeat (first | apply Kd.R_alloc | apply Kd.R_drewN | apply Kd.R_drew)); exact HO211.out) hb); have n0_ := Aside0.mk (Kd.N_below (by (with_reducible repeat (first | apply Kd.N_alloc | apply Kd.N_drewN | apply Kd.N_drew)); exact HO230.out) hb); have n1_ := Aside0.mk (Kd.R_below (by (with_reducible repeat (first | apply Kd.R_alloc | apply Kd.R_drewN | apply Kd.R_drew)); exact HO234.out) hb); have n2_ := Aside0.mk (Kd.N_below (by (with_reducible repeat (first | apply Kd.N_alloc | apply Kd.N_drewN | apply Kd.N_drew)); exact HO237.out) hb); have n3_ := Aside0.mk (Kd.R_below (by (with_reducible repeat (first | apply Kd.R_alloc | apply Kd.R_drewN | apply Kd.R_drew)); exact HO241.out) hb); have n4_ := Aside0.mk (below_step (by repeat (first | (with_reducible first | exact HB.out | apply below_alloc | apply pw_below_drewN | apply below_drew1) | exact HB.out)) hb); clear HO230; clear HO234; clear HO237; clear HO241; clear HB; clear HO211; have HO211 := nk_; clear nk_; have HO230 := n0_; have HO234 := n1_; have HO237 := n2_; have HO241 := n3_; have HB := n4_; clear n0_ n1_ n2_ n3_ n4_; (try clear hb); (try clear hb2); (try clear hk); (try clear hi)))
                              go_ret
                              exact ⟨by first | rfl | (simp [errW_none, errW_some] <;> rfl) | (simp only [← hji11]; first | rfl | (simp [errW_none, errW_some] <;> rfl)) | (simp [*, errW_none, errW_some] <;> rfl), by repeat (first | (with_reducible first | exact HB.out | apply below_alloc | apply pw_below_drewN | apply below_drew1) | exact HB.out)⟩
                            · replace c29 := Bool.eq_false_iff.mpr c29
                              subst c29
                              have H1 : (none) = some r := by rw [if_neg (show ¬ (false = true) by decide)] at H; exact H
                              clear H
                              have H := H1
                              clear H1
                              exact absurd H (by simp)
                          · replace c27 := Bool.eq_false_iff.mpr c27
                            subst c27
                            have H1 : (none) = some r := by rw [if_neg (show ¬ (false = true) by decide)] at H; exact H
                            clear H
                            have H := H1
                            clear H1
                            exact absurd H (by simp)
                        · rw [if_neg c25] at H
                          exact absurd H (by simp)
                      · rw [if_neg c24] at H
                        exact absurd H (by simp)
                    · rw [if_neg c23] at H
                      exact absurd H (by simp)
                  · rw [if_neg c22] at H
                    exact absurd H (by simp)
                · replace c21 := Bool.eq_false_iff.mpr c21
                  subst c21
                  have H1 : (none) = some r := by rw [if_neg (show ¬ (false = true) by decide)] at H; exact H
                  clear H
                  have H := H1
                  clear H1
                  exact absurd H (by simp)
              · rw [if_neg c18] at H
                have c18b0 : (t209 == 0) = false := beq_eq_false_iff_ne.mpr c18
                have c18b1 : (t209 != 0) = true := bne_iff_ne.mpr c18
                by_cases c50 : t206 = true
                · subst c50
                  have H1 : (some ((t208.length : Int) == 0)) = some r := by rw [if_pos rfl] at H; exact H
                  clear H
                  have H := H1
                  clear H1
                  obtain rfl := Option.some.inj H
                  go_wp2_with (first | ((with_reducible refine gate_callee (f := 10) rfl ?_); refine goesL_ (some 34) rfl rfl Try.func10 (by kernel_rfl) rfl #[.slice A0 l0.length c0] rfl (by (try simp only [List.map_toArray, List.map_cons, List.map_nil]); first | done | rfl | (simp only [List.length_drop, List.length_take]; rfl)) ?_; (with_reducible refine (loser_Merge.calls kj3 _ _ l0 t208 t209 _ ?side1 ?side2 A10.out).mono ?_); (case side1 => repeat (first | exact (Kd.C_below HR0.out HB.out) | (with_reducible refine Kd.C_alloc ?_ _) | (with_reducible refine Kd.C_drewN ?_ _) | (with_reducible refine Kd.C_drew ?_))); (case side2 => exact HC0.out); rintro e w51 ⟨v210, rfl, ho0, hb⟩; refine ⟨_, rfl, ?_⟩; have n0_ := Aside0.mk (Kd.R_lower ho0 (below_size (by repeat (first | (with_reducible first | exact HB.out | apply below_alloc | apply pw_below_drewN | apply below_drew1) | exact HB.out)))); have n1_ := Aside0.mk (below_step (by repeat (first | (with_reducible first | exact HB.out | apply below_alloc | apply pw_below_drewN | apply below_drew1) | exact HB.out)) hb); clear HB; have HO211 := n0_; have HB := n1_; clear n0_ n1_; (try clear hb); (try clear hb2); (try clear hk); (try clear hi); (try clear ho0); have q52 : ((ji11) : Int) ≤ ((l0.length : Int) : Int) := of_decide_eq_true (by first | (with_reducible assumption) | assumption); obtain ⟨i052, hi052, _, hsz52, _⟩ := info_parts info25; have hroom52 : l0.length ≤ c0 := HC0.out; have hC52 : Kd.C (Kd.slice 37 k37) _ A0 l0.length l0 := HR0.out; have hcut52 := cut_to (P := Try.prog) 22 25 .i64 Try.underlying22 hi052 A0 l0.length c0 (ji11) (of_decide_eq_true (by first | (with_reducible assumption) | assumption)) q52 hroom52; have hr52 := Kd.C_take (m := ((ji11) : Int).toNat) hC52 (by omega); have hy52 : y212.length = ((ji11) : Int).toNat := (by rw [Ny212.out, List.length_take]; omega); rw [← Ny212.out] at hr52; rw [← hy52] at hcut52; have HR215 := Aside0.mk hr52; have HC215 := Aside0.mk (show y212.length ≤ c0 from by omega); clear hr52 hC52 hroom52 hi052 hsz52; have KY52 := Aside0.mk hy52; clear hy52; replace q52 := eq_true q52) | ((with_reducible refine gate_callee (f := 10) rfl ?_); refine goesL_ (some 41) rfl rfl Try.func10 (by kernel_rfl) rfl #[.slice A0 y212.length c0] rfl (by (try simp only [List.map_toArray, List.map_cons, List.map_nil]); first | done | rfl | (simp only [List.length_drop, List.length_take]; rfl)) ?_; (with_reducible refine (loser_Merge.calls kj3 _ _ y212 t216 t217 _ ?side1 ?side2 A14.out).mono ?_); (case side1 => repeat (first | exact (Kd.C_below HR215.out HB.out) | (with_reducible refine Kd.C_alloc ?_ _) | (with_reducible refine Kd.C_drewN ?_ _) | (with_reducible refine Kd.C_drew ?_))); (case side2 => exact HC215.out); rintro e w53 ⟨v218, rfl, ho0, hb⟩; refine ⟨_, rfl, ?_⟩; have n0_ := Aside0.mk (Kd.R_elder' (by (with_reducible repeat (first | apply Kd.R_alloc | apply Kd.R_drewN | apply Kd.R_drew)); exact HO211.out) (Kd.R_base ho0) hb); have n1_ := Aside0.mk (Kd.R_lower (Kd.R_new' ho0 (Kd.R_lt (by (with_reducible repeat (first | apply Kd.R_alloc | apply Kd.R_drewN | apply Kd.R_drew)); exact HO211.out))) (below_size (by repeat (first | (with_reducible first | exact HB.out | apply below_alloc | apply pw_below_drewN | apply below_drew1) | exact HB.out)))); have n2_ := Aside0.mk (below_step (by repeat (first | (with_reducible first | exact HB.out | apply below_alloc | apply pw_below_drewN | apply below_drew1) | exact HB.out)) hb); clear HO211; clear HB; have HO211 := n0_; have HO219 := n1_; have HB := n2_; clear n0_ n1_ n2_; (try clear hb); (try clear hb2); (try clear hk); (try clear hi); (try clear ho0); have q54 : ((ji11) : Int) ≤ ((l0.length : Int) : Int) := of_decide_eq_true (by first | (with_reducible assumption) | assumption); obtain ⟨i054, hi054, _, hsz54, _⟩ := info_parts info25; have hroom54 : l0.length ≤ c0 := HC0.out; have hC54 : Kd.C (Kd.slice 37 k37) _ A0 l0.length l0 := HR0.out; have q054 : (0 : Int) ≤ ((ji11) : Int) := of_decide_eq_true (by first | (with_reducible assumption) | assumption); have hcut54 := cut_from (P := Try.prog) 22 25 .i64 Try.underlying22 hi054 1 hsz54 A0 l0.length c0 (ji11) q054 q54; have hr54 := Kd.C_drop (m := ((ji11) : Int).toNat) (c := c0) hC54 (by omega) hroom54; obtain ⟨A54, hA54⟩ : ∃ A1, A1 = (if c0 = ((ji11) : Int).toNat then A0 else (A0 : Option Addr).map (·.add (((ji11) : Int).toNat * 1))) := ⟨_, rfl⟩; obtain ⟨c54, hc54⟩ : ∃ c1, c1 = c0 - ((ji11) : Int).toNat := ⟨_, rfl⟩; have hy54 : y220.length = l0.length - ((ji11) : Int).toNat := (by rw [Ny220.out, List.length_drop] <;> omega); rw [show (l0).drop ((ji11) : Int).toNat = y220 from Ny220.out.symm] at hr54; replace hr54 : Kd.C (Kd.slice 37 k37) _ A54 y220.length y220 := (by rw [hA54]; exact hr54); rw [← hy54, ← hA54, ← hc54] at hcut54; have HR223 := Aside0.mk hr54; have HC223 := Aside0.mk (show y220.length ≤ c54 from by rw [hy54, hc54]; exact Nat.sub_le_sub_right hroom54 _); clear hr54 hC54 hroom54 hi054 hsz54 hc54; have KY54 := Aside0.mk hy54; have KA54 := Aside0.mk hA54; clear hy54 hA54; replace q54 := eq_true q54) | ((with_reducible refine gate_callee (f := 10) rfl ?_); refine goesL_ (some 48) rfl rfl Try.func10 (by kernel_rfl) rfl #[.slice A54 y220.length c54] rfl (by (try simp only [List.map_toArray, List.map_cons, List.map_nil]); first | done | rfl | (simp only [List.length_drop, List.length_take]; rfl)) ?_; (with_reducible refine (loser_Merge.calls kj3 _ _ y220 t224 t225 _ ?side1 ?side2 A17.out).mono ?_); (case side1 => repeat (first | exact (Kd.C_below HR223.out HB.out) | (with_reducible refine Kd.C_alloc ?_ _) | (with_reducible refine Kd.C_drewN ?_ _) | (with_reducible refine Kd.C_drew ?_))); (case side2 => exact HC223.out); rintro e w55 ⟨v226, rfl, ho0, hb⟩; refine ⟨_, rfl, ?_⟩; have n0_ := Aside0.mk (Kd.R_elder' (by (with_reducible repeat (first | apply Kd.R_alloc | apply Kd.R_drewN | apply Kd.R_drew)); exact HO211.out) (Kd.R_base ho0) hb); have n1_ := Aside0.mk (Kd.R_elder' (by (with_reducible repeat (first | apply Kd.R_alloc | apply Kd.R_drewN | apply Kd.R_drew)); exact HO219.out) (Kd.R_base ho0) hb); have n2_ := Aside0.mk (Kd.R_lower (Kd.R_new' (Kd.R_new' ho0 (Kd.R_lt (by (with_reducible repeat (first | apply Kd.R_alloc | apply Kd.R_drewN | apply Kd.R_drew)); exact HO211.out))) (Kd.R_lt (by (with_reducible repeat (first | apply Kd.R_alloc | apply Kd.R_drewN | apply Kd.R_drew)); exact HO219.out))) (below_size (by repeat (first | (with_reducible first | exact HB.out | apply below_alloc | apply pw_below_drewN | apply below_drew1) | exact HB.out)))); have n3_ := Aside0.mk (below_step (by repeat (first | (with_reducible first | exact HB.out | apply below_alloc | apply pw_below_drewN | apply below_drew1) | exact HB.out)) hb); clear HO211; clear HO219; clear HB; have HO211 := n0_; have HO219 := n1_; have HO227 := n2_; have HB := n3_; clear n0_ n1_ n2_ n3_; (try clear hb); (try clear hb2); (try clear hk); (try clear hi); (try clear ho0); obtain ⟨Ao56, co56, eo56⟩ := Kd.R_slice HO211.out; subst eo56))
                  go_ret
                  exact ⟨by first | rfl | (simp [errW_none, errW_some] <;> rfl) | (simp only [← hji11]; first | rfl | (simp [errW_none, errW_some] <;> rfl)) | (simp [*, errW_none, errW_some] <;> rfl), by repeat (first | (with_reducible first | exact HB.out | apply below_alloc | apply pw_below_drewN | apply below_drew1) | exact HB.out)⟩
                · replace c50 := Bool.eq_false_iff.mpr c50
                  subst c50
                  have H1 : (none) = some r := by rw [if_neg (show ¬ (false = true) by decide)] at H; exact H
                  clear H
                  have H := H1
                  clear H1
                  exact absurd H (by simp)
            · rw [if_neg c13] at H
              exact absurd H (by simp)
          · rw [if_neg c12] at H
            exact absurd H (by simp)

end Go.Proofs.Ytlngljddjlmkfaa.PLoser
