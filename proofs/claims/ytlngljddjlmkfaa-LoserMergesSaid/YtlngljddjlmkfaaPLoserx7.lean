/- Contracts of Go functions: called with what reads as these lists and numbers, a function returns what its plain Lean function says, and leaves what was there. Written by a program of this session. -/
import Derived.Test.YtlngljddjlmkfaaPLoserx0
import Derived.Test.YtlngljddjlmkfaaPLoserx2
import Derived.Test.YtlngljddjlmkfaaPLoserx3
import Derived.Test.YtlngljddjlmkfaaPLoserx4
import Derived.Test.YtlngljddjlmkfaaPLoserx6
namespace Go.Proofs.Ytlngljddjlmkfaa.PLoser
open Go.RowKit Go.Proofs.YtlngljddjlmkfaaW.PrintWords Go.Proofs.YtlngljddjlmkfaaW.PrintLast Go.Proofs.YtlngljddjlmkfaaW.PrintMore
attribute [local go_sem] max2_int min2_int max_two min_two max_three min_three max_four min_four   -- for this text's walks alone
attribute [local go_sem] Go.Proofs.Ytlngljddjlmkfaa.MoreWords.str_leq Go.Proofs.Ytlngljddjlmkfaa.MoreWords.str_gtr Go.Proofs.Ytlngljddjlmkfaa.MoreWords.str_geq
set_option linter.unusedVariables false
set_option linter.unusedSimpArgs false

/-! ### manteletlaw11_LoserMerges: function 3 -/
def manteletlaw11_LoserMerges.f (k : Nat) (l0 : List (List (S37))) : Option (Bool) := (manteletlaw11_shown.f k).bind fun t184 => ((manteletlaw11_few.f k l0).bind fun t185 => (if t185 = true then ((loser_Merge.f k l0).bind fun bt186 => ((manteletref11_Merge.f k l0).bind fun bt190 => (if t184 = true then ((manteletref08_Same.f k bt186.1 bt190.1).bind fun t194 => (if t194 = true then (some (bt186.2 == bt190.2)) else (none))) else (none)))) else (some t184)))
theorem manteletlaw11_LoserMerges.mono : ∀ a0 k, LeO (manteletlaw11_LoserMerges.f k a0) (manteletlaw11_LoserMerges.f (k + 1) a0) := by
  intro a0 k
  unfold manteletlaw11_LoserMerges.f
  repeat' first
      | (with_reducible exact loser_Merge.mono _ _)
      | (with_reducible exact manteletlaw11_few.mono _ _)
      | (with_reducible exact manteletlaw11_shown.mono _)
      | (with_reducible exact manteletref08_Same.mono _ _ _)
      | (with_reducible exact manteletref11_Merge.mono _ _)
      | (with_reducible exact LeO.refl _)
      | (with_reducible exact LeO.none _)
      | (with_reducible refine LeO.ite ?_ ?_)
      | (with_reducible refine LeO.bind ?_ (fun _ => ?_))
      | exact loser_Merge.mono _ _
      | exact manteletlaw11_few.mono _ _
      | exact manteletlaw11_shown.mono _
      | exact manteletref08_Same.mono _ _ _
      | exact manteletref11_Merge.mono _ _
      | exact LeO.none _
      | refine LeO.ite ?_ ?_
      | refine LeO.bind ?_ (fun _ => ?_)
set_option maxHeartbeats 8000000 in
set_option maxRecDepth 100000 in
theorem manteletlaw11_LoserMerges.calls (k : Nat) (A0 : Option Addr) (c0 : Nat) (l0 : List (List (S37))) (r : Bool) (w : World) (hr0 : Kd.C (Kd.slice 37 k37) w A0 l0.length l0) (hc0 : l0.length ≤ c0) (h : manteletlaw11_LoserMerges.f k l0 = some r) :
    Calls Try.prog 3 #[.slice A0 l0.length c0] w fun e w' => e = .returned (.bool r) ∧ Below w.heap.size w w' := by
  have HR0 := Aside0.mk hr0
  have HC0 := Aside0.mk hc0
  clear hr0 hc0
  have HB := Aside0.mk (Below.refl w.heap.size w)
  have H : ((manteletlaw11_shown.f k).bind fun t184 => ((manteletlaw11_few.f k l0).bind fun t185 => (if t185 = true then ((loser_Merge.f k l0).bind fun bt186 => ((manteletref11_Merge.f k l0).bind fun bt190 => (if t184 = true then ((manteletref08_Same.f k bt186.1 bt190.1).bind fun t194 => (if t194 = true then (some (bt186.2 == bt190.2)) else (none))) else (none)))) else (some t184)))) = some r := h
  clear h
  replace H := Option.bind_eq_some_iff.mp H
  obtain ⟨t184, A20, H⟩ := H
  replace H : ((manteletlaw11_few.f k l0).bind fun t185 => (if t185 = true then ((loser_Merge.f k l0).bind fun bt186 => ((manteletref11_Merge.f k l0).bind fun bt190 => (if t184 = true then ((manteletref08_Same.f k bt186.1 bt190.1).bind fun t194 => (if t194 = true then (some (bt186.2 == bt190.2)) else (none))) else (none)))) else (some t184))) = some r := H
  have A2 := Aside0.mk A20
  clear A20
  replace H := Option.bind_eq_some_iff.mp H
  obtain ⟨t185, A30, H⟩ := H
  replace H : (if t185 = true then ((loser_Merge.f k l0).bind fun bt186 => ((manteletref11_Merge.f k l0).bind fun bt190 => (if t184 = true then ((manteletref08_Same.f k bt186.1 bt190.1).bind fun t194 => (if t194 = true then (some (bt186.2 == bt190.2)) else (none))) else (none)))) else (some t184)) = some r := H
  have A3 := Aside0.mk A30
  clear A30
  by_cases c4 : t185 = true
  · subst c4
    have H1 : ((loser_Merge.f k l0).bind fun bt186 => ((manteletref11_Merge.f k l0).bind fun bt190 => (if t184 = true then ((manteletref08_Same.f k bt186.1 bt190.1).bind fun t194 => (if t194 = true then (some (bt186.2 == bt190.2)) else (none))) else (none)))) = some r := by rw [if_pos rfl] at H; exact H
    clear H
    have H := H1
    clear H1
    replace H := Option.bind_eq_some_iff.mp H
    obtain ⟨⟨t186, t187⟩, A50, H⟩ := H
    replace H : ((manteletref11_Merge.f k l0).bind fun bt190 => (if t184 = true then ((manteletref08_Same.f k t186 bt190.1).bind fun t194 => (if t194 = true then (some (t187 == bt190.2)) else (none))) else (none))) = some r := H
    have A5 := Aside0.mk A50
    clear A50
    replace H := Option.bind_eq_some_iff.mp H
    obtain ⟨⟨t190, t191⟩, A60, H⟩ := H
    replace H : (if t184 = true then ((manteletref08_Same.f k t186 t190).bind fun t194 => (if t194 = true then (some (t187 == t191)) else (none))) else (none)) = some r := H
    have A6 := Aside0.mk A60
    clear A60
    by_cases c7 : t184 = true
    · subst c7
      have H1 : ((manteletref08_Same.f k t186 t190).bind fun t194 => (if t194 = true then (some (t187 == t191)) else (none))) = some r := by rw [if_pos rfl] at H; exact H
      clear H
      have H := H1
      clear H1
      replace H := Option.bind_eq_some_iff.mp H
      obtain ⟨t194, A80, H⟩ := H
      replace H : (if t194 = true then (some (t187 == t191)) else (none)) = some r := H
      have A8 := Aside0.mk A80
      clear A80
      by_cases c9 : t194 = true
      · subst c9
        have H1 : (some (t187 == t191)) = some r := by rw [if_pos rfl] at H; exact H
        clear H
        have H := H1
        clear H1
        obtain rfl := Option.some.inj H
        go_enter Try.func3, Try.ntmps3
        go_wp2_with (first | ((with_reducible refine gate_callee (f := 8) rfl ?_); refine goesL_ (some 8) rfl rfl Try.func8 (by kernel_rfl) rfl #[] rfl (by (try simp only [List.map_toArray, List.map_cons, List.map_nil]); first | done | rfl | (simp only [List.length_drop, List.length_take]; rfl)) ?_; (with_reducible refine (manteletlaw11_shown.calls k  true _ A2.out).mono ?_); rintro e w10 ⟨rfl, hb⟩; refine ⟨_, rfl, ?_⟩; have n0_ := Aside0.mk (below_step (by repeat (first | (with_reducible first | exact HB.out | apply below_alloc | apply pw_below_drewN | apply below_drew1) | exact HB.out)) hb); clear HB; have HB := n0_; clear n0_; (try clear hb); (try clear hb2); (try clear hk); (try clear hi)) | ((with_reducible refine gate_callee (f := 9) rfl ?_); refine goesL_ (some 10) rfl rfl Try.func9 (by kernel_rfl) rfl #[.slice A0 l0.length c0] rfl (by (try simp only [List.map_toArray, List.map_cons, List.map_nil]); first | done | rfl | (simp only [List.length_drop, List.length_take]; rfl)) ?_; (with_reducible refine (manteletlaw11_few.calls k _ _ l0 true _ ?side1 ?side2 A3.out).mono ?_); (case side1 => repeat (first | exact (Kd.C_below HR0.out HB.out) | (with_reducible refine Kd.C_alloc ?_ _) | (with_reducible refine Kd.C_drewN ?_ _) | (with_reducible refine Kd.C_drew ?_))); (case side2 => exact HC0.out); rintro e w' ⟨rfl, ⟨nd, rfl⟩⟩; refine ⟨_, rfl, ?_⟩) | ((with_reducible refine gate_callee (f := 10) rfl ?_); refine goesL_ (some 15) rfl rfl Try.func10 (by kernel_rfl) rfl #[.slice A0 l0.length c0] rfl (by (try simp only [List.map_toArray, List.map_cons, List.map_nil]); first | done | rfl | (simp only [List.length_drop, List.length_take]; rfl)) ?_; (with_reducible refine (loser_Merge.calls k _ _ l0 t186 t187 _ ?side1 ?side2 A5.out).mono ?_); (case side1 => repeat (first | exact (Kd.C_below HR0.out (by repeat (first | (with_reducible first | exact HB.out | apply below_alloc | apply pw_below_drewN | apply below_drew1) | exact HB.out))) | (with_reducible refine Kd.C_alloc ?_ _) | (with_reducible refine Kd.C_drewN ?_ _) | (with_reducible refine Kd.C_drew ?_))); (case side2 => exact HC0.out); rintro e w11 ⟨v188, rfl, ho0, hb⟩; refine ⟨_, rfl, ?_⟩; have n0_ := Aside0.mk (Kd.R_lower ho0 (below_size (by repeat (first | (with_reducible first | exact HB.out | apply below_alloc | apply pw_below_drewN | apply below_drew1) | exact HB.out)))); have n1_ := Aside0.mk (below_step (by repeat (first | (with_reducible first | exact HB.out | apply below_alloc | apply pw_below_drewN | apply below_drew1) | exact HB.out)) hb); clear HB; have HO189 := n0_; have HB := n1_; clear n0_ n1_; (try clear hb); (try clear hb2); (try clear hk); (try clear hi); (try clear ho0)) | ((with_reducible refine gate_callee (f := 11) rfl ?_); refine goesL_ (some 20) rfl rfl Try.func11 (by kernel_rfl) rfl #[.slice A0 l0.length c0] rfl (by (try simp only [List.map_toArray, List.map_cons, List.map_nil]); first | done | rfl | (simp only [List.length_drop, List.length_take]; rfl)) ?_; (with_reducible refine (manteletref11_Merge.calls k _ _ l0 t190 t191 _ ?side1 ?side2 A6.out).mono ?_); (case side1 => repeat (first | exact (Kd.C_below HR0.out HB.out) | (with_reducible refine Kd.C_alloc ?_ _) | (with_reducible refine Kd.C_drewN ?_ _) | (with_reducible refine Kd.C_drew ?_))); (case side2 => exact HC0.out); rintro e w12 ⟨v192, rfl, ho0, hb⟩; refine ⟨_, rfl, ?_⟩; have n0_ := Aside0.mk (Kd.R_elder' (by (with_reducible repeat (first | apply Kd.R_alloc | apply Kd.R_drewN | apply Kd.R_drew)); exact HO189.out) (Kd.R_base ho0) hb); have n1_ := Aside0.mk (Kd.R_lower (Kd.R_new' ho0 (Kd.R_lt (by (with_reducible repeat (first | apply Kd.R_alloc | apply Kd.R_drewN | apply Kd.R_drew)); exact HO189.out))) (below_size (by repeat (first | (with_reducible first | exact HB.out | apply below_alloc | apply pw_below_drewN | apply below_drew1) | exact HB.out)))); have n2_ := Aside0.mk (below_step (by repeat (first | (with_reducible first | exact HB.out | apply below_alloc | apply pw_below_drewN | apply below_drew1) | exact HB.out)) hb); clear HO189; clear HB; have HO189 := n0_; have HO193 := n1_; have HB := n2_; clear n0_ n1_ n2_; (try clear hb); (try clear hb2); (try clear hk); (try clear hi); (try clear ho0); obtain ⟨Ao13, co13, eo13⟩ := Kd.R_slice HO189.out; subst eo13; obtain ⟨Ao14, co14, eo14⟩ := Kd.R_slice HO193.out; subst eo14) | (go_at_call 12; (with_reducible refine (manteletref08_Same.calls k _ _ t186 _ _ t190 true _ ?side1 ?side2 ?side3 ?side4 A8.out).mono ?_); (case side1 => repeat (first | exact (Kd.R_reads' HO189.out).2.2 | (with_reducible refine Kd.C_alloc ?_ _) | (with_reducible refine Kd.C_drewN ?_ _) | (with_reducible refine Kd.C_drew ?_))); (case side2 => exact (Kd.R_reads' HO189.out).2.1); (case side3 => repeat (first | exact (Kd.R_reads' HO193.out).2.2 | (with_reducible refine Kd.C_alloc ?_ _) | (with_reducible refine Kd.C_drewN ?_ _) | (with_reducible refine Kd.C_drew ?_))); (case side4 => exact (Kd.R_reads' HO193.out).2.1); rintro e w' ⟨rfl, ⟨nd, rfl⟩⟩))
        go_ret
        exact ⟨by first | rfl | (simp [errW_none, errW_some] <;> rfl) | (have e_ := Option.some.inj (A2.out.symm.trans A3.out); subst e_; rfl) | (have e_ := Option.some.inj (A2.out.symm.trans A5.out); subst e_; rfl) | (have e_ := Option.some.inj (A3.out.symm.trans A5.out); subst e_; rfl) | (have e_ := Option.some.inj (A2.out.symm.trans A6.out); subst e_; rfl) | (have e_ := Option.some.inj (A3.out.symm.trans A6.out); subst e_; rfl) | (have e_ := Option.some.inj (A5.out.symm.trans A6.out); subst e_; rfl) | (have e_ := Option.some.inj (A2.out.symm.trans A8.out); subst e_; rfl) | (have e_ := Option.some.inj (A3.out.symm.trans A8.out); subst e_; rfl) | (have e_ := Option.some.inj (A5.out.symm.trans A8.out); subst e_; rfl) | (have e_ := Option.some.inj (A6.out.symm.trans A8.out); subst e_; rfl) | (simp [*, errW_none, errW_some] <;> rfl), by repeat (first | (with_reducible first | exact HB.out | apply below_alloc | apply pw_below_drewN | apply below_drew1) | exact HB.out)⟩
      · replace c9 := Bool.eq_false_iff.mpr c9
        subst c9
        have H1 : (none) = some r := by rw [if_neg (show ¬ (false = true) by decide)] at H; exact H
        clear H
        have H := H1
        clear H1
        exact absurd H (by simp)
    · replace c7 := Bool.eq_false_iff.mpr c7
      subst c7
      have H1 : (none) = some r := by rw [if_neg (show ¬ (false = true) by decide)] at H; exact H
      clear H
      have H := H1
      clear H1
      exact absurd H (by simp)
  · replace c4 := Bool.eq_false_iff.mpr c4
    subst c4
    have H1 : (some t184) = some r := by rw [if_neg (show ¬ (false = true) by decide)] at H; exact H
    clear H
    have H := H1
    clear H1
    obtain rfl := Option.some.inj H
    go_enter Try.func3, Try.ntmps3
    go_wp2_with (first | ((with_reducible refine gate_callee (f := 8) rfl ?_); refine goesL_ (some 8) rfl rfl Try.func8 (by kernel_rfl) rfl #[] rfl (by (try simp only [List.map_toArray, List.map_cons, List.map_nil]); first | done | rfl | (simp only [List.length_drop, List.length_take]; rfl)) ?_; (with_reducible refine (manteletlaw11_shown.calls k  t184 _ A2.out).mono ?_); rintro e w15 ⟨rfl, hb⟩; refine ⟨_, rfl, ?_⟩; have n0_ := Aside0.mk (below_step (by repeat (first | (with_reducible first | exact HB.out | apply below_alloc | apply pw_below_drewN | apply below_drew1) | exact HB.out)) hb); clear HB; have HB := n0_; clear n0_; (try clear hb); (try clear hb2); (try clear hk); (try clear hi)) | ((with_reducible refine gate_callee (f := 9) rfl ?_); refine goesL_ (some 10) rfl rfl Try.func9 (by kernel_rfl) rfl #[.slice A0 l0.length c0] rfl (by (try simp only [List.map_toArray, List.map_cons, List.map_nil]); first | done | rfl | (simp only [List.length_drop, List.length_take]; rfl)) ?_; (with_reducible refine (manteletlaw11_few.calls k _ _ l0 false _ ?side1 ?side2 A3.out).mono ?_); (case side1 => repeat (first | exact (Kd.C_below HR0.out HB.out) | (with_reducible refine Kd.C_alloc ?_ _) | (with_reducible refine Kd.C_drewN ?_ _) | (with_reducible refine Kd.C_drew ?_))); (case side2 => exact HC0.out); rintro e w' ⟨rfl, ⟨nd, rfl⟩⟩; refine ⟨_, rfl, ?_⟩))
    go_ret
    exact ⟨by first | rfl | (simp [errW_none, errW_some] <;> rfl) | (have e_ := Option.some.inj (A2.out.symm.trans A3.out); subst e_; rfl) | (have e_ := Option.some.inj (A2.out.symm.trans A5.out); subst e_; rfl) | (have e_ := Option.some.inj (A3.out.symm.trans A5.out); subst e_; rfl) | (have e_ := Option.some.inj (A2.out.symm.trans A6.out); subst e_; rfl) | (have e_ := Option.some.inj (A3.out.symm.trans A6.out); subst e_; rfl) | (have e_ := Option.some.inj (A5.out.symm.trans A6.out); subst e_; rfl) | (have e_ := Option.some.inj (A2.out.symm.trans A8.out); subst e_; rfl) | (have e_ := Option.some.inj (A3.out.symm.trans A8.out); subst e_; rfl) | (have e_ := Option.some.inj (A5.out.symm.trans A8.out); subst e_; rfl) | (have e_ := Option.some.inj (A6.out.symm.trans A8.out); subst e_; rfl) | (simp [*, errW_none, errW_some] <;> rfl), by repeat (first | (with_reducible first | exact HB.out | apply below_alloc | apply pw_below_drewN | apply below_drew1) | exact HB.out)⟩

-- NOT PRINTED: function 4 (manteletlaw11_LoserOrder)

end Go.Proofs.Ytlngljddjlmkfaa.PLoser
