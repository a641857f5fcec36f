/- Contracts of Go functions: called with what reads as these lists and numbers, a function returns what its plain Lean function says, and leaves what was there. Written by a program of this session. -/
import Derived.Test.YtmfngihgoanhpaaPRunx0
import Derived.Test.YtmfngihgoanhpaaPRunx2
import Derived.Test.YtmfngihgoanhpaaPRunx4
import Derived.Test.YtmfngihgoanhpaaPRunx6
import Derived.Test.YtmfngihgoanhpaaPRunx7
namespace Go.Proofs.Ytmfngihgoanhpaa.PRun
open Go.RowKit Go.Proofs.YtmfngihgoanhpaaW.PrintWords Go.Proofs.YtmfngihgoanhpaaW.PrintLast Go.Proofs.YtmfngihgoanhpaaW.PrintMore
attribute [local go_sem] max2_int min2_int max_two min_two max_three min_three max_four min_four   -- for this text's walks alone
attribute [local go_sem] Go.Proofs.Ytmfngihgoanhpaa.MoreWords.str_leq Go.Proofs.Ytmfngihgoanhpaa.MoreWords.str_gtr Go.Proofs.Ytmfngihgoanhpaa.MoreWords.str_geq
set_option linter.unusedVariables false
set_option linter.unusedSimpArgs false

/-! ### manteletlaw09_RunBack: function 4 -/
mutual
def manteletlaw09_RunBack.j0 : Nat → List (S44) → Int → List Int → Bool → Bool → Option (Bool)
  | 0, _, _, _, _, _ => none
  | k + 1, x0, x1, x2, x7, x23 => if x23 = true then (some x7) else ((run_Encode.f k x0 (wrap64 (1 + (wrap64 (Int.tmod x1 255))))).bind fun bt413 => ((run_Decode.f k bt413.1).bind fun bt417 => ((run_Decode.f k x2).bind fun bt421 => (if bt421.2 = 0 then ((run_May.f k bt421.1).bind fun t425 => (if t425 = 0 then (manteletlaw09_RunBack.j1 k x0 x7 bt413.2 bt417.1 bt417.2 false) else (manteletlaw09_RunBack.j1 k x0 x7 bt413.2 bt417.1 bt417.2 true))) else (manteletlaw09_RunBack.j1 k x0 x7 bt413.2 bt417.1 bt417.2 (decide ((bt421.1.length : Int) > 0)))))))
def manteletlaw09_RunBack.j1 : Nat → List (S44) → Bool → Int → List (S44) → Int → Bool → Option (Bool)
  | 0, _, _, _, _, _, _ => none
  | k + 1, x0, x7, x10, x11, x12, x60 => if x60 = true then (none) else ((run_May.f k x0).bind fun t426 => (if t426 = 0 then (if x7 = true then (if x10 = 0 then (if x12 = 0 then ((manteletref08_Same.f k x0 x11).bind fun t427 => (some t427)) else (none)) else (none)) else (none)) else (if x7 = true then ((run_May.f k x0).bind fun t428 => (if x10 = t428 then (some (x12 == 2)) else (none))) else (none))))
end
def manteletlaw09_RunBack.f (k : Nat) (l0 : List (S44)) (a1 : Int) (l2 : List Int) : Option (Bool) := (manteletlaw09_shown.f k).bind fun t411 => ((manteletlaw09_few.f k l0).bind fun t412 => (if t412 = true then (manteletlaw09_RunBack.j0 k l0 a1 l2 t411 (decide ((l2.length : Int) > 20000))) else (manteletlaw09_RunBack.j0 k l0 a1 l2 t411 true)))
theorem manteletlaw09_RunBack.mono_l : ∀ k, (∀ y0 y1 y2 y3 y4, LeO (manteletlaw09_RunBack.j0 k y0 y1 y2 y3 y4) (manteletlaw09_RunBack.j0 (k + 1) y0 y1 y2 y3 y4)) ∧ (∀ y0 y1 y2 y3 y4 y5, LeO (manteletlaw09_RunBack.j1 k y0 y1 y2 y3 y4 y5) (manteletlaw09_RunBack.j1 (k + 1) y0 y1 y2 y3 y4 y5))
  | 0 => ⟨fun _ _ _ _ _ r h => by simp [manteletlaw09_RunBack.j0] at h, fun _ _ _ _ _ _ r h => by simp [manteletlaw09_RunBack.j1] at h⟩
  | k + 1 => by
    obtain ⟨ih0, ih1⟩ := manteletlaw09_RunBack.mono_l k
    refine ⟨?_, ?_⟩
    · intro y0 y1 y2 y3 y4
      unfold manteletlaw09_RunBack.j0
      repeat' first
      | (with_reducible exact ih0 _ _ _ _ _)
      | (with_reducible exact ih1 _ _ _ _ _ _)
      | (with_reducible exact manteletlaw09_few.mono _ _)
      | (with_reducible exact manteletlaw09_shown.mono _)
      | (with_reducible exact manteletref08_Same.mono _ _ _)
      | (with_reducible exact run_Decode.mono _ _)
      | (with_reducible exact run_Encode.mono _ _ _)
      | (with_reducible exact run_May.mono _ _)
      | (with_reducible exact LeO.refl _)
      | (with_reducible exact LeO.none _)
      | (with_reducible refine LeO.ite ?_ ?_)
      | (with_reducible refine LeO.bind ?_ (fun _ => ?_))
      | exact ih0 _ _ _ _ _
      | exact ih1 _ _ _ _ _ _
      | exact manteletlaw09_few.mono _ _
      | exact manteletlaw09_shown.mono _
      | exact manteletref08_Same.mono _ _ _
      | exact run_Decode.mono _ _
      | exact run_Encode.mono _ _ _
      | exact run_May.mono _ _
      | exact LeO.none _
      | refine LeO.ite ?_ ?_
      | refine LeO.bind ?_ (fun _ => ?_)
    · intro y0 y1 y2 y3 y4 y5
      unfold manteletlaw09_RunBack.j1
      repeat' first
      | (with_reducible exact ih0 _ _ _ _ _)
      | (with_reducible exact ih1 _ _ _ _ _ _)
      | (with_reducible exact manteletlaw09_few.mono _ _)
      | (with_reducible exact manteletlaw09_shown.mono _)
      | (with_reducible exact manteletref08_Same.mono _ _ _)
      | (with_reducible exact run_Decode.mono _ _)
      | (with_reducible exact run_Encode.mono _ _ _)
      | (with_reducible exact run_May.mono _ _)
      | (with_reducible exact LeO.refl _)
      | (with_reducible exact LeO.none _)
      | (with_reducible refine LeO.ite ?_ ?_)
      | (with_reducible refine LeO.bind ?_ (fun _ => ?_))
      | exact ih0 _ _ _ _ _
      | exact ih1 _ _ _ _ _ _
      | exact manteletlaw09_few.mono _ _
      | exact manteletlaw09_shown.mono _
      | exact manteletref08_Same.mono _ _ _
      | exact run_Decode.mono _ _
      | exact run_Encode.mono _ _ _
      | exact run_May.mono _ _
      | exact LeO.none _
      | refine LeO.ite ?_ ?_
      | refine LeO.bind ?_ (fun _ => ?_)
theorem manteletlaw09_RunBack.mono : ∀ a0 a1 a2 k, LeO (manteletlaw09_RunBack.f k a0 a1 a2) (manteletlaw09_RunBack.f (k + 1) a0 a1 a2) := by
  intro a0 a1 a2 k
  obtain ⟨ih0, ih1⟩ := manteletlaw09_RunBack.mono_l k
  unfold manteletlaw09_RunBack.f
  repeat' first
      | (with_reducible exact ih0 _ _ _ _ _)
      | (with_reducible exact ih1 _ _ _ _ _ _)
      | (with_reducible exact manteletlaw09_few.mono _ _)
      | (with_reducible exact manteletlaw09_shown.mono _)
      | (with_reducible exact manteletref08_Same.mono _ _ _)
      | (with_reducible exact run_Decode.mono _ _)
      | (with_reducible exact run_Encode.mono _ _ _)
      | (with_reducible exact run_May.mono _ _)
      | (with_reducible exact LeO.refl _)
      | (with_reducible exact LeO.none _)
      | (with_reducible refine LeO.ite ?_ ?_)
      | (with_reducible refine LeO.bind ?_ (fun _ => ?_))
      | exact ih0 _ _ _ _ _
      | exact ih1 _ _ _ _ _ _
      | exact manteletlaw09_few.mono _ _
      | exact manteletlaw09_shown.mono _
      | exact manteletref08_Same.mono _ _ _
      | exact run_Decode.mono _ _
      | exact run_Encode.mono _ _ _
      | exact run_May.mono _ _
      | exact LeO.none _
      | refine LeO.ite ?_ ?_
      | refine LeO.bind ?_ (fun _ => ?_)
set_option maxHeartbeats 8000000 in
set_option maxRecDepth 100000 in
theorem manteletlaw09_RunBack.calls (k : Nat) (A0 : Option Addr) (c0 : Nat) (l0 : List (S44)) (a1 : Int) (A2 : Option Addr) (c2 : Nat) (l2 : List Int) (r : Bool) (w : World) (hr0 : Kd.C k44 w A0 l0.length l0) (hc0 : l0.length ≤ c0) (hr2 : Kd.C (Kd.int .u8) w A2 l2.length l2) (hc2 : l2.length ≤ c2) (h : manteletlaw09_RunBack.f k l0 a1 l2 = some r) :
    Calls Try.prog 4 #[.slice A0 l0.length c0, .int .u8 a1, .slice A2 l2.length c2] w fun e w' => e = .returned (.bool r) ∧ Below w.heap.size w w' := by
  have HR0 := Aside0.mk hr0
  have HC0 := Aside0.mk hc0
  clear hr0 hc0
  have HR2 := Aside0.mk hr2
  have HC2 := Aside0.mk hc2
  clear hr2 hc2
  have HB := Aside0.mk (Below.refl w.heap.size w)
  have H : ((manteletlaw09_shown.f k).bind fun t411 => ((manteletlaw09_few.f k l0).bind fun t412 => (if t412 = true then (manteletlaw09_RunBack.j0 k l0 a1 l2 t411 (decide ((l2.length : Int) > 20000))) else (manteletlaw09_RunBack.j0 k l0 a1 l2 t411 true)))) = some r := h
  clear h
  replace H := Option.bind_eq_some_iff.mp H
  obtain ⟨t411, A40, H⟩ := H
  replace H : ((manteletlaw09_few.f k l0).bind fun t412 => (if t412 = true then (manteletlaw09_RunBack.j0 k l0 a1 l2 t411 (decide ((l2.length : Int) > 20000))) else (manteletlaw09_RunBack.j0 k l0 a1 l2 t411 true))) = some r := H
  have A4 := Aside0.mk A40
  clear A40
  have HC5 := Aside0.mk H
  clear H
  go_enter Try.func4, Try.ntmps4
  go_upto_region 2 with (first | ((with_reducible refine gate_callee (f := 9) rfl ?_); refine goesL_ (some 15) rfl rfl Try.func9 (by kernel_rfl) rfl #[] rfl (by (try simp only [List.map_toArray, List.map_cons, List.map_nil]); first | done | rfl | (simp only [List.length_drop, List.length_take]; rfl)) ?_; (with_reducible refine (manteletlaw09_shown.calls k  t411 _ A4.out).mono ?_); rintro e w6 ⟨rfl, hb⟩; refine ⟨_, rfl, ?_⟩; have n0_ := Aside0.mk (below_step (by repeat (first | (with_reducible first | exact HB.out | apply below_alloc | apply pw_below_drewN | apply below_drew1) | exact HB.out)) hb); clear HB; have HB := n0_; clear n0_; (try clear hb); (try clear hb2); (try clear hk); (try clear hi)))
  (try simp only [Act.put, List.setIfInBounds_toArray, List.set_cons_zero, List.set_cons_succ])
  go_cut [23] (fun v23 wc => ∃ (kq : Nat) (x23_4 : Bool), v23 = .bool x23_4 ∧ Aside0 (manteletlaw09_RunBack.j0 kq l0 a1 l2 t411 x23_4 = some r) ∧ Aside0 (kq ≤ k) ∧ Aside0 (Below w.heap.size w wc))
  case first =>
    have H := HC5.out
    clear HC5
    replace H := Option.bind_eq_some_iff.mp H
    obtain ⟨t412, A70, H⟩ := H
    replace H : (if t412 = true then (manteletlaw09_RunBack.j0 k l0 a1 l2 t411 (decide ((l2.length : Int) > 20000))) else (manteletlaw09_RunBack.j0 k l0 a1 l2 t411 true)) = some r := H
    have A7 := Aside0.mk A70
    clear A70
    by_cases c8 : t412 = true
    · subst c8
      have H1 : (manteletlaw09_RunBack.j0 k l0 a1 l2 t411 (decide ((l2.length : Int) > 20000))) = some r := by rw [if_pos rfl] at H; exact H
      clear H
      have H := H1
      clear H1
      have H' := Aside0.mk H
      clear H
      go_wp2_with (first | ((with_reducible refine gate_callee (f := 10) rfl ?_); refine goesL_ (some 17) rfl rfl Try.func10 (by kernel_rfl) rfl #[.slice A0 l0.length c0] rfl (by (try simp only [List.map_toArray, List.map_cons, List.map_nil]); first | done | rfl | (simp only [List.length_drop, List.length_take]; rfl)) ?_; (with_reducible refine (manteletlaw09_few.calls k _ _ l0 true _ ?side1 ?side2 A7.out).mono ?_); (case side1 => repeat (first | exact (Kd.C_below HR0.out HB.out) | (with_reducible refine Kd.C_alloc ?_ _) | (with_reducible refine Kd.C_drewN ?_ _) | (with_reducible refine Kd.C_drew ?_))); (case side2 => exact HC0.out); rintro e w' ⟨rfl, ⟨nd, rfl⟩⟩; refine ⟨_, rfl, ?_⟩))
      go_meet
      case rel => exact ⟨_, (decide ((l2.length : Int) > 20000)), (by first | rfl | (simp; done) | (simp [*]; done)), H', ⟨by first | omega | exact Nat.le_refl _⟩, ⟨by repeat (first | (with_reducible first | exact HB.out | apply below_alloc | apply pw_below_drewN | apply below_drew1) | exact HB.out)⟩⟩
    · replace c8 := Bool.eq_false_iff.mpr c8
      subst c8
      have H1 : (manteletlaw09_RunBack.j0 k l0 a1 l2 t411 true) = some r := by rw [if_neg (show ¬ (false = true) by decide)] at H; exact H
      clear H
      have H := H1
      clear H1
      have H' := Aside0.mk H
      clear H
      go_wp2_with (first | ((with_reducible refine gate_callee (f := 10) rfl ?_); refine goesL_ (some 17) rfl rfl Try.func10 (by kernel_rfl) rfl #[.slice A0 l0.length c0] rfl (by (try simp only [List.map_toArray, List.map_cons, List.map_nil]); first | done | rfl | (simp only [List.length_drop, List.length_take]; rfl)) ?_; (with_reducible refine (manteletlaw09_few.calls k _ _ l0 false _ ?side1 ?side2 A7.out).mono ?_); (case side1 => repeat (first | exact (Kd.C_below HR0.out HB.out) | (with_reducible refine Kd.C_alloc ?_ _) | (with_reducible refine Kd.C_drewN ?_ _) | (with_reducible refine Kd.C_drew ?_))); (case side2 => exact HC0.out); rintro e w' ⟨rfl, ⟨nd, rfl⟩⟩; refine ⟨_, rfl, ?_⟩))
      go_meet
      case rel => exact ⟨_, (true), (by first | rfl | (simp; done) | (simp [*]; done)), H', ⟨by first | omega | exact Nat.le_refl _⟩, ⟨by repeat (first | (with_reducible first | exact HB.out | apply below_alloc | apply pw_below_drewN | apply below_drew1) | exact HB.out)⟩⟩
  case rest =>
    clear HC5
    try clear c1
    try clear c2
    try clear p2
    try clear c4
    try clear c8
    obtain ⟨kq, x23_4, rfl, HA, HJ4, HB⟩ := hcut
    cases kq with
    | zero => exact absurd HA.out (by simp [manteletlaw09_RunBack.j0])
    | succ kj4 =>
      have H := HA.out
      clear HA
      simp only [manteletlaw09_RunBack.j0] at H
      by_cases c9 : x23_4 = true
      · subst c9
        have H1 : (some t411) = some r := by rw [if_pos rfl] at H; exact H
        clear H
        have H := H1
        clear H1
        obtain rfl := Option.some.inj H
        go_wp2
        go_ret
        exact ⟨by first | rfl | (simp [errW_none, errW_some] <;> rfl) | (have e_ := Option.some.inj (A4.out.symm.trans A7.out); subst e_; rfl) | (simp [*, errW_none, errW_some] <;> rfl), by repeat (first | (with_reducible first | exact HB.out | apply below_alloc | apply pw_below_drewN | apply below_drew1) | exact HB.out)⟩
      · replace c9 := Bool.eq_false_iff.mpr c9
        subst c9
        have H1 : ((run_Encode.f kj4 l0 (wrap64 (1 + (wrap64 (Int.tmod a1 255))))).bind fun bt413 => ((run_Decode.f kj4 bt413.1).bind fun bt417 => ((run_Decode.f kj4 l2).bind fun bt421 => (if bt421.2 = 0 then ((run_May.f kj4 bt421.1).bind fun t425 => (if t425 = 0 then (manteletlaw09_RunBack.j1 kj4 l0 t411 bt413.2 bt417.1 bt417.2 false) else (manteletlaw09_RunBack.j1 kj4 l0 t411 bt413.2 bt417.1 bt417.2 true))) else (manteletlaw09_RunBack.j1 kj4 l0 t411 bt413.2 bt417.1 bt417.2 (decide ((bt421.1.length : Int) > 0))))))) = some r := by rw [if_neg (show ¬ (false = true) by decide)] at H; exact H
        clear H
        have H := H1
        clear H1
        replace H := Option.bind_eq_some_iff.mp H
        obtain ⟨⟨t413, t414⟩, A100, H⟩ := H
        replace H : ((run_Decode.f kj4 t413).bind fun bt417 => ((run_Decode.f kj4 l2).bind fun bt421 => (if bt421.2 = 0 then ((run_May.f kj4 bt421.1).bind fun t425 => (if t425 = 0 then (manteletlaw09_RunBack.j1 kj4 l0 t411 t414 bt417.1 bt417.2 false) else (manteletlaw09_RunBack.j1 kj4 l0 t411 t414 bt417.1 bt417.2 true))) else (manteletlaw09_RunBack.j1 kj4 l0 t411 t414 bt417.1 bt417.2 (decide ((bt421.1.length : Int) > 0)))))) = some r := H
        have A10 := Aside0.mk A100
        clear A100
        replace H := Option.bind_eq_some_iff.mp H
        obtain ⟨⟨t417, t418⟩, A110, H⟩ := H
        replace H : ((run_Decode.f kj4 l2).bind fun bt421 => (if bt421.2 = 0 then ((run_May.f kj4 bt421.1).bind fun t425 => (if t425 = 0 then (manteletlaw09_RunBack.j1 kj4 l0 t411 t414 t417 t418 false) else (manteletlaw09_RunBack.j1 kj4 l0 t411 t414 t417 t418 true))) else (manteletlaw09_RunBack.j1 kj4 l0 t411 t414 t417 t418 (decide ((bt421.1.length : Int) > 0))))) = some r := H
        have A11 := Aside0.mk A110
        clear A110
        replace H := Option.bind_eq_some_iff.mp H
        obtain ⟨⟨t421, t422⟩, A120, H⟩ := H
        replace H : (if t422 = 0 then ((run_May.f kj4 t421).bind fun t425 => (if t425 = 0 then (manteletlaw09_RunBack.j1 kj4 l0 t411 t414 t417 t418 false) else (manteletlaw09_RunBack.j1 kj4 l0 t411 t414 t417 t418 true))) else (manteletlaw09_RunBack.j1 kj4 l0 t411 t414 t417 t418 (decide ((t421.length : Int) > 0)))) = some r := H
        have A12 := Aside0.mk A120
        clear A120
        have HC13 := Aside0.mk H
        clear H
        go_upto_region 8 with (first | ((with_reducible refine gate_callee (f := 11) rfl ?_); refine goesL_ (some 32) rfl rfl Try.func11 (by kernel_rfl) rfl #[.slice A0 l0.length c0, .int .i64 (wrap64 (1 + (wrap64 (Int.tmod a1 255))))] rfl (by (try simp only [List.map_toArray, List.map_cons, List.map_nil]); first | done | rfl | (simp only [List.length_drop, List.length_take]; rfl)) ?_; (with_reducible refine (run_Encode.calls kj4 _ _ l0 (wrap64 (1 + (wrap64 (Int.tmod a1 255)))) t413 t414 _ ?side1 ?side2 A10.out).mono ?_); (case side1 => repeat (first | exact (Kd.C_below HR0.out HB.out) | (with_reducible refine Kd.C_alloc ?_ _) | (with_reducible refine Kd.C_drewN ?_ _) | (with_reducible refine Kd.C_drew ?_))); (case side2 => exact HC0.out); rintro e w14 ⟨v415, rfl, ho0, hb⟩; refine ⟨_, rfl, ?_⟩; have n0_ := Aside0.mk (Kd.R_lower ho0 (below_size (by repeat (first | (with_reducible first | exact HB.out | apply below_alloc | apply pw_below_drewN | apply below_drew1) | exact HB.out)))); have n1_ := Aside0.mk (below_step (by repeat (first | (with_reducible first | exact HB.out | apply below_alloc | apply pw_below_drewN | apply below_drew1) | exact HB.out)) hb); clear HB; have HO416 := n0_; have HB := n1_; clear n0_ n1_; (try clear hb); (try clear hb2); (try clear hk); (try clear hi); (try clear ho0); obtain ⟨Ao15, co15, eo15⟩ := Kd.R_slice HO416.out; subst eo15) | ((with_reducible refine gate_callee (f := 13) rfl ?_); refine goesL_ (some 37) rfl rfl Try.func13 (by kernel_rfl) rfl #[.slice Ao15 t413.length co15] rfl (by (try simp only [List.map_toArray, List.map_cons, List.map_nil]); first | done | rfl | (simp only [List.length_drop, List.length_take]; rfl)) ?_; (with_reducible refine (run_Decode.calls kj4 _ _ t413 t417 t418 _ ?side1 ?side2 A11.out).mono ?_); (case side1 => repeat (first | exact (Kd.R_reads' HO416.out).2.2 | (with_reducible refine Kd.C_alloc ?_ _) | (with_reducible refine Kd.C_drewN ?_ _) | (with_reducible refine Kd.C_drew ?_))); (case side2 => exact (Kd.R_reads' HO416.out).2.1); rintro e w16 ⟨v419, rfl, ho0, hb⟩; refine ⟨_, rfl, ?_⟩; have n0_ := Aside0.mk (Kd.R_below (by (with_reducible repeat (first | apply Kd.R_alloc | apply Kd.R_drewN | apply Kd.R_drew)); exact HO416.out) hb); have n1_ := Aside0.mk (Kd.R_lower ho0 (below_size (by repeat (first | (with_reducible first | exact HB.out | apply below_alloc | apply pw_below_drewN | apply below_drew1) | exact HB.out)))); have n2_ := Aside0.mk (below_step (by repeat (first | (with_reducible first | exact HB.out | apply below_alloc | apply pw_below_drewN | apply below_drew1) | exact HB.out)) hb); clear HO416; clear HB; have HO416 := n0_; have HO420 := n1_; have HB := n2_; clear n0_ n1_ n2_; (try clear hb); (try clear hb2); (try clear hk); (try clear hi); (try clear ho0)) | ((with_reducible refine gate_callee (f := 13) rfl ?_); refine goesL_ (some 42) rfl rfl Try.func13 (by kernel_rfl) rfl #[.slice A2 l2.length c2] rfl (by (try simp only [List.map_toArray, List.map_cons, List.map_nil]); first | done | rfl | (simp only [List.length_drop, List.length_take]; rfl)) ?_; (with_reducible refine (run_Decode.calls kj4 _ _ l2 t421 t422 _ ?side1 ?side2 A12.out).mono ?_); (case side1 => repeat (first | exact (Kd.C_below HR2.out HB.out) | (with_reducible refine Kd.C_alloc ?_ _) | (with_reducible refine Kd.C_drewN ?_ _) | (with_reducible refine Kd.C_drew ?_))); (case side2 => exact HC2.out); rintro e w17 ⟨v423, rfl, ho0, hb⟩; refine ⟨_, rfl, ?_⟩; have n0_ := Aside0.mk (Kd.R_below (by (with_reducible repeat (first | apply Kd.R_alloc | apply Kd.R_drewN | apply Kd.R_drew)); exact HO416.out) hb); have n1_ := Aside0.mk (Kd.R_elder' (by (with_reducible repeat (first | apply Kd.R_alloc | apply Kd.R_drewN | apply Kd.R_drew)); exact HO420.out) (Kd.R_base ho0) hb); have n2_ := Aside0.mk (Kd.R_lower (Kd.R_new' ho0 (Kd.R_lt (by (with_reducible repeat (first | apply Kd.R_alloc | apply Kd.R_drewN | apply Kd.R_drew)); exact HO420.out))) (below_size (by repeat (first | (with_reducible first | exact HB.out | apply below_alloc | apply pw_below_drewN | apply below_drew1) | exact HB.out)))); have n3_ := Aside0.mk (below_step (by repeat (first | (with_reducible first | exact HB.out | apply below_alloc | apply pw_below_drewN | apply below_drew1) | exact HB.out)) hb); clear HO416; clear HO420; clear HB; have HO416 := n0_; have HO420 := n1_; have HO424 := n2_; have HB := n3_; clear n0_ n1_ n2_ n3_; (try clear hb); (try clear hb2); (try clear hk); (try clear hi); (try clear ho0)))
        (try simp only [Act.put, List.setIfInBounds_toArray, List.set_cons_zero, List.set_cons_succ])
        go_cut [60] (fun v60 wc => ∃ (kq : Nat) (x60_12 : Bool), v60 = .bool x60_12 ∧ Aside0 (manteletlaw09_RunBack.j1 kq l0 t411 t414 t417 t418 x60_12 = some r) ∧ Aside0 (kq ≤ kj4) ∧ Aside0 (Kd.R k44 44 wc w.heap.size (fun _ => True) v419 t417) ∧ Aside0 (Below w.heap.size w wc))
        case first =>
          have H := HC13.out
          clear HC13
          by_cases c18 : t422 = 0
          · rw [if_pos c18] at H
            have c18b0 : (t422 == 0) = true := beq_iff_eq.mpr c18
            have c18b1 : (t422 != 0) = false := bne_eq_false_iff_eq.mpr c18
            clear c18
            (first | rw [c18b0] | (simp only [i64_w, i32_w]; rw [c18b0]) | skip)
            replace H := Option.bind_eq_some_iff.mp H
            obtain ⟨t425, A190, H⟩ := H
            replace H : (if t425 = 0 then (manteletlaw09_RunBack.j1 kj4 l0 t411 t414 t417 t418 false) else (manteletlaw09_RunBack.j1 kj4 l0 t411 t414 t417 t418 true)) = some r := H
            have A19 := Aside0.mk A190
            clear A190
            by_cases c20 : t425 = 0
            · rw [if_pos c20] at H
              have c20b0 : (t425 == 0) = true := beq_iff_eq.mpr c20
              have c20b1 : (t425 != 0) = false := bne_eq_false_iff_eq.mpr c20
              clear c20
              have H' := Aside0.mk H
              clear H
              obtain ⟨Ao21, co21, eo21⟩ := Kd.R_slice HO424.out
              subst eo21
              go_wp2_with (first | (go_at_call 15; (with_reducible refine (run_May.calls kj4 _ _ t421 t425 _ ?side1 ?side2 A19.out).mono ?_); (case side1 => repeat (first | exact (Kd.R_reads' HO424.out).2.2 | (with_reducible refine Kd.C_alloc ?_ _) | (with_reducible refine Kd.C_drewN ?_ _) | (with_reducible refine Kd.C_drew ?_))); (case side2 => exact (Kd.R_reads' HO424.out).2.1); rintro e w22 ⟨rfl, hb⟩; have n0_ := Aside0.mk (Kd.R_below (by (with_reducible repeat (first | apply Kd.R_alloc | apply Kd.R_drewN | apply Kd.R_drew)); exact HO416.out) hb); have n1_ := Aside0.mk (Kd.R_below (by (with_reducible repeat (first | apply Kd.R_alloc | apply Kd.R_drewN | apply Kd.R_drew)); exact HO420.out) hb); have n2_ := Aside0.mk (Kd.R_below (by (with_reducible repeat (first | apply Kd.R_alloc | apply Kd.R_drewN | apply Kd.R_drew)); exact HO424.out) hb); have n3_ := Aside0.mk (below_step (by repeat (first | (with_reducible first | exact HB.out | apply below_alloc | apply pw_below_drewN | apply below_drew1) | exact HB.out)) hb); clear HO416; clear HO420; clear HO424; clear HB; have HO416 := n0_; have HO420 := n1_; have HO424 := n2_; have HB := n3_; clear n0_ n1_ n2_ n3_; (try clear hb); (try clear hb2); (try clear hk); (try clear hi)))
              go_meet
              case rel => exact ⟨_, (false), (by first | rfl | (simp; done) | (simp [*]; done)), H', ⟨by have := HJ4.out; first | omega | exact Nat.le_refl _⟩, ⟨by (with_reducible repeat (first | apply Kd.R_alloc | apply Kd.R_drewN | apply Kd.R_drew)); exact Kd.R_mono HO420.out (fun _ hk => trivial)⟩, ⟨by repeat (first | (with_reducible first | exact HB.out | apply below_alloc | apply pw_below_drewN | apply below_drew1) | exact HB.out)⟩⟩
            · rw [if_neg c20] at H
              have c20b0 : (t425 == 0) = false := beq_eq_false_iff_ne.mpr c20
              have c20b1 : (t425 != 0) = true := bne_iff_ne.mpr c20
              have H' := Aside0.mk H
              clear H
              obtain ⟨Ao23, co23, eo23⟩ := Kd.R_slice HO424.out
              subst eo23
              go_wp2_with (first | (go_at_call 15; (with_reducible refine (run_May.calls kj4 _ _ t421 t425 _ ?side1 ?side2 A19.out).mono ?_); (case side1 => repeat (first | exact (Kd.R_reads' HO424.out).2.2 | (with_reducible refine Kd.C_alloc ?_ _) | (with_reducible refine Kd.C_drewN ?_ _) | (with_reducible refine Kd.C_drew ?_))); (case side2 => exact (Kd.R_reads' HO424.out).2.1); rintro e w24 ⟨rfl, hb⟩; have n0_ := Aside0.mk (Kd.R_below (by (with_reducible repeat (first | apply Kd.R_alloc | apply Kd.R_drewN | apply Kd.R_drew)); exact HO416.out) hb); have n1_ := Aside0.mk (Kd.R_below (by (with_reducible repeat (first | apply Kd.R_alloc | apply Kd.R_drewN | apply Kd.R_drew)); exact HO420.out) hb); have n2_ := Aside0.mk (Kd.R_below (by (with_reducible repeat (first | apply Kd.R_alloc | apply Kd.R_drewN | apply Kd.R_drew)); exact HO424.out) hb); have n3_ := Aside0.mk (below_step (by repeat (first | (with_reducible first | exact HB.out | apply below_alloc | apply pw_below_drewN | apply below_drew1) | exact HB.out)) hb); clear HO416; clear HO420; clear HO424; clear HB; have HO416 := n0_; have HO420 := n1_; have HO424 := n2_; have HB := n3_; clear n0_ n1_ n2_ n3_; (try clear hb); (try clear hb2); (try clear hk); (try clear hi)))
              go_meet
              case rel => exact ⟨_, (true), (by first | rfl | (simp; done) | (simp [*]; done)), H', ⟨by have := HJ4.out; first | omega | exact Nat.le_refl _⟩, ⟨by (with_reducible repeat (first | apply Kd.R_alloc | apply Kd.R_drewN | apply Kd.R_drew)); exact Kd.R_mono HO420.out (fun _ hk => trivial)⟩, ⟨by repeat (first | (with_reducible first | exact HB.out | apply below_alloc | apply pw_below_drewN | apply below_drew1) | exact HB.out)⟩⟩
          · rw [if_neg c18] at H
            have c18b0 : (t422 == 0) = false := beq_eq_false_iff_ne.mpr c18
            have c18b1 : (t422 != 0) = true := bne_iff_ne.mpr c18
            (first | rw [c18b0] | (simp only [i64_w, i32_w]; rw [c18b0]) | skip)
            have H' := Aside0.mk H
            clear H
            obtain ⟨Ao25, co25, eo25⟩ := Kd.R_slice HO424.out
            subst eo25
            go_wp2
            go_meet
            case rel => exact ⟨_, (decide ((t421.length : Int) > 0)), (by first | rfl | (simp; done) | (simp [*]; done)), H', ⟨by have := HJ4.out; first | omega | exact Nat.le_refl _⟩, ⟨by (with_reducible repeat (first | apply Kd.R_alloc | apply Kd.R_drewN | apply Kd.R_drew)); exact Kd.R_mono HO420.out (fun _ hk => trivial)⟩, ⟨by repeat (first | (with_reducible first | exact HB.out | apply below_alloc | apply pw_below_drewN | apply below_drew1) | exact HB.out)⟩⟩
        case rest =>
          clear HC13
          try clear c1
          try clear c2
          try clear p2
          try clear c4
          try clear p6
          try clear c8
          try clear c9
          try clear c10
          try clear c11
          try clear c13
          try clear c18
          try clear c18b0
          try clear c18b1
          try clear c20
          try clear c20b0
          try clear c20b1
          try clear p2
          obtain ⟨kq, x60_12, rfl, HA, HJ12, HO_11, HB⟩ := hcut
          cases kq with
          | zero => exact absurd HA.out (by simp [manteletlaw09_RunBack.j1])
          | succ kj12 =>
            have H := HA.out
            clear HA
            simp only [manteletlaw09_RunBack.j1] at H
            by_cases c26 : x60_12 = true
            · subst c26
              have H1 : (none) = some r := by rw [if_pos rfl] at H; exact H
              clear H
              have H := H1
              clear H1
              exact absurd H (by simp)
            · replace c26 := Bool.eq_false_iff.mpr c26
              subst c26
              have H1 : ((run_May.f kj12 l0).bind fun t426 => (if t426 = 0 then (if t411 = true then (if t414 = 0 then (if t418 = 0 then ((manteletref08_Same.f kj12 l0 t417).bind fun t427 => (some t427)) else (none)) else (none)) else (none)) else (if t411 = true then ((run_May.f kj12 l0).bind fun t428 => (if t414 = t428 then (some (t418 == 2)) else (none))) else (none)))) = some r := by rw [if_neg (show ¬ (false = true) by decide)] at H; exact H
              clear H
              have H := H1
              clear H1
              replace H := Option.bind_eq_some_iff.mp H
              obtain ⟨t426, A270, H⟩ := H
              replace H : (if t426 = 0 then (if t411 = true then (if t414 = 0 then (if t418 = 0 then ((manteletref08_Same.f kj12 l0 t417).bind fun t427 => (some t427)) else (none)) else (none)) else (none)) else (if t411 = true then ((run_May.f kj12 l0).bind fun t428 => (if t414 = t428 then (some (t418 == 2)) else (none))) else (none))) = some r := H
              have A27 := Aside0.mk A270
              clear A270
              by_cases c28 : t426 = 0
              · rw [if_pos c28] at H
                have c28b0 : (t426 == 0) = true := beq_iff_eq.mpr c28
                have c28b1 : (t426 != 0) = false := bne_eq_false_iff_eq.mpr c28
                clear c28
                by_cases c29 : t411 = true
                · subst c29
                  have H1 : (if t414 = 0 then (if t418 = 0 then ((manteletref08_Same.f kj12 l0 t417).bind fun t427 => (some t427)) else (none)) else (none)) = some r := by rw [if_pos rfl] at H; exact H
                  clear H
                  have H := H1
                  clear H1
                  by_cases c30 : t414 = 0
                  · rw [if_pos c30] at H
                    have c30b0 : (t414 == 0) = true := beq_iff_eq.mpr c30
                    have c30b1 : (t414 != 0) = false := bne_eq_false_iff_eq.mpr c30
                    clear c30
                    by_cases c31 : t418 = 0
                    · rw [if_pos c31] at H
                      have c31b0 : (t418 == 0) = true := beq_iff_eq.mpr c31
                      have c31b1 : (t418 != 0) = false := bne_eq_false_iff_eq.mpr c31
                      clear c31
                      replace H := Option.bind_eq_some_iff.mp H
                      obtain ⟨t427, A320, H⟩ := H
                      replace H : (some t427) = some r := H
                      have A32 := Aside0.mk A320
                      clear A320
                      obtain rfl := Option.some.inj H
                      go_wp2_with (first | ((with_reducible refine gate_callee (f := 15) rfl ?_); refine goesL_ (some 62) rfl rfl Try.func15 (by kernel_rfl) rfl #[.slice A0 l0.length c0] rfl (by (try simp only [List.map_toArray, List.map_cons, List.map_nil]); first | done | rfl | (simp only [List.length_drop, List.length_take]; rfl)) ?_; (with_reducible refine (run_May.calls kj12 _ _ l0 t426 _ ?side1 ?side2 A27.out).mono ?_); (case side1 => repeat (first | exact (Kd.C_below HR0.out HB.out) | (with_reducible refine Kd.C_alloc ?_ _) | (with_reducible refine Kd.C_drewN ?_ _) | (with_reducible refine Kd.C_drew ?_))); (case side2 => exact HC0.out); rintro e w33 ⟨rfl, hb⟩; refine ⟨_, rfl, ?_⟩; have n0_ := Aside0.mk (Kd.R_below (by (with_reducible repeat (first | apply Kd.R_alloc | apply Kd.R_drewN | apply Kd.R_drew)); exact HO_11.out) hb); have n1_ := Aside0.mk (below_step (by repeat (first | (with_reducible first | exact HB.out | apply below_alloc | apply pw_below_drewN | apply below_drew1) | exact HB.out)) hb); clear HO_11; clear HB; have HO_11 := n0_; have HB := n1_; clear n0_ n1_; (try clear hb); (try clear hb2); (try clear hk); (try clear hi); obtain ⟨Ao34, co34, eo34⟩ := Kd.R_slice HO_11.out; subst eo34) | (go_at_call 17; (with_reducible refine (manteletref08_Same.calls kj12 _ _ l0 _ _ t417 t427 _ ?side1 ?side2 ?side3 ?side4 A32.out).mono ?_); (case side1 => repeat (first | exact (Kd.C_below HR0.out HB.out) | (with_reducible refine Kd.C_alloc ?_ _) | (with_reducible refine Kd.C_drewN ?_ _) | (with_reducible refine Kd.C_drew ?_))); (case side2 => exact HC0.out); (case side3 => repeat (first | exact (Kd.R_reads' HO_11.out).2.2 | (with_reducible refine Kd.C_alloc ?_ _) | (with_reducible refine Kd.C_drewN ?_ _) | (with_reducible refine Kd.C_drew ?_))); (case side4 => exact (Kd.R_reads' HO_11.out).2.1); rintro e w' ⟨rfl, ⟨nd, rfl⟩⟩))
                      go_ret
                      exact ⟨by first | rfl | (simp [errW_none, errW_some] <;> rfl) | (have e_ := Option.some.inj (A4.out.symm.trans A7.out); subst e_; rfl) | (have e_ := Option.some.inj (A4.out.symm.trans A10.out); subst e_; rfl) | (have e_ := Option.some.inj (A7.out.symm.trans A10.out); subst e_; rfl) | (have e_ := Option.some.inj (A4.out.symm.trans A11.out); subst e_; rfl) | (have e_ := Option.some.inj (A7.out.symm.trans A11.out); subst e_; rfl) | (have e_ := Option.some.inj (A10.out.symm.trans A11.out); subst e_; rfl) | (have e_ := Option.some.inj (A4.out.symm.trans A12.out); subst e_; rfl) | (have e_ := Option.some.inj (A7.out.symm.trans A12.out); subst e_; rfl) | (have e_ := Option.some.inj (A10.out.symm.trans A12.out); subst e_; rfl) | (have e_ := Option.some.inj (A11.out.symm.trans A12.out); subst e_; rfl) | (have e_ := Option.some.inj (A4.out.symm.trans A19.out); subst e_; rfl) | (have e_ := Option.some.inj (A7.out.symm.trans A19.out); subst e_; rfl) | (have e_ := Option.some.inj (A10.out.symm.trans A19.out); subst e_; rfl) | (have e_ := Option.some.inj (A11.out.symm.trans A19.out); subst e_; rfl) | (have e_ := Option.some.inj (A12.out.symm.trans A19.out); subst e_; rfl) | (have e_ := Option.some.inj (A4.out.symm.trans A27.out); subst e_; rfl) | (have e_ := Option.some.inj (A7.out.symm.trans A27.out); subst e_; rfl) | (have e_ := Option.some.inj (A10.out.symm.trans A27.out); subst e_; rfl) | (have e_ := Option.some.inj (A11.out.symm.trans A27.out); subst e_; rfl) | (have e_ := Option.some.inj (A12.out.symm.trans A27.out); subst e_; rfl) | (have e_ := Option.some.inj (A19.out.symm.trans A27.out); subst e_; rfl) | (have e_ := Option.some.inj (A4.out.symm.trans A32.out); subst e_; rfl) | (have e_ := Option.some.inj (A7.out.symm.trans A32.out); subst e_; rfl) | (have e_ := Option.some.inj (A10.out.symm.trans A32.out); subst e_; rfl) | (have e_ := Option.some.inj (A11.out.symm.trans A32.out); subst e_; rfl) | (have e_ := Option.some.inj (A12.out.symm.trans A32.out); subst e_; rfl) | (have e_ := Option.some.inj (A19.out.symm.trans A32.out); subst e_; rfl) | (have e_ := Option.some.inj (A27.out.symm.trans A32.out); subst e_; rfl) | (simp [*, errW_none, errW_some] <;> rfl), by repeat (first | (with_reducible first | exact HB.out | apply below_alloc | apply pw_below_drewN | apply below_drew1) | exact HB.out)⟩
                    · rw [if_neg c31] at H
                      exact absurd H (by simp)
                  · rw [if_neg c30] at H
                    exact absurd H (by simp)
                · replace c29 := Bool.eq_false_iff.mpr c29
                  subst c29
                  have H1 : (none) = some r := by rw [if_neg (show ¬ (false = true) by decide)] at H; exact H
                  clear H
                  have H := H1
                  clear H1
                  exact absurd H (by simp)
              · rw [if_neg c28] at H
                have c28b0 : (t426 == 0) = false := beq_eq_false_iff_ne.mpr c28
                have c28b1 : (t426 != 0) = true := bne_iff_ne.mpr c28
                by_cases c35 : t411 = true
                · subst c35
                  have H1 : ((run_May.f kj12 l0).bind fun t428 => (if t414 = t428 then (some (t418 == 2)) else (none))) = some r := by rw [if_pos rfl] at H; exact H
                  clear H
                  have H := H1
                  clear H1
                  replace H := Option.bind_eq_some_iff.mp H
                  obtain ⟨t428, A360, H⟩ := H
                  replace H : (if t414 = t428 then (some (t418 == 2)) else (none)) = some r := H
                  have A36 := Aside0.mk A360
                  clear A360
                  by_cases c37 : t414 = t428
                  · rw [if_pos c37] at H
                    have c37b0 : (t414 == t428) = true := beq_iff_eq.mpr c37
                    have c37b1 : (t414 != t428) = false := bne_eq_false_iff_eq.mpr c37
                    clear c37
                    obtain rfl := Option.some.inj H
                    go_wp2_with (first | ((with_reducible refine gate_callee (f := 15) rfl ?_); refine goesL_ (some 62) rfl rfl Try.func15 (by kernel_rfl) rfl #[.slice A0 l0.length c0] rfl (by (try simp only [List.map_toArray, List.map_cons, List.map_nil]); first | done | rfl | (simp only [List.length_drop, List.length_take]; rfl)) ?_; (with_reducible refine (run_May.calls kj12 _ _ l0 t426 _ ?side1 ?side2 A27.out).mono ?_); (case side1 => repeat (first | exact (Kd.C_below HR0.out HB.out) | (with_reducible refine Kd.C_alloc ?_ _) | (with_reducible refine Kd.C_drewN ?_ _) | (with_reducible refine Kd.C_drew ?_))); (case side2 => exact HC0.out); rintro e w38 ⟨rfl, hb⟩; refine ⟨_, rfl, ?_⟩; have n0_ := Aside0.mk (Kd.R_below (by (with_reducible repeat (first | apply Kd.R_alloc | apply Kd.R_drewN | apply Kd.R_drew)); exact HO_11.out) hb); have n1_ := Aside0.mk (below_step (by repeat (first | (with_reducible first | exact HB.out | apply below_alloc | apply pw_below_drewN | apply below_drew1) | exact HB.out)) hb); clear HO_11; clear HB; have HO_11 := n0_; have HB := n1_; clear n0_ n1_; (try clear hb); (try clear hb2); (try clear hk); (try clear hi)) | (go_at_call 15; (with_reducible refine (run_May.calls kj12 _ _ l0 t428 _ ?side1 ?side2 A36.out).mono ?_); (case side1 => repeat (first | exact (Kd.C_below HR0.out HB.out) | (with_reducible refine Kd.C_alloc ?_ _) | (with_reducible refine Kd.C_drewN ?_ _) | (with_reducible refine Kd.C_drew ?_))); (case side2 => exact HC0.out); rintro e w39 ⟨rfl, hb⟩; have n0_ := Aside0.mk (Kd.R_below (by (with_reducible repeat (first | apply Kd.R_alloc | apply Kd.R_drewN | apply Kd.R_drew)); exact HO_11.out) hb); have n1_ := Aside0.mk (below_step (by repeat (first | (with_reducible first | exact HB.out | apply below_alloc | apply pw_below_drewN | apply below_drew1) | exact HB.out)) hb); clear HO_11; clear HB; have HO_11 := n0_; have HB := n1_; clear n0_ n1_; (try clear hb); (try clear hb2); (try clear hk); (try clear hi)))
                    go_ret
                    exact ⟨by first | rfl | (simp [errW_none, errW_some] <;> rfl) | (simp [*, errW_none, errW_some] <;> rfl), by repeat (first | (with_reducible first | exact HB.out | apply below_alloc | apply pw_below_drewN | apply below_drew1) | exact HB.out)⟩
                  · rw [if_neg c37] at H
                    exact absurd H (by simp)
                · replace c35 := Bool.eq_false_iff.mpr c35
                  subst c35
                  have H1 : (none) = some r := by rw [if_neg (show ¬ (false = true) by decide)] at H; exact H
                  clear H
                  have H := H1
                  clear H1
                  exact absurd H (by simp)

end Go.Proofs.Ytmfngihgoanhpaa.PRun
