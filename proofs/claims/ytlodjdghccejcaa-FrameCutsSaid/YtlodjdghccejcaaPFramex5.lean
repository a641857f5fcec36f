/- Contracts of Go functions: called with what reads as these lists and numbers, a function returns what its plain Lean function says, and leaves what was there. Written by a program of this session. -/
import Derived.Test.YtlodjdghccejcaaPFramex0
import Derived.Test.YtlodjdghccejcaaPFramex1
import Derived.Test.YtlodjdghccejcaaPFramex3
import Derived.Test.YtlodjdghccejcaaPFramex4
namespace Go.Proofs.Ytlodjdghccejcaa.PFrame
open Go.RowKit Go.Proofs.YtlodjdghccejcaaW.PrintWords Go.Proofs.YtlodjdghccejcaaW.PrintLast Go.Proofs.YtlodjdghccejcaaW.PrintMore
attribute [local go_sem] max2_int min2_int max_two min_two max_three min_three max_four min_four   -- for this text's walks alone
set_option linter.unusedVariables false
set_option linter.unusedSimpArgs false

/-! ### manteletlaw03_FrameCuts: function 11 -/
mutual
def manteletlaw03_FrameCuts.l0 : Nat → List (List Int) → Int → Bool → Int → Option (Bool)
  | 0, _, _, _, _ => none
  | k + 1, x0, x1, x5, x6 => if x6 < (x0.length : Int) then (manteletlaw03_FrameCuts.j1 k x0 x1 x5 x6 (decide (x6 < 20))) else (manteletlaw03_FrameCuts.j1 k x0 x1 x5 x6 false)
def manteletlaw03_FrameCuts.j1 : Nat → List (List Int) → Int → Bool → Int → Bool → Option (Bool)
  | 0, _, _, _, _, _ => none
  | k + 1, x0, x1, x5, x6, x23 => if x23 = true then (if 0 ≤ x6 then (if x6 < (x0.length : Int) then (if ((rd_L1 x0 x6).length : Int) > 1000 then (some x5) else (manteletlaw03_FrameCuts.l0 k x0 x1 x5 (wrap64 (x6 + 1)))) else (none)) else (none)) else ((manteletlaw03_rows.f k x0).bind fun bt275 => (if (wrap64 ((bt275.1.length : Int) + 1)) = 0 then (none) else (manteletlaw03_FrameCuts.l1 k x0 x5 bt275.1 bt275.2 (Int.tmod (wrap64 (x1)) (wrap64 ((bt275.1.length : Int) + 1))) 0 0 0)))
def manteletlaw03_FrameCuts.l1 : Nat → List (List Int) → Bool → List Int → List Int → Int → Int → Int → Int → Option (Bool)
  | 0, _, _, _, _, _, _, _, _ => none
  | k + 1, x0, x5, x7, x8, x9, x10, x11, x12 => if x12 < (x8.length : Int) then (if 0 ≤ x12 then (if (rd x8 x12) ≤ x9 then (manteletlaw03_FrameCuts.l1 k x0 x5 x7 x8 x9 (wrap64 (x12 + 1)) (rd x8 x12) (wrap64 (x12 + 1))) else (manteletlaw03_FrameCuts.l1 k x0 x5 x7 x8 x9 x10 x11 (wrap64 (x12 + 1)))) else (none)) else (if 0 ≤ x9 then (if x9 ≤ (x7.length : Int) then ((frame_Scan.f k (x7.take (x9 : Int).toNat)).bind fun bt287 => (if x5 = true then (if bt287.2 = x11 then (if 0 ≤ x10 then (if x10 ≤ (x0.length : Int) then ((manteletref03_Lists.f k bt287.1 (x0.take (x10 : Int).toNat)).bind fun t295 => (some t295)) else (none)) else (none)) else (none)) else (none))) else (none)) else (none))
end
def manteletlaw03_FrameCuts.f (k : Nat) (l0 : List (List Int)) (a1 : Int) : Option (Bool) := (manteletlaw03_shown.f).bind fun t273 => (manteletlaw03_FrameCuts.l0 k l0 a1 t273 0)
theorem manteletlaw03_FrameCuts.mono_l : ∀ k, (∀ y0 y1 y2 y3, LeO (manteletlaw03_FrameCuts.l0 k y0 y1 y2 y3) (manteletlaw03_FrameCuts.l0 (k + 1) y0 y1 y2 y3)) ∧ (∀ y0 y1 y2 y3 y4, LeO (manteletlaw03_FrameCuts.j1 k y0 y1 y2 y3 y4) (manteletlaw03_FrameCuts.j1 (k + 1) y0 y1 y2 y3 y4)) ∧ (∀ y0 y1 y2 y3 y4 y5 y6 y7, LeO (manteletlaw03_FrameCuts.l1 k y0 y1 y2 y3 y4 y5 y6 y7) (manteletlaw03_FrameCuts.l1 (k + 1) y0 y1 y2 y3 y4 y5 y6 y7))
  | 0 => ⟨fun _ _ _ _ r h => by simp [manteletlaw03_FrameCuts.l0] at h, fun _ _ _ _ _ r h => by simp [manteletlaw03_FrameCuts.j1] at h, fun _ _ _ _ _ _ _ _ r h => by simp [manteletlaw03_FrameCuts.l1] at h⟩
  | k + 1 => by
    obtain ⟨ih0, ih1, ih2⟩ := manteletlaw03_FrameCuts.mono_l k
    refine ⟨?_, ?_, ?_⟩
    · intro y0 y1 y2 y3
      unfold manteletlaw03_FrameCuts.l0
      repeat' first
      | (with_reducible exact ih0 _ _ _ _)
      | (with_reducible exact ih1 _ _ _ _ _)
      | (with_reducible exact ih2 _ _ _ _ _ _ _ _)
      | (with_reducible exact frame_Scan.mono _ _)
      | (with_reducible exact manteletlaw03_rows.mono _ _)
      | (with_reducible exact manteletref03_Lists.mono _ _ _)
      | (with_reducible exact LeO.refl _)
      | (with_reducible exact LeO.none _)
      | (with_reducible refine LeO.ite ?_ ?_)
      | (with_reducible refine LeO.bind ?_ (fun _ => ?_))
      | exact ih0 _ _ _ _
      | exact ih1 _ _ _ _ _
      | exact ih2 _ _ _ _ _ _ _ _
      | exact frame_Scan.mono _ _
      | exact manteletlaw03_rows.mono _ _
      | exact manteletref03_Lists.mono _ _ _
      | exact LeO.none _
      | refine LeO.ite ?_ ?_
      | refine LeO.bind ?_ (fun _ => ?_)
    · intro y0 y1 y2 y3 y4
      unfold manteletlaw03_FrameCuts.j1
      repeat' first
      | (with_reducible exact ih0 _ _ _ _)
      | (with_reducible exact ih1 _ _ _ _ _)
      | (with_reducible exact ih2 _ _ _ _ _ _ _ _)
      | (with_reducible exact frame_Scan.mono _ _)
      | (with_reducible exact manteletlaw03_rows.mono _ _)
      | (with_reducible exact manteletref03_Lists.mono _ _ _)
      | (with_reducible exact LeO.refl _)
      | (with_reducible exact LeO.none _)
      | (with_reducible refine LeO.ite ?_ ?_)
      | (with_reducible refine LeO.bind ?_ (fun _ => ?_))
      | exact ih0 _ _ _ _
      | exact ih1 _ _ _ _ _
      | exact ih2 _ _ _ _ _ _ _ _
      | exact frame_Scan.mono _ _
      | exact manteletlaw03_rows.mono _ _
      | exact manteletref03_Lists.mono _ _ _
      | exact LeO.none _
      | refine LeO.ite ?_ ?_
      | refine LeO.bind ?_ (fun _ => ?_)
    · intro y0 y1 y2 y3 y4 y5 y6 y7
      unfold manteletlaw03_FrameCuts.l1
      repeat' first
      | (with_reducible exact ih0 _ _ _ _)
      | (with_reducible exact ih1 _ _ _ _ _)
      | (with_reducible exact ih2 _ _ _ _ _ _ _ _)
      | (with_reducible exact frame_Scan.mono _ _)
      | (with_reducible exact manteletlaw03_rows.mono _ _)
      | (with_reducible exact manteletref03_Lists.mono _ _ _)
      | (with_reducible exact LeO.refl _)
      | (with_reducible exact LeO.none _)
      | (with_reducible refine LeO.ite ?_ ?_)
      | (with_reducible refine LeO.bind ?_ (fun _ => ?_))
      | exact ih0 _ _ _ _
      | exact ih1 _ _ _ _ _
      | exact ih2 _ _ _ _ _ _ _ _
      | exact frame_Scan.mono _ _
      | exact manteletlaw03_rows.mono _ _
      | exact manteletref03_Lists.mono _ _ _
      | exact LeO.none _
      | refine LeO.ite ?_ ?_
      | refine LeO.bind ?_ (fun _ => ?_)
theorem manteletlaw03_FrameCuts.mono : ∀ a0 a1 k, LeO (manteletlaw03_FrameCuts.f k a0 a1) (manteletlaw03_FrameCuts.f (k + 1) a0 a1) := by
  intro a0 a1 k
  obtain ⟨ih0, ih1, ih2⟩ := manteletlaw03_FrameCuts.mono_l k
  unfold manteletlaw03_FrameCuts.f
  repeat' first
      | (with_reducible exact ih0 _ _ _ _)
      | (with_reducible exact ih1 _ _ _ _ _)
      | (with_reducible exact ih2 _ _ _ _ _ _ _ _)
      | (with_reducible exact frame_Scan.mono _ _)
      | (with_reducible exact manteletlaw03_rows.mono _ _)
      | (with_reducible exact manteletref03_Lists.mono _ _ _)
      | (with_reducible exact LeO.refl _)
      | (with_reducible exact LeO.none _)
      | (with_reducible refine LeO.ite ?_ ?_)
      | (with_reducible refine LeO.bind ?_ (fun _ => ?_))
      | exact ih0 _ _ _ _
      | exact ih1 _ _ _ _ _
      | exact ih2 _ _ _ _ _ _ _ _
      | exact frame_Scan.mono _ _
      | exact manteletlaw03_rows.mono _ _
      | exact manteletref03_Lists.mono _ _ _
      | exact LeO.none _
      | refine LeO.ite ?_ ?_
      | refine LeO.bind ?_ (fun _ => ?_)
set_option maxHeartbeats 8000000 in
set_option maxRecDepth 100000 in
theorem manteletlaw03_FrameCuts.calls (k : Nat) (A0 : Option Addr) (c0 : Nat) (l0 : List (List Int)) (a1 : Int) (r : Bool) (w : World) (hr0 : Kd.C (Kd.slice 5 (Kd.int .u8)) w A0 l0.length l0) (hc0 : l0.length ≤ c0) (h : manteletlaw03_FrameCuts.f k l0 a1 = some r) :
    Calls Try.prog 11 #[.slice A0 l0.length c0, .int .u16 a1] w fun e w' => e = .returned (.bool r) ∧ Below w.heap.size w w' := by
  have HR0 := Aside0.mk hr0
  have HC0 := Aside0.mk hc0
  clear hr0 hc0
  have HB := Aside0.mk (Below.refl w.heap.size w)
  have H : ((manteletlaw03_shown.f).bind fun t273 => (manteletlaw03_FrameCuts.l0 k l0 a1 t273 0)) = some r := h
  clear h
  replace H := Option.bind_eq_some_iff.mp H
  obtain ⟨t273, A30, H⟩ := H
  replace H : (manteletlaw03_FrameCuts.l0 k l0 a1 t273 0) = some r := H
  have A3 := Aside0.mk A30
  clear A30
  have H' := Aside0.mk H
  clear H
  go_enter Try.func11, Try.ntmps11
  go_wp2_with (first | ((with_reducible refine gate_callee (f := 18) rfl ?_); refine goesL_ (some 15) rfl rfl Try.func18 (by kernel_rfl) rfl #[] rfl (by (try simp only [List.map_toArray, List.map_cons, List.map_nil]); first | done | rfl | (simp only [List.length_drop, List.length_take]; rfl)) ?_; (with_reducible refine (manteletlaw03_shown.calls  t273 _ A3.out).mono ?_); rintro e w4 ⟨rfl, hb⟩; refine ⟨_, rfl, ?_⟩; have n0_ := Aside0.mk (below_step (by repeat (first | (with_reducible first | exact HB.out | apply below_alloc | apply pw_below_drewN | apply below_drew1) | exact HB.out)) hb); clear HB; have HB := n0_; clear n0_; (try clear hb); (try clear hb2); (try clear hk); (try clear hi)))
  go_loopg [6] k (fun kq v6 w' => ∃ (x6_1 : Int), v6 = .int .i64 x6_1 ∧ Aside0 (manteletlaw03_FrameCuts.l0 kq l0 a1 t273 x6_1 = some r) ∧ Aside0 (kq ≤ k) ∧ Aside0 (Below w.heap.size w w'))
  case atStart => exact ⟨(0), (by first | rfl | (simp; done) | (simp [*]; done)), H', ⟨Nat.le_refl _⟩, ⟨by repeat (first | (with_reducible first | exact HB.out | apply below_alloc | apply pw_below_drewN | apply below_drew1) | exact HB.out)⟩⟩
  case round =>
    clear H'
    try clear c1
    try clear p2
    obtain ⟨x6_1, rfl, HA, HK1, HB⟩ := hrel
    cases gk with
    | zero => exact absurd HA.out (by simp [manteletlaw03_FrameCuts.l0])
    | succ k1 =>
      have H := HA.out
      clear HA
      simp only [manteletlaw03_FrameCuts.l0] at H
      have HC5 := Aside0.mk H
      clear H
      go_upto_region 3 with (fail)
      go_cut [23] (fun v23 wc => ∃ (kq : Nat) (x23_4 : Bool), v23 = .bool x23_4 ∧ Aside0 (manteletlaw03_FrameCuts.j1 kq l0 a1 t273 x6_1 x23_4 = some r) ∧ Aside0 (kq ≤ k1) ∧ Aside0 (Below w.heap.size w wc))
      case first =>
        have H := HC5.out
        clear HC5
        by_cases c6 : x6_1 < (l0.length : Int)
        · rw [if_pos c6] at H
          have c6b0 : decide (x6_1 < (l0.length : Int)) = true := decide_eq_true c6
          clear c6
          (first | rw [c6b0] | (simp only [i64_w, i32_w]; rw [c6b0]) | skip)
          have H' := Aside0.mk H
          clear H
          go_wp2
          go_meet
          case rel => exact ⟨_, (decide (x6_1 < 20)), (by first | rfl | (simp; done) | (simp [*]; done)), H', ⟨by have := HK1.out; first | omega | exact Nat.le_refl _⟩, ⟨by repeat (first | (with_reducible first | exact HB.out | apply below_alloc | apply pw_below_drewN | apply below_drew1) | exact HB.out)⟩⟩
        · rw [if_neg c6] at H
          have c6b0 : decide (x6_1 < (l0.length : Int)) = false := decide_eq_false c6
          clear c6
          (first | rw [c6b0] | (simp only [i64_w, i32_w]; rw [c6b0]) | skip)
          have H' := Aside0.mk H
          clear H
          go_wp2
          go_meet
          case rel => exact ⟨_, (false), (by first | rfl | (simp; done) | (simp [*]; done)), H', ⟨by have := HK1.out; first | omega | exact Nat.le_refl _⟩, ⟨by repeat (first | (with_reducible first | exact HB.out | apply below_alloc | apply pw_below_drewN | apply below_drew1) | exact HB.out)⟩⟩
      case rest =>
        clear HC5
        try clear c1
        try clear p2
        try clear c6
        try clear c6b0
        try clear p2
        obtain ⟨kq, x23_4, rfl, HA, HJ4, HB⟩ := hcut
        cases kq with
        | zero => exact absurd HA.out (by simp [manteletlaw03_FrameCuts.j1])
        | succ kj4 =>
          have H := HA.out
          clear HA
          simp only [manteletlaw03_FrameCuts.j1] at H
          by_cases c7 : x23_4 = true
          · subst c7
            have H1 : (if 0 ≤ x6_1 then (if x6_1 < (l0.length : Int) then (if ((rd_L1 l0 x6_1).length : Int) > 1000 then (some t273) else (manteletlaw03_FrameCuts.l0 kj4 l0 a1 t273 (wrap64 (x6_1 + 1)))) else (none)) else (none)) = some r := by rw [if_pos rfl] at H; exact H
            clear H
            have H := H1
            clear H1
            by_cases c8 : 0 ≤ x6_1
            · rw [if_pos c8] at H
              have c8b0 : decide (0 ≤ x6_1) = true := decide_eq_true c8
              clear c8
              by_cases c9 : x6_1 < (l0.length : Int)
              · rw [if_pos c9] at H
                have c9b0 : decide (x6_1 < (l0.length : Int)) = true := decide_eq_true c9
                clear c9
                by_cases c10 : ((rd_L1 l0 x6_1).length : Int) > 1000
                · rw [if_pos c10] at H
                  have c10b0 : decide (1000 < ((rd_L1 l0 x6_1).length : Int)) = true := decide_eq_true c10
                  have c10b1 : decide (1000 < (rd_L1 l0 x6_1).length) = true := decide_eq_true (by omega)
                  clear c10
                  obtain rfl := Option.some.inj H
                  have p274 : 0 ≤ (x6_1 : Int) := of_decide_eq_true (by first | (with_reducible assumption) | assumption)
                  have q274 : x6_1 < (l0.length : Int) := of_decide_eq_true (by first | (with_reducible assumption) | assumption)
                  obtain ⟨ad274, A274_0, c274_0, e274, hx274_0, hl274_0, hi274_0⟩ := at_L1 HR0.out x6_1 p274 q274
                  cases e274
                  replace hx274_0 := (HB.out.cell (World.block_lt_of_cell? w _ hx274_0)).trans hx274_0
                  have HR274_0 := Aside0.mk hi274_0
                  have HC274_0 := Aside0.mk hl274_0
                  clear hi274_0 hl274_0
                  replace p274 := eq_true p274
                  replace q274 := eq_true q274
                  go_wp2
                  go_ret
                  exact ⟨by first | rfl | (simp [errW_none, errW_some] <;> rfl) | (simp [*, errW_none, errW_some] <;> rfl), by repeat (first | (with_reducible first | exact HB.out | apply below_alloc | apply pw_below_drewN | apply below_drew1) | exact HB.out)⟩
                · rw [if_neg c10] at H
                  have c10b0 : decide (1000 < ((rd_L1 l0 x6_1).length : Int)) = false := decide_eq_false c10
                  have c10b1 : decide (1000 < (rd_L1 l0 x6_1).length) = false := decide_eq_false (by omega)
                  clear c10
                  have H' := Aside0.mk H
                  clear H
                  have p274 : 0 ≤ (x6_1 : Int) := of_decide_eq_true (by first | (with_reducible assumption) | assumption)
                  have q274 : x6_1 < (l0.length : Int) := of_decide_eq_true (by first | (with_reducible assumption) | assumption)
                  obtain ⟨ad274, A274_0, c274_0, e274, hx274_0, hl274_0, hi274_0⟩ := at_L1 HR0.out x6_1 p274 q274
                  cases e274
                  replace hx274_0 := (HB.out.cell (World.block_lt_of_cell? w _ hx274_0)).trans hx274_0
                  have HR274_0 := Aside0.mk hi274_0
                  have HC274_0 := Aside0.mk hl274_0
                  clear hi274_0 hl274_0
                  replace p274 := eq_true p274
                  replace q274 := eq_true q274
                  go_wp2
                  go_roundg kj4
                  case measure => have := HK1.out; have := HJ4.out; omega
                  case rel => exact ⟨(wrap64 (x6_1 + 1)), (by first | rfl | (simp; done) | (simp [*]; done)), H', ⟨by have := HK1.out; have := HJ4.out; omega⟩, ⟨by repeat (first | (with_reducible first | exact HB.out | apply below_alloc | apply pw_below_drewN | apply below_drew1) | exact HB.out)⟩⟩
              · rw [if_neg c9] at H
                exact absurd H (by simp)
            · rw [if_neg c8] at H
              exact absurd H (by simp)
          · replace c7 := Bool.eq_false_iff.mpr c7
            subst c7
            have H1 : ((manteletlaw03_rows.f kj4 l0).bind fun bt275 => (if (wrap64 ((bt275.1.length : Int) + 1)) = 0 then (none) else (manteletlaw03_FrameCuts.l1 kj4 l0 t273 bt275.1 bt275.2 (Int.tmod (wrap64 (a1)) (wrap64 ((bt275.1.length : Int) + 1))) 0 0 0))) = some r := by rw [if_neg (show ¬ (false = true) by decide)] at H; exact H
            clear H
            have H := H1
            clear H1
            replace H := Option.bind_eq_some_iff.mp H
            obtain ⟨⟨t275, t276⟩, A110, H⟩ := H
            replace H : (if (wrap64 ((t275.length : Int) + 1)) = 0 then (none) else (manteletlaw03_FrameCuts.l1 kj4 l0 t273 t275 t276 (Int.tmod (wrap64 (a1)) (wrap64 ((t275.length : Int) + 1))) 0 0 0)) = some r := H
            have A11 := Aside0.mk A110
            clear A110
            by_cases c12 : (wrap64 ((t275.length : Int) + 1)) = 0
            · rw [if_pos c12] at H
              exact absurd H (by simp)
            · rw [if_neg c12] at H
              have c12b0 : ((wrap64 ((t275.length : Int) + 1)) == 0) = false := beq_eq_false_iff_ne.mpr c12
              have c12b1 : ((wrap64 ((t275.length : Int) + 1)) != 0) = true := bne_iff_ne.mpr c12
              have H' := Aside0.mk H
              clear H
              go_wp2_with (first | ((with_reducible refine gate_callee (f := 26) rfl ?_); refine goesL_ (some 35) rfl rfl Try.func26 (by kernel_rfl) rfl #[.slice A0 l0.length c0] rfl (by (try simp only [List.map_toArray, List.map_cons, List.map_nil]); first | done | rfl | (simp only [List.length_drop, List.length_take]; rfl)) ?_; (with_reducible refine (manteletlaw03_rows.calls kj4 _ _ l0 t275 t276 _ ?side1 ?side2 A11.out).mono ?_); (case side1 => repeat (first | exact (Kd.C_below HR0.out HB.out) | (with_reducible refine Kd.C_alloc ?_ _) | (with_reducible refine Kd.C_drewN ?_ _) | (with_reducible refine Kd.C_drew ?_))); (case side2 => exact HC0.out); rintro e w13 ⟨v277, v279, rfl, ho0, ho1, hb⟩; refine ⟨_, rfl, ?_⟩; have n0_ := Aside0.mk (Kd.R_lower ho0 (below_size (by repeat (first | (with_reducible first | exact HB.out | apply below_alloc | apply pw_below_drewN | apply below_drew1) | exact HB.out)))); have n1_ := Aside0.mk (Kd.R_lower ho1 (below_size (by repeat (first | (with_reducible first | exact HB.out | apply below_alloc | apply pw_below_drewN | apply below_drew1) | exact HB.out)))); have n2_ := Aside0.mk (below_step (by repeat (first | (with_reducible first | exact HB.out | apply below_alloc | apply pw_below_drewN | apply below_drew1) | exact HB.out)) hb); clear HB; have HO278 := n0_; have HO280 := n1_; have HB := n2_; clear n0_ n1_ n2_; (try clear hb); (try clear hb2); (try clear hk); (try clear hi); (try clear ho0); (try clear ho1); obtain ⟨Ao14, co14, eo14⟩ := Kd.R_slice HO278.out; subst eo14))
              go_loopg [10, 11, 12] kj4 (fun kq v10 v11 v12 w' => ∃ (x10_3 : Int) (x11_3 : Int) (x12_3 : Int), v10 = .int .i64 x10_3 ∧ v11 = .int .i64 x11_3 ∧ v12 = .int .i64 x12_3 ∧ Aside0 (manteletlaw03_FrameCuts.l1 kq l0 t273 t275 t276 (Int.tmod (wrap64 (a1)) (wrap64 ((t275.length : Int) + 1))) x10_3 x11_3 x12_3 = some r) ∧ Aside0 (kq ≤ kj4) ∧ Aside0 (Kd.R (Kd.int .u8) 5 w' w.heap.size (fun _ => True) (.slice Ao14 t275.length co14) t275) ∧ Aside0 (Kd.R (Kd.int .i64) 3 w' w.heap.size (fun _ => True) v279 t276) ∧ Aside0 (Below w.heap.size w w'))
              case atStart => exact ⟨(0), (0), (0), (by first | rfl | (simp; done) | (simp [*]; done)), (by first | rfl | (simp; done) | (simp [*]; done)), (by first | rfl | (simp; done) | (simp [*]; done)), H', ⟨Nat.le_refl _⟩, ⟨by (with_reducible repeat (first | apply Kd.R_alloc | apply Kd.R_drewN | apply Kd.R_drew)); exact HO278.out⟩, ⟨by (with_reducible repeat (first | apply Kd.R_alloc | apply Kd.R_drewN | apply Kd.R_drew)); exact HO280.out⟩, ⟨by repeat (first | (with_reducible first | exact HB.out | apply below_alloc | apply pw_below_drewN | apply below_drew1) | exact HB.out)⟩⟩
              case round =>
                clear H'
                try clear c1
                try clear c2
                try clear p2
                try clear q2
                try clear hx2
                try clear c6
                try clear c6b0
                try clear p6
                try clear c7
                try clear c8
                try clear c8b0
                try clear c9
                try clear c9b0
                try clear c10
                try clear c10b0
                try clear c10b1
                try clear c11
                try clear c12
                try clear c12b0
                try clear c12b1
                try clear hx274_0
                try clear p2
                try clear p274
                try clear q274
                obtain ⟨x10_3, x11_3, x12_3, rfl, rfl, rfl, HA, HK3, HO_7, HO_8, HB⟩ := hrel
                cases gk with
                | zero => exact absurd HA.out (by simp [manteletlaw03_FrameCuts.l1])
                | succ k3 =>
                  have H := HA.out
                  clear HA
                  simp only [manteletlaw03_FrameCuts.l1] at H
                  by_cases c15 : x12_3 < (t276.length : Int)
                  · rw [if_pos c15] at H
                    have c15b0 : decide (x12_3 < (t276.length : Int)) = true := decide_eq_true c15
                    clear c15
                    by_cases c16 : 0 ≤ x12_3
                    · rw [if_pos c16] at H
                      have c16b0 : decide (0 ≤ x12_3) = true := decide_eq_true c16
                      clear c16
                      by_cases c17 : (rd t276 x12_3) ≤ (Int.tmod (wrap64 (a1)) (wrap64 ((t275.length : Int) + 1)))
                      · rw [if_pos c17] at H
                        have c17b0 : decide ((rd t276 x12_3) ≤ (Int.tmod (wrap64 (a1)) (wrap64 ((t275.length : Int) + 1)))) = true := decide_eq_true c17
                        clear c17
                        have H' := Aside0.mk H
                        clear H
                        obtain ⟨Ao18, co18, eo18⟩ := Kd.R_slice HO_8.out
                        subst eo18
                        have p281 : 0 ≤ (x12_3 : Int) := of_decide_eq_true (by first | (with_reducible assumption) | assumption)
                        have q281 : x12_3 < (t276.length : Int) := of_decide_eq_true (by first | (with_reducible assumption) | assumption)
                        obtain ⟨ad281, e281, hx281_0⟩ := Kd.at_int (Kd.R_reads' HO_8.out).2.2 x12_3 p281 q281
                        cases e281
                        replace p281 := eq_true p281
                        replace q281 := eq_true q281
                        have p282 : 0 ≤ (x12_3 : Int) := of_decide_eq_true (by first | (with_reducible assumption) | assumption)
                        have q282 : x12_3 < (t276.length : Int) := of_decide_eq_true (by first | (with_reducible assumption) | assumption)
                        obtain ⟨ad282, e282, hx282_0⟩ := Kd.at_int (Kd.R_reads' HO_8.out).2.2 x12_3 p282 q282
                        obtain rfl : ad281 = ad282 := (by injection e282)
                        replace p282 := eq_true p282
                        replace q282 := eq_true q282
                        go_wp2
                        go_roundg k3
                        case measure => have := HK1.out; have := HJ4.out; have := HK3.out; omega
                        case rel => exact ⟨(wrap64 (x12_3 + 1)), (rd t276 x12_3), (wrap64 (x12_3 + 1)), (by first | rfl | (simp; done) | (simp [*]; done)), (by first | rfl | (simp; done) | (simp [*]; done)), (by first | rfl | (simp; done) | (simp [*]; done)), H', ⟨by have := HK1.out; have := HJ4.out; have := HK3.out; omega⟩, ⟨by (with_reducible repeat (first | apply Kd.R_alloc | apply Kd.R_drewN | apply Kd.R_drew)); exact HO_7.out⟩, ⟨by (with_reducible repeat (first | apply Kd.R_alloc | apply Kd.R_drewN | apply Kd.R_drew)); exact HO_8.out⟩, ⟨by repeat (first | (with_reducible first | exact HB.out | apply below_alloc | apply pw_below_drewN | apply below_drew1) | exact HB.out)⟩⟩
                      · rw [if_neg c17] at H
                        have c17b0 : decide ((rd t276 x12_3) ≤ (Int.tmod (wrap64 (a1)) (wrap64 ((t275.length : Int) + 1)))) = false := decide_eq_false c17
                        clear c17
                        have H' := Aside0.mk H
                        clear H
                        obtain ⟨Ao19, co19, eo19⟩ := Kd.R_slice HO_8.out
                        subst eo19
                        have p281 : 0 ≤ (x12_3 : Int) := of_decide_eq_true (by first | (with_reducible assumption) | assumption)
                        have q281 : x12_3 < (t276.length : Int) := of_decide_eq_true (by first | (with_reducible assumption) | assumption)
                        obtain ⟨ad281, e281, hx281_0⟩ := Kd.at_int (Kd.R_reads' HO_8.out).2.2 x12_3 p281 q281
                        cases e281
                        replace p281 := eq_true p281
                        replace q281 := eq_true q281
                        go_wp2
                        go_roundg k3
                        case measure => have := HK1.out; have := HJ4.out; have := HK3.out; omega
                        case rel => exact ⟨(x10_3), (x11_3), (wrap64 (x12_3 + 1)), (by first | rfl | (simp; done) | (simp [*]; done)), (by first | rfl | (simp; done) | (simp [*]; done)), (by first | rfl | (simp; done) | (simp [*]; done)), H', ⟨by have := HK1.out; have := HJ4.out; have := HK3.out; omega⟩, ⟨by (with_reducible repeat (first | apply Kd.R_alloc | apply Kd.R_drewN | apply Kd.R_drew)); exact HO_7.out⟩, ⟨by (with_reducible repeat (first | apply Kd.R_alloc | apply Kd.R_drewN | apply Kd.R_drew)); exact HO_8.out⟩, ⟨by repeat (first | (with_reducible first | exact HB.out | apply below_alloc | apply pw_below_drewN | apply below_drew1) | exact HB.out)⟩⟩
                    · rw [if_neg c16] at H
                      exact absurd H (by simp)
                  · rw [if_neg c15] at H
                    have c15b0 : decide (x12_3 < (t276.length : Int)) = false := decide_eq_false c15
                    clear c15
                    obtain ⟨ji20, hji20⟩ : ∃ j_ : Int, (Int.tmod (wrap64 (a1)) (wrap64 ((t275.length : Int) + 1))) = j_ := ⟨_, rfl⟩
                    replace H : (if 0 ≤ (ji20) then (if (ji20) ≤ (t275.length : Int) then ((frame_Scan.f k3 (t275.take ((ji20) : Int).toNat)).bind fun bt287 => (if t273 = true then (if bt287.2 = x11_3 then (if 0 ≤ x10_3 then (if x10_3 ≤ (l0.length : Int) then ((manteletref03_Lists.f k3 bt287.1 (l0.take (x10_3 : Int).toNat)).bind fun t295 => (some t295)) else (none)) else (none)) else (none)) else (none))) else (none)) else (none)) = some r := by first | (rw [hji20] at H; exact H) | (simp only [hji20] at H ⊢; exact H)
                    by_cases c21 : 0 ≤ (ji20)
                    · rw [if_pos c21] at H
                      have c21b0 := eq_true c21
                      have c21b1 : decide (0 ≤ (ji20)) = true := decide_eq_true c21
                      clear c21
                      by_cases c22 : (ji20) ≤ (t275.length : Int)
                      · rw [if_pos c22] at H
                        have c22b0 := eq_true c22
                        have c22b1 : decide ((ji20) ≤ (t275.length : Int)) = true := decide_eq_true c22
                        clear c22
                        obtain ⟨y283, hy283⟩ : ∃ y_ : List Int, y_ = (t275.take ((ji20) : Int).toNat) := ⟨_, rfl⟩
                        replace H : ((frame_Scan.f k3 y283).bind fun bt287 => (if t273 = true then (if bt287.2 = x11_3 then (if 0 ≤ x10_3 then (if x10_3 ≤ (l0.length : Int) then ((manteletref03_Lists.f k3 bt287.1 (l0.take (x10_3 : Int).toNat)).bind fun t295 => (some t295)) else (none)) else (none)) else (none)) else (none))) = some r := by first | (rw [hy283]; with_reducible exact H) | (have H2_ := (Option.bind_some _ _).symm.trans H; rw [hy283]; with_reducible exact H2_) | (have H2_ := (Option.bind_some _ _).symm.trans H; with_reducible exact H2_) | with_reducible exact H | (rw [hy283]; exact H) | exact H
                        have Ny283 := Aside0.mk hy283
                        clear hy283
                        replace H := Option.bind_eq_some_iff.mp H
                        obtain ⟨⟨t287, t288⟩, A230, H⟩ := H
                        replace H : (if t273 = true then (if t288 = x11_3 then (if 0 ≤ x10_3 then (if x10_3 ≤ (l0.length : Int) then ((manteletref03_Lists.f k3 t287 (l0.take (x10_3 : Int).toNat)).bind fun t295 => (some t295)) else (none)) else (none)) else (none)) else (none)) = some r := H
                        have A23 := Aside0.mk A230
                        clear A230
                        by_cases c24 : t273 = true
                        · subst c24
                          have H1 : (if t288 = x11_3 then (if 0 ≤ x10_3 then (if x10_3 ≤ (l0.length : Int) then ((manteletref03_Lists.f k3 t287 (l0.take (x10_3 : Int).toNat)).bind fun t295 => (some t295)) else (none)) else (none)) else (none)) = some r := by rw [if_pos rfl] at H; exact H
                          clear H
                          have H := H1
                          clear H1
                          by_cases c25 : t288 = x11_3
                          · rw [if_pos c25] at H
                            have c25b0 : (t288 == x11_3) = true := beq_iff_eq.mpr c25
                            have c25b1 : (t288 != x11_3) = false := bne_eq_false_iff_eq.mpr c25
                            clear c25
                            by_cases c26 : 0 ≤ x10_3
                            · rw [if_pos c26] at H
                              have c26b0 := eq_true c26
                              have c26b1 : decide (0 ≤ x10_3) = true := decide_eq_true c26
                              clear c26
                              by_cases c27 : x10_3 ≤ (l0.length : Int)
                              · rw [if_pos c27] at H
                                have c27b0 := eq_true c27
                                have c27b1 : decide (x10_3 ≤ (l0.length : Int)) = true := decide_eq_true c27
                                clear c27
                                obtain ⟨y291, hy291⟩ : ∃ y_ : List (List Int), y_ = (l0.take (x10_3 : Int).toNat) := ⟨_, rfl⟩
                                replace H : ((manteletref03_Lists.f k3 t287 y291).bind fun t295 => (some t295)) = some r := by first | (rw [hy291]; with_reducible exact H) | (have H2_ := (Option.bind_some _ _).symm.trans H; rw [hy291]; with_reducible exact H2_) | (have H2_ := (Option.bind_some _ _).symm.trans H; with_reducible exact H2_) | with_reducible exact H | (rw [hy291]; exact H) | exact H
                                have Ny291 := Aside0.mk hy291
                                clear hy291
                                replace H := Option.bind_eq_some_iff.mp H
                                obtain ⟨t295, A280, H⟩ := H
                                replace H : (some t295) = some r := H
                                have A28 := Aside0.mk A280
                                clear A280
                                obtain rfl := Option.some.inj H
                                obtain ⟨Ao29, co29, eo29⟩ := Kd.R_slice HO_8.out
                                subst eo29
                                have q30 : ((ji20) : Int) ≤ ((t275.length : Int) : Int) := of_decide_eq_true (by first | (with_reducible assumption) | assumption)
                                obtain ⟨i030, hi030, _, hsz30, _⟩ := info_parts info5
                                have hroom30 : t275.length ≤ co14 := (Kd.R_reads' HO_7.out).2.1
                                have hC30 : Kd.C (Kd.int .u8) _ Ao14 t275.length t275 := (Kd.R_reads' HO_7.out).2.2
                                have hcut30 := cut_to (P := Try.prog) 22 5 .i64 Try.underlying22 hi030 Ao14 t275.length co14 (ji20) (of_decide_eq_true (by first | (with_reducible assumption) | assumption)) q30 hroom30
                                have hr30 := Kd.C_take (m := ((ji20) : Int).toNat) hC30 (by omega)
                                have hy30 : y283.length = ((ji20) : Int).toNat := (by rw [Ny283.out, List.length_take]; omega)
                                rw [← Ny283.out] at hr30
                                rw [← hy30] at hcut30
                                have HR286 := Aside0.mk hr30
                                have HC286 := Aside0.mk (show y283.length ≤ co14 from by omega)
                                clear hr30 hC30 hroom30 hi030 hsz30
                                have KY30 := Aside0.mk hy30
                                clear hy30
                                have KL30 := Aside0.mk (show ((ji20) : Int).toNat ≤ t275.length from by omega)
                                replace q30 := eq_true q30
                                go_wp2_with (first | ((with_reducible refine gate_callee (f := 23) rfl ?_); refine goesL_ (some 66) rfl rfl Try.func23 (by kernel_rfl) rfl #[.slice Ao14 y283.length co14] rfl (by (try simp only [List.map_toArray, List.map_cons, List.map_nil]); first | done | rfl | (simp only [List.length_drop, List.length_take]; rfl)) ?_; (with_reducible refine (frame_Scan.calls k3 _ _ y283 t287 t288 _ ?side1 ?side2 A23.out).mono ?_); (case side1 => repeat (first | exact (by repeat (first | (with_reducible exact HR286.out) | (with_reducible refine Kd.C_alloc ?_ _) | (with_reducible refine Kd.C_drewN ?_ _) | (with_reducible refine Kd.C_drew ?_) | exact HR286.out)) | (with_reducible refine Kd.C_alloc ?_ _) | (with_reducible refine Kd.C_drewN ?_ _) | (with_reducible refine Kd.C_drew ?_))); (case side2 => exact HC286.out); rintro e w31 ⟨v289, rfl, ho0, hb⟩; refine ⟨_, rfl, ?_⟩; have n0_ := Aside0.mk (Kd.R_below (by (with_reducible repeat (first | apply Kd.R_alloc | apply Kd.R_drewN | apply Kd.R_drew)); exact HO_7.out) hb); have n1_ := Aside0.mk (Kd.R_below (by (with_reducible repeat (first | apply Kd.R_alloc | apply Kd.R_drewN | apply Kd.R_drew)); exact HO_8.out) hb); have n2_ := Aside0.mk (Kd.S_lower (Kd.S_new' ho0 (Kd.R_lt (by (with_reducible repeat (first | apply Kd.R_alloc | apply Kd.R_drewN | apply Kd.R_drew)); exact HO_7.out))) (below_size (by repeat (first | (with_reducible first | exact HB.out | apply below_alloc | apply pw_below_drewN | apply below_drew1) | exact HB.out)))); have n3_ := Aside0.mk (Kd.C_below (by repeat (first | (with_reducible exact HR286.out) | (with_reducible refine Kd.C_alloc ?_ _) | (with_reducible refine Kd.C_drewN ?_ _) | (with_reducible refine Kd.C_drew ?_) | exact HR286.out)) hb); have n4_ := Aside0.mk (below_step (by repeat (first | (with_reducible first | exact HB.out | apply below_alloc | apply pw_below_drewN | apply below_drew1) | exact HB.out)) hb); clear HO_7; clear HO_8; clear HR286; clear HB; have HO_7 := n0_; have HO_8 := n1_; have HO290 := n2_; have HR286 := n3_; have HB := n4_; clear n0_ n1_ n2_ n3_ n4_; (try clear hb); (try clear hb2); (try clear hk); (try clear hi); (try clear ho0); have q32 : (x10_3 : Int) ≤ ((l0.length : Int) : Int) := of_decide_eq_true (by first | (with_reducible assumption) | assumption); obtain ⟨i032, hi032, _, hsz32, _⟩ := info_parts info22; have hroom32 : l0.length ≤ c0 := HC0.out; have hC32 : Kd.C (Kd.slice 5 (Kd.int .u8)) _ A0 l0.length l0 := HR0.out; have hcut32 := cut_to (P := Try.prog) 44 22 .i64 Try.underlying44 hi032 A0 l0.length c0 x10_3 (of_decide_eq_true (by first | (with_reducible assumption) | assumption)) q32 hroom32; have hr32 := Kd.C_take (m := (x10_3 : Int).toNat) hC32 (by omega); have hy32 : y291.length = (x10_3 : Int).toNat := (by rw [Ny291.out, List.length_take]; omega); rw [← Ny291.out] at hr32; rw [← hy32] at hcut32; have HR294 := Aside0.mk hr32; have HC294 := Aside0.mk (show y291.length ≤ c0 from by omega); clear hr32 hC32 hroom32 hi032 hsz32; have KY32 := Aside0.mk hy32; clear hy32; replace q32 := eq_true q32; obtain ⟨Ao33, co33, eo33⟩ := Kd.S_slice HO290.out; subst eo33) | (go_at_call 25; (with_reducible refine (manteletref03_Lists.calls k3 _ _ t287 _ _ y291 t295 _ ?side1 ?side2 ?side3 ?side4 A28.out).mono ?_); (case side1 => repeat (first | exact (Kd.S_reads' HO290.out).2.2 | (with_reducible refine Kd.C_alloc ?_ _) | (with_reducible refine Kd.C_drewN ?_ _) | (with_reducible refine Kd.C_drew ?_))); (case side2 => exact (Kd.S_reads' HO290.out).2.1); (case side3 => repeat (first | exact (Kd.C_below HR294.out HB.out) | (with_reducible refine Kd.C_alloc ?_ _) | (with_reducible refine Kd.C_drewN ?_ _) | (with_reducible refine Kd.C_drew ?_))); (case side4 => exact HC294.out); rintro e w' ⟨rfl, ⟨nd, rfl⟩⟩))
                                go_ret
                                exact ⟨by first | rfl | (simp [errW_none, errW_some] <;> rfl) | (simp only [← hji20]; first | rfl | (simp [errW_none, errW_some] <;> rfl)) | (simp [*, errW_none, errW_some] <;> rfl), by repeat (first | (with_reducible first | exact HB.out | apply below_alloc | apply pw_below_drewN | apply below_drew1) | exact HB.out)⟩
                              · rw [if_neg c27] at H
                                exact absurd H (by simp)
                            · rw [if_neg c26] at H
                              exact absurd H (by simp)
                          · rw [if_neg c25] at H
                            exact absurd H (by simp)
                        · replace c24 := Bool.eq_false_iff.mpr c24
                          subst c24
                          have H1 : (none) = some r := by rw [if_neg (show ¬ (false = true) by decide)] at H; exact H
                          clear H
                          have H := H1
                          clear H1
                          exact absurd H (by simp)
                      · rw [if_neg c22] at H
                        exact absurd H (by simp)
                    · rw [if_neg c21] at H
                      exact absurd H (by simp)

end Go.Proofs.Ytlodjdghccejcaa.PFrame
