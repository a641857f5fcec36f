/- Contracts of Go functions: called with what reads as these lists and numbers, a function returns what its plain Lean function says, and leaves what was there. Written by a program of this session. -/
import Derived.Test.YtlndbodbhbcgcaaPPassesx0
import Derived.Test.YtlndbodbhbcgcaaPPassesx1
namespace Go.Proofs.Ytlndbodbhbcgcaa.PPasses
open Go.RowKit Go.Proofs.YtlndbodbhbcgcaaW.PrintWords Go.Proofs.YtlndbodbhbcgcaaW.PrintLast Go.Proofs.YtlndbodbhbcgcaaW.PrintMore
attribute [local go_sem] max2_int min2_int max_two min_two max_three min_three max_four min_four   -- for this text's walks alone
set_option linter.unusedVariables false
set_option linter.unusedSimpArgs false

attribute [local go_sem high] eqA25
/-! ### passes_fans: function 25 -/
def passes_fans.f (a0 : Int) : Option (Bool) := if a0 ≥ 2 then (some (decide (a0 ≤ 8))) else (some false)
set_option maxHeartbeats 8000000 in
set_option maxRecDepth 100000 in
theorem passes_fans.calls (a0 : Int) (r : Bool) (w : World) (h : passes_fans.f a0 = some r) :
    Calls Try.prog 25 #[.int .i64 a0] w fun e w' => e = .returned (.bool r) ∧ Drawn0 w w' := by
  have H : (if a0 ≥ 2 then (some (decide (a0 ≤ 8))) else (some false)) = some r := h
  clear h
  by_cases c2 : a0 ≥ 2
  · rw [if_pos c2] at H
    have c2b0 : decide (2 ≤ a0) = true := decide_eq_true c2
    clear c2
    obtain rfl := Option.some.inj H
    go_enter Try.func25, Try.ntmps25
    go_wp2
    go_ret
    exact ⟨by first | rfl | (simp; done) | (simp [*]; done), by repeat (first | exact Drawn0.refl _ | apply Drawn0.step)⟩
  · rw [if_neg c2] at H
    have c2b0 : decide (2 ≤ a0) = false := decide_eq_false c2
    clear c2
    obtain rfl := Option.some.inj H
    go_enter Try.func25, Try.ntmps25
    go_wp2
    go_ret
    exact ⟨by first | rfl | (simp; done) | (simp [*]; done), by repeat (first | exact Drawn0.refl _ | apply Drawn0.step)⟩

/-! ### passes_Groups: function 14 -/
mutual
def passes_Groups.j0 : Nat → Int → Int → Bool → Option ((List (S25)))
  | 0, _, _, _ => none
  | k + 1, x0, x1, x17 => if x17 = true then (some ([] : List (S25))) else (passes_Groups.l0 k x0 x1 ([] : List (S25)) 0)
def passes_Groups.l0 : Nat → Int → Int → List (S25) → Int → Option ((List (S25)))
  | 0, _, _, _, _ => none
  | k + 1, x0, x1, x5, x6 => if x6 < x0 then (if x5.length < 8796093022208 then (passes_Groups.l0 k x0 x1 (x5 ++ [(⟨x6, mn (wrap64 (x6 + x1)) x0⟩ : S25)]) (wrap64 (x6 + x1))) else (none)) else (some x5)
end
def passes_Groups.f (k : Nat) (a0 : Int) (a1 : Int) : Option ((List (S25))) := if a0 < 1 then (passes_Groups.j0 k a0 a1 true) else (if a0 > 65536 then (passes_Groups.j0 k a0 a1 true) else ((passes_fans.f a1).bind fun t101 => (passes_Groups.j0 k a0 a1 (!t101))))
theorem passes_Groups.mono_l : ∀ k, (∀ y0 y1 y2, LeO (passes_Groups.j0 k y0 y1 y2) (passes_Groups.j0 (k + 1) y0 y1 y2)) ∧ (∀ y0 y1 y2 y3, LeO (passes_Groups.l0 k y0 y1 y2 y3) (passes_Groups.l0 (k + 1) y0 y1 y2 y3))
  | 0 => ⟨fun _ _ _ r h => by simp [passes_Groups.j0] at h, fun _ _ _ _ r h => by simp [passes_Groups.l0] at h⟩
  | k + 1 => by
    obtain ⟨ih0, ih1⟩ := passes_Groups.mono_l k
    refine ⟨?_, ?_⟩
    · intro y0 y1 y2
      unfold passes_Groups.j0
      repeat' first
      | (with_reducible exact ih0 _ _ _)
      | (with_reducible exact ih1 _ _ _ _)
      | (with_reducible exact LeO.refl _)
      | (with_reducible exact LeO.none _)
      | (with_reducible refine LeO.ite ?_ ?_)
      | (with_reducible refine LeO.bind ?_ (fun _ => ?_))
      | exact ih0 _ _ _
      | exact ih1 _ _ _ _
      | exact LeO.none _
      | refine LeO.ite ?_ ?_
      | refine LeO.bind ?_ (fun _ => ?_)
    · intro y0 y1 y2 y3
      unfold passes_Groups.l0
      repeat' first
      | (with_reducible exact ih0 _ _ _)
      | (with_reducible exact ih1 _ _ _ _)
      | (with_reducible exact LeO.refl _)
      | (with_reducible exact LeO.none _)
      | (with_reducible refine LeO.ite ?_ ?_)
      | (with_reducible refine LeO.bind ?_ (fun _ => ?_))
      | exact ih0 _ _ _
      | exact ih1 _ _ _ _
      | exact LeO.none _
      | refine LeO.ite ?_ ?_
      | refine LeO.bind ?_ (fun _ => ?_)
theorem passes_Groups.mono : ∀ a0 a1 k, LeO (passes_Groups.f k a0 a1) (passes_Groups.f (k + 1) a0 a1) := by
  intro a0 a1 k
  obtain ⟨ih0, ih1⟩ := passes_Groups.mono_l k
  unfold passes_Groups.f
  repeat' first
      | (with_reducible exact ih0 _ _ _)
      | (with_reducible exact ih1 _ _ _ _)
      | (with_reducible exact LeO.refl _)
      | (with_reducible exact LeO.none _)
      | (with_reducible refine LeO.ite ?_ ?_)
      | (with_reducible refine LeO.bind ?_ (fun _ => ?_))
      | exact ih0 _ _ _
      | exact ih1 _ _ _ _
      | exact LeO.none _
      | refine LeO.ite ?_ ?_
      | refine LeO.bind ?_ (fun _ => ?_)
set_option maxHeartbeats 8000000 in
set_option maxRecDepth 100000 in
theorem passes_Groups.calls (k : Nat) (a0 : Int) (a1 : Int) (r : List (S25)) (w : World) (h : passes_Groups.f k a0 a1 = some r) :
    Calls Try.prog 14 #[.int .i64 a0, .int .i64 a1] w fun e w' => ∃ v0_ : Value, e = .returned (v0_) ∧ Kd.R k25 25 w' w.heap.size (fun _ => True) v0_ r ∧ Below w.heap.size w w' := by
  have hu25 := Try.underlying25
  have HB := Aside0.mk (Below.refl w.heap.size w)
  have H : (if a0 < 1 then (passes_Groups.j0 k a0 a1 true) else (if a0 > 65536 then (passes_Groups.j0 k a0 a1 true) else ((passes_fans.f a1).bind fun t101 => (passes_Groups.j0 k a0 a1 (!t101))))) = some r := h
  clear h
  have HC3 := Aside0.mk H
  clear H
  go_enter Try.func14, Try.ntmps14
  go_upto_region 1 with (fail)
  go_cut [17] (fun v17 wc => ∃ (kq : Nat) (x17_2 : Bool), v17 = .bool x17_2 ∧ Aside0 (passes_Groups.j0 kq a0 a1 x17_2 = some r) ∧ Aside0 (kq ≤ k) ∧ Aside0 (Below w.heap.size w wc))
  case first =>
    have H := HC3.out
    clear HC3
    by_cases c4 : a0 < 1
    · rw [if_pos c4] at H
      have c4b0 : decide (a0 < 1) = true := decide_eq_true c4
      clear c4
      (first | rw [c4b0] | (simp only [i64_w, i32_w]; rw [c4b0]) | skip)
      have H' := Aside0.mk H
      clear H
      go_wp2
      go_meet
      case rel => exact ⟨_, (true), (by first | rfl | (simp; done) | (simp [*]; done)), H', ⟨by first | omega | exact Nat.le_refl _⟩, ⟨by repeat (first | (with_reducible first | exact HB.out | apply below_alloc | apply pw_below_drewN | apply below_drew1) | exact HB.out)⟩⟩
    · rw [if_neg c4] at H
      have c4b0 : decide (a0 < 1) = false := decide_eq_false c4
      clear c4
      (first | rw [c4b0] | (simp only [i64_w, i32_w]; rw [c4b0]) | skip)
      by_cases c5 : a0 > 65536
      · rw [if_pos c5] at H
        have c5b0 : decide (65536 < a0) = true := decide_eq_true c5
        clear c5
        have H' := Aside0.mk H
        clear H
        go_wp2
        go_meet
        case rel => exact ⟨_, (true), (by first | rfl | (simp; done) | (simp [*]; done)), H', ⟨by first | omega | exact Nat.le_refl _⟩, ⟨by repeat (first | (with_reducible first | exact HB.out | apply below_alloc | apply pw_below_drewN | apply below_drew1) | exact HB.out)⟩⟩
      · rw [if_neg c5] at H
        have c5b0 : decide (65536 < a0) = false := decide_eq_false c5
        clear c5
        replace H := Option.bind_eq_some_iff.mp H
        obtain ⟨t101, A60, H⟩ := H
        replace H : (passes_Groups.j0 k a0 a1 (!t101)) = some r := H
        have A6 := Aside0.mk A60
        clear A60
        have H' := Aside0.mk H
        clear H
        go_wp2_with (first | (go_at_call 25; (with_reducible refine (passes_fans.calls a1 t101 _ A6.out).mono ?_); rintro e w' ⟨rfl, ⟨nd, rfl⟩⟩))
        go_meet
        case rel => exact ⟨_, (!t101), (by first | rfl | (simp; done) | (simp [*]; done)), H', ⟨by first | omega | exact Nat.le_refl _⟩, ⟨by repeat (first | (with_reducible first | exact HB.out | apply below_alloc | apply pw_below_drewN | apply below_drew1) | exact HB.out)⟩⟩
  case rest =>
    clear HC3
    try clear c1
    try clear p2
    try clear c4
    try clear c4b0
    try clear c5
    try clear c5b0
    obtain ⟨kq, x17_2, rfl, HA, HJ2, HB⟩ := hcut
    cases kq with
    | zero => exact absurd HA.out (by simp [passes_Groups.j0])
    | succ kj2 =>
      have H := HA.out
      clear HA
      simp only [passes_Groups.j0] at H
      by_cases c7 : x17_2 = true
      · subst c7
        have H1 : (some ([] : List (S25))) = some r := by rw [if_pos rfl] at H; exact H
        clear H
        have H := H1
        clear H1
        obtain rfl := Option.some.inj H
        go_wp2
        go_ret
        exact ⟨_, by first | rfl | (simp [errW_none, errW_some] <;> rfl) | (simp [*, errW_none, errW_some] <;> rfl), by first | exact Kd.R_nil _ _ _ _ _ | exact Kd.N_nil _ _ _ _ _ | exact Kd.V_nil _ _ _ _ _ | exact Kd.Q_nil _ _ _ _ _ | exact Kd.S_nil _ _ _ _ _, by repeat (first | (with_reducible first | exact HB.out | apply below_alloc | apply pw_below_drewN | apply below_drew1) | exact HB.out)⟩
      · replace c7 := Bool.eq_false_iff.mpr c7
        subst c7
        have H1 : (passes_Groups.l0 kj2 a0 a1 ([] : List (S25)) 0) = some r := by rw [if_neg (show ¬ (false = true) by decide)] at H; exact H
        clear H
        have H := H1
        clear H1
        have H' := Aside0.mk H
        clear H
        go_wp2
        go_loopg [5, 6] kj2 (fun kq v5 v6 w' => ∃ (x5_2 : List (S25)) (x6_2 : Int), v6 = .int .i64 x6_2 ∧ Aside0 (passes_Groups.l0 kq a0 a1 x5_2 x6_2 = some r) ∧ Aside0 (kq ≤ kj2) ∧ Aside0 (Kd.R k25 25 w' w.heap.size (fun _ => True) v5 x5_2) ∧ Aside0 (Below w.heap.size w w'))
        case atStart => exact ⟨(([] : List (S25))), (0), (by first | rfl | (simp; done) | (simp [*]; done)), H', ⟨Nat.le_refl _⟩, ⟨by first | exact Kd.R_nil _ _ _ _ _ | exact Kd.N_nil _ _ _ _ _ | exact Kd.V_nil _ _ _ _ _ | exact Kd.Q_nil _ _ _ _ _ | exact Kd.S_nil _ _ _ _ _⟩, ⟨by repeat (first | (with_reducible first | exact HB.out | apply below_alloc | apply pw_below_drewN | apply below_drew1) | exact HB.out)⟩⟩
        case round =>
          clear H'
          try clear c1
          try clear p2
          try clear c4
          try clear c4b0
          try clear c5
          try clear c5b0
          try clear c7
          try clear p2
          obtain ⟨x5_2, x6_2, rfl, HA, HK2, HO_5, HB⟩ := hrel
          cases gk with
          | zero => exact absurd HA.out (by simp [passes_Groups.l0])
          | succ k2 =>
            have H := HA.out
            clear HA
            simp only [passes_Groups.l0] at H
            by_cases c8 : x6_2 < a0
            · rw [if_pos c8] at H
              have c8b0 : decide (x6_2 < a0) = true := decide_eq_true c8
              clear c8
              obtain ⟨ji9, hji9⟩ : ∃ j_ : Int, (mn (wrap64 (x6_2 + a1)) a0) = j_ := ⟨_, rfl⟩
              replace H : (if x5_2.length < 8796093022208 then (passes_Groups.l0 k2 a0 a1 (x5_2 ++ [(⟨x6_2, ji9⟩ : S25)]) (wrap64 (x6_2 + a1))) else (none)) = some r := by first | (rw [hji9] at H; exact H) | (simp only [hji9] at H ⊢; exact H)
              have hji9_ : (if a0 < (wrap64 (x6_2 + a1)) then a0 else (wrap64 (x6_2 + a1))) = ji9 := hji9
              by_cases c10 : x5_2.length < 8796093022208
              · rw [if_pos c10] at H
                have LMc10 := Aside0.mk c10
                clear c10
                obtain ⟨y102, hy102⟩ : ∃ y_ : List (S25), y_ = (x5_2 ++ [(⟨x6_2, ji9⟩ : S25)]) := ⟨_, rfl⟩
                replace H : (passes_Groups.l0 k2 a0 a1 y102 (wrap64 (x6_2 + a1))) = some r := by first | (rw [hy102]; with_reducible exact H) | (have H2_ := (Option.bind_some _ _).symm.trans H; rw [hy102]; with_reducible exact H2_) | (have H2_ := (Option.bind_some _ _).symm.trans H; with_reducible exact H2_) | with_reducible exact H | (rw [hy102]; exact H) | exact H
                have Ny102 := Aside0.mk hy102
                clear hy102
                have H' := Aside0.mk H
                clear H
                go_wp2_with (first | ((with_reducible refine gate_builtin (b := .append) (xs := #[.tmp 24, .tmp 32]) rfl ?_); at_builtin; refine Kd.R_append k25 (w0 := w) w.heap.size rfl (.tmp 24) (.tmp 32) 23 25 (.agg #[(.int .i64 0), (.int .i64 0)]) 16 rfl Try.underlying23 info25 rfl (by decide) (by omega) u5 x5_2 (⟨x6_2, ji9⟩ : S25) [.int .i64 x6_2, .int .i64 ji9] (fun _ => True) (fun _ => False) rfl rfl ?aP (fun _ hk => hk.elim) ?aF ?aO ?aB ?aS ?aL ?_; (case aP => exact k25_mkM _ _ _ (⟨x6_2, ji9⟩ : S25)); (case aB => exact (by repeat (first | (with_reducible first | exact HB.out | apply below_alloc | apply pw_below_drewN | apply below_drew1) | exact HB.out))); (case aF => exact (fun _ _ => trivial)); (case aO => exact (by (with_reducible repeat (first | apply Kd.R_alloc | apply Kd.R_drewN | apply Kd.R_drew)); exact HO_5.out)); (case aS => exact (below_size (by repeat (first | (with_reducible first | exact HB.out | apply below_alloc | apply pw_below_drewN | apply below_drew1) | exact HB.out)))); (case aL => have := LMc10.out; omega); intro v103 w11 ho hb hg hat; rw [← Ny102.out] at ho; have n0_ := Aside0.mk (hb); have n1_ := Aside0.mk (ho); clear HB; clear HO_5; have HB := n0_; have HO104 := n1_; clear n0_ n1_; clear ho hb hg hat))
                go_roundg k2
                case measure => have := HJ2.out; have := HK2.out; omega
                case rel => exact ⟨(y102), (wrap64 (x6_2 + a1)), (by first | rfl | (simp; done) | (simp [*]; done)), H', ⟨by have := HJ2.out; have := HK2.out; omega⟩, ⟨by (with_reducible repeat (first | apply Kd.R_alloc | apply Kd.R_drewN | apply Kd.R_drew)); exact HO104.out⟩, ⟨by repeat (first | (with_reducible first | exact HB.out | apply below_alloc | apply pw_below_drewN | apply below_drew1) | exact HB.out)⟩⟩
              · rw [if_neg c10] at H
                exact absurd H (by simp)
            · rw [if_neg c8] at H
              have c8b0 : decide (x6_2 < a0) = false := decide_eq_false c8
              clear c8
              obtain rfl := Option.some.inj H
              go_wp2
              go_ret
              exact ⟨_, by first | rfl | (simp [errW_none, errW_some] <;> rfl) | (simp [*, errW_none, errW_some] <;> rfl), by (with_reducible repeat (first | apply Kd.R_alloc | apply Kd.R_drewN | apply Kd.R_drew)); exact HO_5.out, by repeat (first | (with_reducible first | exact HB.out | apply below_alloc | apply pw_below_drewN | apply below_drew1) | exact HB.out)⟩

/-! ### passes_Passes: function 16 -/
/-- How many groups there are. -/
def passes_Passes.g (n fan : Int) : Int := if n < 1 ∨ n > 65536 ∨ fan < 2 ∨ fan > 8 then 0 else (n + fan - 1) / fan
def passes_Passes.go : Nat → Int → Int → Int → Int
  | 0, _, _, many => many
  | k + 1, n, fan, many => if passes_Passes.g n fan = 0 ∨ n = 1 then many else passes_Passes.go k (passes_Passes.g n fan) fan (many + 1)
def passes_Passes.f (n fan : Int) : Option Int := some (passes_Passes.go 65537 n fan 0)
/-- A group. -/
def passes_Passes.grp (n fan : Int) (i : Nat) : S25 := ⟨i * fan, min (i * fan + fan) n⟩
theorem passes_Passes.g_lt (n fan : Int) (h1 : 1 ≤ n) (h2 : n ≤ 65536) (h3 : 2 ≤ fan) (h4 : fan ≤ 8) : 1 ≤ passes_Passes.g n fan ∧ passes_Passes.g n fan ≤ n ∧ (2 ≤ n → passes_Passes.g n fan < n) ∧ ∀ i : Nat, ((i : Int) < passes_Passes.g n fan ↔ (i : Int) * fan < n) := by
  have e : passes_Passes.g n fan = (n + fan - 1) / fan := by unfold passes_Passes.g; rw [if_neg (by omega)]
  rw [e]
  have hf : fan = 2 ∨ fan = 3 ∨ fan = 4 ∨ fan = 5 ∨ fan = 6 ∨ fan = 7 ∨ fan = 8 := by omega
  rcases hf with rfl | rfl | rfl | rfl | rfl | rfl | rfl <;> (refine ⟨by omega, by omega, fun _ => by omega, fun i => ⟨fun _ => by omega, fun _ => by omega⟩⟩)
theorem passes_Passes.groups_l0 (n fan : Int) (h1 : 1 ≤ n) (h2 : n ≤ 65536) (h3 : 2 ≤ fan) (h4 : fan ≤ 8) (d : Nat) : ∀ (k i : Nat), d < k → i + d = (passes_Passes.g n fan).toNat →
    passes_Groups.l0 k n fan ((List.range i).map (passes_Passes.grp n fan)) (i * fan) = some ((List.range (passes_Passes.g n fan).toNat).map (passes_Passes.grp n fan)) := by
  obtain ⟨g1, g2, g3, g4⟩ := passes_Passes.g_lt n fan h1 h2 h3 h4
  induction d with
  | zero =>
    intro k i hk hi
    obtain ⟨k, rfl⟩ : ∃ m, k = m + 1 := ⟨k - 1, by omega⟩
    have := g4 i
    rw [passes_Groups.l0, if_neg (by omega), show i = (passes_Passes.g n fan).toNat by omega]
  | succ d ih =>
    intro k i hk hi
    obtain ⟨k, rfl⟩ : ∃ m, k = m + 1 := ⟨k - 1, by omega⟩
    have hlt : (i : Int) * fan < n := (g4 i).1 (by omega)
    have h0 : 0 ≤ (i : Int) * fan := Int.mul_nonneg (by omega) (by omega)
    have hw : wrap64 ((i : Int) * fan + fan) = ((i + 1 : Nat) : Int) * fan := by
      have e : ((i + 1 : Nat) : Int) * fan = (i : Int) * fan + fan := by rw [Int.natCast_add, Int.add_mul]; simp
      rw [e]
      generalize (i : Int) * fan = p at *
      unfold wrap64
      omega
    have hm : mn (((i + 1 : Nat) : Int) * fan) n = min ((i : Int) * fan + fan) n := by
      have e : ((i + 1 : Nat) : Int) * fan = (i : Int) * fan + fan := by rw [Int.natCast_add, Int.add_mul]; simp
      rw [e]
      unfold mn
      omega
    rw [passes_Groups.l0, if_pos hlt, if_pos (by rw [List.length_map, List.length_range]; omega), hw, hm]
    have := ih k (i + 1) (by omega) (by omega)
    rw [List.range_succ, List.map_append] at this
    exact this
theorem passes_Passes.groups (k : Nat) (hk : 65540 ≤ k) (n fan : Int) : passes_Groups.f k n fan = some ((List.range (passes_Passes.g n fan).toNat).map (passes_Passes.grp n fan)) := by
  obtain ⟨m, rfl⟩ : ∃ m, k = m + 1 := ⟨k - 1, by omega⟩
  unfold passes_Groups.f passes_fans.f
  by_cases h1 : n < 1
  · have e : passes_Passes.g n fan = 0 := by unfold passes_Passes.g; rw [if_pos (.inl h1)]
    rw [if_pos h1, passes_Groups.j0, if_pos rfl, e]
    rfl
  · rw [if_neg h1]
    by_cases h2 : n > 65536
    · have e : passes_Passes.g n fan = 0 := by unfold passes_Passes.g; rw [if_pos (.inr (.inl h2))]
      rw [if_pos h2, passes_Groups.j0, if_pos rfl, e]
      rfl
    · rw [if_neg h2]
      by_cases h3 : fan ≥ 2
      · rw [if_pos h3, Option.bind_some, passes_Groups.j0]
        by_cases h4 : fan ≤ 8
        · rw [decide_eq_true h4, if_neg (by decide)]
          obtain ⟨g1, g2, g3, g4⟩ := passes_Passes.g_lt n fan (by omega) (by omega) h3 h4
          have := passes_Passes.groups_l0 n fan (by omega) (by omega) h3 h4 (passes_Passes.g n fan).toNat m 0 (by omega) (by omega)
          rw [Int.natCast_zero, Int.zero_mul] at this
          exact this
        · have e : passes_Passes.g n fan = 0 := by unfold passes_Passes.g; rw [if_pos (by omega)]
          rw [decide_eq_false h4, if_pos (by decide), e]
          rfl
      · have e : passes_Passes.g n fan = 0 := by unfold passes_Passes.g; rw [if_pos (by omega)]
        rw [if_neg h3, Option.bind_some, passes_Groups.j0, if_pos (by decide), e]
        rfl
theorem passes_Passes.g_len (n fan : Int) : (((List.range (passes_Passes.g n fan).toNat).map (passes_Passes.grp n fan)).length : Int) = passes_Passes.g n fan := by
  rw [List.length_map, List.length_range]
  by_cases h : n < 1 ∨ n > 65536 ∨ fan < 2 ∨ fan > 8
  · have e : passes_Passes.g n fan = 0 := by unfold passes_Passes.g; rw [if_pos h]
    rw [e]; rfl
  · obtain ⟨g1, _⟩ := passes_Passes.g_lt n fan (by omega) (by omega) (by omega) (by omega)
    omega
/-- What holds whenever the run is at the label: the same answer is still to come. -/
structure passes_Passes.At (fan r n many : Int) (k : Nat) : Prop where
  pos : 1 ≤ k
  fuel : n ≤ 65536 → n.toNat < k
  many0 : 0 ≤ many
  many1 : many ≤ 65536
  sum : n ≤ 65536 → many + n ≤ 65536
  eq : passes_Passes.go k n fan many = r
theorem passes_Passes.At.stop {fan r n many : Int} {k : Nat} (h : passes_Passes.At fan r n many k) (hs : passes_Passes.g n fan = 0 ∨ n = 1) : many = r := by
  obtain ⟨k, rfl⟩ : ∃ m, k = m + 1 := ⟨k - 1, by have := h.pos; omega⟩
  have := h.eq
  rw [passes_Passes.go, if_pos hs] at this
  exact this
theorem passes_Passes.At.next {fan r n many : Int} {k : Nat} (h : passes_Passes.At fan r n many k) (h0 : ¬ passes_Passes.g n fan = 0) (h1 : ¬ n = 1) : passes_Passes.At fan r (passes_Passes.g n fan) (many + 1) (k - 1) ∧ (passes_Passes.g n fan).toNat < n.toNat := by
  have hb : 1 ≤ n ∧ n ≤ 65536 ∧ 2 ≤ fan ∧ fan ≤ 8 := by
    unfold passes_Passes.g at h0
    by_cases h : n < 1 ∨ n > 65536 ∨ fan < 2 ∨ fan > 8
    · rw [if_pos h] at h0
      exact absurd rfl h0
    · omega
  obtain ⟨g1, g2, g3, _⟩ := passes_Passes.g_lt n fan hb.1 hb.2.1 hb.2.2.1 hb.2.2.2
  have g3 := g3 (by omega)
  obtain ⟨k, rfl⟩ : ∃ m, k = m + 1 := ⟨k - 1, by have := h.pos; omega⟩
  have hf := h.fuel hb.2.1
  have hm := h.many0
  have hs := h.sum hb.2.1
  have he := h.eq
  rw [passes_Passes.go, if_neg (by rintro (q | q); exact h0 q; exact h1 q)] at he
  exact ⟨⟨by omega, fun _ => by omega, by omega, by omega, fun _ => by omega, he⟩, by omega⟩
set_option maxHeartbeats 1000000 in
theorem passes_Passes.calls (a0 a1 r : Int) (w : World) (h : passes_Passes.f a0 a1 = some r) :
    Calls Try.prog 16 #[.int .i64 a0, .int .i64 a1] w fun e w' => e = .returned (.int .i64 r) ∧ Below w.heap.size w w' := by
  have HA : Aside0 (passes_Passes.At a1 r a0 0 65537) := ⟨⟨by omega, fun _ => by omega, by omega, by omega, fun _ => by omega, Option.some.inj h⟩⟩
  clear h
  go_enter Try.func16, Try.ntmps16
  go_wp2
  refine wp_scope_jumps 0 (fun a' w' => Below w.heap.size w w' ∧ ∃ (n many : Int) (k : Nat) (u6 u7 u8 u9 u10 u11 u12 u13 u14 u15 u16 u17 u18 u19 u20 u21 : Value), a' = { tmps := #[.int .i64 n, .int .i64 a1, undef, undef, .int .i64 0, .int .i64 many, u6, u7, u8, u9, u10, u11, u12, u13, u14, u15, u16, u17, u18, u19, u20, u21], defers := [] } ∧ passes_Passes.At a1 r n many k) (fun a' _ => (intOf (a'.tmps.getD 0 undef)).toNat) rfl ?_ ?_
  · go_wp2
    go_step3
    obtain ⟨n, rfl⟩ : ∃ n : Int, n = a0 := ⟨a0, rfl⟩
    have HB : Aside0 (Below w.heap.size w w) := ⟨Below.refl _ _⟩
    obtain ⟨l, hl, hlen⟩ : ∃ l, Aside0 (passes_Groups.f 65540 n a1 = some l) ∧ Aside0 ((l.length : Int) = passes_Passes.g n a1) := ⟨_, ⟨passes_Passes.groups 65540 (Nat.le_refl _) n a1⟩, ⟨passes_Passes.g_len n a1⟩⟩
    by_cases hz : l.length = 0
    · have e : 0 = r := HA.out.stop (.inl (by rw [← hlen.out, hz]; rfl))
      subst e
      have ez : ((l.length : Int) == 0) = true := by simpa using hz
      have HZ := Aside0.mk hz
      clear hz
      go_wp2_with (go_at_call 14; refine (passes_Groups.calls 65540 n a1 l _ hl.out).mono ?_; rintro e w1 ⟨v, rfl, hv, hb⟩; obtain ⟨A, c, rfl⟩ := Kd.R_slice hv; have hb1 := Aside0.mk hb; clear hb hv)
      simp only [Exit.jump]
      go_ret
      exact ⟨rfl, below_then HB.out HB.out.size hb1.out⟩
    · have ez : ((l.length : Int) == 0) = false := by simpa using hz
      by_cases h1 : n = 1
      · have e : 0 = r := HA.out.stop (.inr h1)
        subst e
        have e1 : (n == 1) = true := by simpa using h1
        have H1 := Aside0.mk h1
        clear h1
        go_wp2_with (go_at_call 14; refine (passes_Groups.calls 65540 n a1 l _ hl.out).mono ?_; rintro e w1 ⟨v, rfl, hv, hb⟩; obtain ⟨A, c, rfl⟩ := Kd.R_slice hv; have hb1 := Aside0.mk hb; clear hb hv)
        simp only [Exit.jump]
        go_ret
        exact ⟨rfl, below_then HB.out HB.out.size hb1.out⟩
      · have e1 : (n == 1) = false := by simpa using h1
        have HN := Aside0.mk (HA.out.next (by rw [← hlen.out]; omega) h1)
        go_wp2_with (go_at_call 14; refine (passes_Groups.calls 65540 n a1 l _ hl.out).mono ?_; rintro e w1 ⟨v, rfl, hv, hb⟩; obtain ⟨A, c, rfl⟩ := Kd.R_slice hv; have hb1 := Aside0.mk hb; clear hb hv)
        go_step3
        have HN' := HN.out
        rw [← hlen.out] at HN'
        exact ⟨rfl, below_then HB.out HB.out.size hb1.out, _, _, _, _, _, _, _, _, _, _, _, _, _, _, _, _, _, _, _, rfl, by simpa using HN'.1⟩
  · rintro a' w' ⟨hbw, n, many, k, u6, u7, u8, u9, u10, u11, u12, u13, u14, u15, u16, u17, u18, u19, u20, u21, rfl, ha⟩
    have HA := Aside0.mk ha
    have HB := Aside0.mk hbw
    clear ha hbw
    obtain ⟨l, hl, hlen⟩ : ∃ l, Aside0 (passes_Groups.f 65540 n a1 = some l) ∧ Aside0 ((l.length : Int) = passes_Passes.g n a1) := ⟨_, ⟨passes_Passes.groups 65540 (Nat.le_refl _) n a1⟩, ⟨passes_Passes.g_len n a1⟩⟩
    have hm0 : 0 ≤ many := HA.out.many0
    have hm1 : many ≤ 65536 := HA.out.many1
    by_cases hz : l.length = 0
    · have e : many = r := HA.out.stop (.inl (by rw [← hlen.out, hz]; rfl))
      subst e
      have ez : ((l.length : Int) == 0) = true := by simpa using hz
      have HZ := Aside0.mk hz
      clear hz
      go_wp2_with (go_at_call 14; refine (passes_Groups.calls 65540 n a1 l _ hl.out).mono ?_; rintro e w1 ⟨v, rfl, hv, hb⟩; obtain ⟨A, c, rfl⟩ := Kd.R_slice hv; have hb1 := Aside0.mk hb; clear hb hv)
      simp only [Exit.jump]
      go_ret
      exact ⟨rfl, below_then HB.out HB.out.size hb1.out⟩
    · have ez : ((l.length : Int) == 0) = false := by simpa using hz
      by_cases h1 : n = 1
      · have e : many = r := HA.out.stop (.inr h1)
        subst e
        have e1 : (n == 1) = true := by simpa using h1
        have H1 := Aside0.mk h1
        clear h1
        go_wp2_with (go_at_call 14; refine (passes_Groups.calls 65540 n a1 l _ hl.out).mono ?_; rintro e w1 ⟨v, rfl, hv, hb⟩; obtain ⟨A, c, rfl⟩ := Kd.R_slice hv; have hb1 := Aside0.mk hb; clear hb hv)
        simp only [Exit.jump]
        go_ret
        exact ⟨rfl, below_then HB.out HB.out.size hb1.out⟩
      · have e1 : (n == 1) = false := by simpa using h1
        have HN := Aside0.mk (HA.out.next (by rw [← hlen.out]; omega) h1)
        go_wp2_with (go_at_call 14; refine (passes_Groups.calls 65540 n a1 l _ hl.out).mono ?_; rintro e w1 ⟨v, rfl, hv, hb⟩; obtain ⟨A, c, rfl⟩ := Kd.R_slice hv; have hb1 := Aside0.mk hb; clear hb hv)
        go_step3
        have HN' := HN.out
        rw [← hlen.out] at HN'
        exact ⟨rfl, ⟨below_then HB.out HB.out.size hb1.out, _, _, _, _, _, _, _, _, _, _, _, _, _, _, _, _, _, _, _, rfl, HN'.1⟩, by simp [intOf]; have := HN'.2; omega⟩

/-! ### manteletlaw12_shown: function 13 -/
def manteletlaw12_shown.f (k : Nat)  : Option (Bool) := (passes_Groups.f k 5 2).bind fun t105 => (if (t105.length : Int) = 3 then (if 1 < (t105.length : Int) then (if (((rd_T25 t105 1).f0) == 2 && (((rd_T25 t105 1).f1) == 4)) = true then (if 2 < (t105.length : Int) then (if (((rd_T25 t105 2).f0) == 4 && (((rd_T25 t105 2).f1) == 5)) = true then ((passes_Passes.f 5 2).bind fun t110 => (some (t110 == 3))) else (none)) else (none)) else (none)) else (none)) else (none))
theorem manteletlaw12_shown.mono : ∀ k, LeO (manteletlaw12_shown.f k ) (manteletlaw12_shown.f (k + 1) ) := by
  intro  k
  unfold manteletlaw12_shown.f
  repeat' first
      | (with_reducible exact passes_Groups.mono _ _ _)
      | (with_reducible exact LeO.refl _)
      | (with_reducible exact LeO.none _)
      | (with_reducible refine LeO.ite ?_ ?_)
      | (with_reducible refine LeO.bind ?_ (fun _ => ?_))
      | exact passes_Groups.mono _ _ _
      | exact LeO.none _
      | refine LeO.ite ?_ ?_
      | refine LeO.bind ?_ (fun _ => ?_)
set_option maxHeartbeats 8000000 in
set_option maxRecDepth 100000 in
theorem manteletlaw12_shown.calls (k : Nat)  (r : Bool) (w : World) (h : manteletlaw12_shown.f k  = some r) :
    Calls Try.prog 13 #[] w fun e w' => e = .returned (.bool r) ∧ Below w.heap.size w w' := by
  have hu25 := Try.underlying25
  have HB := Aside0.mk (Below.refl w.heap.size w)
  have H : ((passes_Groups.f k 5 2).bind fun t105 => (if (t105.length : Int) = 3 then (if 1 < (t105.length : Int) then (if (((rd_T25 t105 1).f0) == 2 && (((rd_T25 t105 1).f1) == 4)) = true then (if 2 < (t105.length : Int) then (if (((rd_T25 t105 2).f0) == 4 && (((rd_T25 t105 2).f1) == 5)) = true then ((passes_Passes.f 5 2).bind fun t110 => (some (t110 == 3))) else (none)) else (none)) else (none)) else (none)) else (none))) = some r := h
  clear h
  replace H := Option.bind_eq_some_iff.mp H
  obtain ⟨t105, A10, H⟩ := H
  replace H : (if (t105.length : Int) = 3 then (if 1 < (t105.length : Int) then (if (((rd_T25 t105 1).f0) == 2 && (((rd_T25 t105 1).f1) == 4)) = true then (if 2 < (t105.length : Int) then (if (((rd_T25 t105 2).f0) == 4 && (((rd_T25 t105 2).f1) == 5)) = true then ((passes_Passes.f 5 2).bind fun t110 => (some (t110 == 3))) else (none)) else (none)) else (none)) else (none)) else (none)) = some r := H
  have A1 := Aside0.mk A10
  clear A10
  by_cases c2 : (t105.length : Int) = 3
  · rw [if_pos c2] at H
    have c2b0 : ((t105.length : Int) == 3) = true := beq_iff_eq.mpr c2
    have c2b1 : ((t105.length : Int) != 3) = false := bne_eq_false_iff_eq.mpr c2
    clear c2
    by_cases c3 : 1 < (t105.length : Int)
    · rw [if_pos c3] at H
      have c3b0 : decide (1 < (t105.length : Int)) = true := decide_eq_true c3
      have c3b1 : decide (1 < t105.length) = true := decide_eq_true (by omega)
      clear c3
      by_cases c4 : (((rd_T25 t105 1).f0) == 2 && (((rd_T25 t105 1).f1) == 4)) = true
      · rw [if_pos c4] at H
        have c4b0 : (((rd_T25 t105 1).f0) == 2 && (((rd_T25 t105 1).f1) == 4)) = true := c4
        (try (have c4b1 : decide (((rd_T25 t105 1).f0) = 2 && (((rd_T25 t105 1).f1) == 4)) = true := by simpa using c4))
        (try (have c4b2 : (((rd_T25 t105 1).f0) == 2 && (((rd_T25 t105 1).f1) == 4)) = true := by simpa using c4))
        clear c4
        by_cases c5 : 2 < (t105.length : Int)
        · rw [if_pos c5] at H
          have c5b0 : decide (2 < (t105.length : Int)) = true := decide_eq_true c5
          have c5b1 : decide (2 < t105.length) = true := decide_eq_true (by omega)
          clear c5
          by_cases c6 : (((rd_T25 t105 2).f0) == 4 && (((rd_T25 t105 2).f1) == 5)) = true
          · rw [if_pos c6] at H
            have c6b0 : (((rd_T25 t105 2).f0) == 4 && (((rd_T25 t105 2).f1) == 5)) = true := c6
            (try (have c6b1 : decide (((rd_T25 t105 2).f0) = 4 && (((rd_T25 t105 2).f1) == 5)) = true := by simpa using c6))
            (try (have c6b2 : (((rd_T25 t105 2).f0) == 4 && (((rd_T25 t105 2).f1) == 5)) = true := by simpa using c6))
            clear c6
            replace H := Option.bind_eq_some_iff.mp H
            obtain ⟨t110, A70, H⟩ := H
            replace H : (some (t110 == 3)) = some r := H
            have A7 := Aside0.mk A70
            clear A70
            obtain rfl := Option.some.inj H
            go_enter Try.func13, Try.ntmps13
            go_wp2_with (first | ((with_reducible refine gate_callee (f := 14) rfl ?_); refine goesL_ (some 2) rfl rfl Try.func14 (by kernel_rfl) rfl #[.int .i64 5, .int .i64 2] rfl (by (try simp only [List.map_toArray, List.map_cons, List.map_nil]); first | done | rfl | (simp only [List.length_drop, List.length_take]; rfl)) ?_; (with_reducible refine (passes_Groups.calls k 5 2 t105 _ A1.out).mono ?_); rintro e w8 ⟨v106, rfl, ho0, hb⟩; refine ⟨_, rfl, ?_⟩; have n0_ := Aside0.mk (Kd.R_lower ho0 (below_size (by repeat (first | (with_reducible first | exact HB.out | apply below_alloc | apply pw_below_drewN | apply below_drew1) | exact HB.out)))); have n1_ := Aside0.mk (below_step (by repeat (first | (with_reducible first | exact HB.out | apply below_alloc | apply pw_below_drewN | apply below_drew1) | exact HB.out)) hb); clear HB; have HO107 := n0_; have HB := n1_; clear n0_ n1_; (try clear hb); (try clear hb2); (try clear hk); (try clear hi); (try clear ho0); obtain ⟨Ao9, co9, eo9⟩ := Kd.R_slice HO107.out; subst eo9; have p108 : 0 ≤ (1 : Int) := (by omega); have q108 : 1 < (t105.length : Int) := of_decide_eq_true (by first | (with_reducible assumption) | assumption); obtain ⟨ad108, e108, hx108_0, hx108_1⟩ := at_T25 (Kd.R_reads' HO107.out).2.2 1 p108 q108; cases e108; (try simp only [show (1 : Int).toNat = 1 from rfl, Nat.reduceMul, Nat.reduceEqDiff, Go.Addr.add, ↓reduceIte] at hx108_0); (try simp only [show (1 : Int).toNat = 1 from rfl, Nat.reduceMul, Nat.reduceEqDiff, Go.Addr.add, ↓reduceIte] at hx108_1); have qi108 : (1 < t105.length) = True := eq_true (by omega); (try rw [show ((1 : Int)).toNat = 1 from rfl] at hx108_0); (try rw [show 1 * 2 = 2 from rfl] at hx108_0); (try rw [show ((1 : Int)).toNat = 1 from rfl] at hx108_1); (try rw [show 1 * 2 = 2 from rfl] at hx108_1); replace p108 := eq_true p108; replace q108 := eq_true q108; have p109 : 0 ≤ (2 : Int) := (by omega); have q109 : 2 < (t105.length : Int) := of_decide_eq_true (by first | (with_reducible assumption) | assumption); obtain ⟨ad109, e109, hx109_0, hx109_1⟩ := at_T25 (Kd.R_reads' HO107.out).2.2 2 p109 q109; obtain rfl : ad108 = ad109 := (by injection e109); (try simp only [show (2 : Int).toNat = 2 from rfl, Nat.reduceMul, Nat.reduceEqDiff, Go.Addr.add, ↓reduceIte] at hx109_0); (try simp only [show (2 : Int).toNat = 2 from rfl, Nat.reduceMul, Nat.reduceEqDiff, Go.Addr.add, ↓reduceIte] at hx109_1); have qi109 : (2 < t105.length) = True := eq_true (by omega); (try rw [show ((2 : Int)).toNat = 2 from rfl] at hx109_0); (try rw [show 2 * 2 = 4 from rfl] at hx109_0); (try rw [show ((2 : Int)).toNat = 2 from rfl] at hx109_1); (try rw [show 2 * 2 = 4 from rfl] at hx109_1); replace p109 := eq_true p109; replace q109 := eq_true q109) | (go_at_call 16; (with_reducible refine (passes_Passes.calls 5 2 t110 _ A7.out).mono ?_); rintro e w10 ⟨rfl, hb⟩; have n0_ := Aside0.mk (Kd.R_below (by (with_reducible repeat (first | apply Kd.R_alloc | apply Kd.R_drewN | apply Kd.R_drew)); exact HO107.out) hb); have n1_ := Aside0.mk (below_step (by repeat (first | (with_reducible first | exact HB.out | apply below_alloc | apply pw_below_drewN | apply below_drew1) | exact HB.out)) hb); clear HO107; clear HB; have HO107 := n0_; have HB := n1_; clear n0_ n1_; (try clear hb); (try clear hb2); (try clear hk); (try clear hi)))
            go_ret
            exact ⟨by first | rfl | (simp [errW_none, errW_some] <;> rfl) | (have e_ := Option.some.inj (A1.out.symm.trans A7.out); subst e_; rfl) | (simp [*, errW_none, errW_some] <;> rfl), by repeat (first | (with_reducible first | exact HB.out | apply below_alloc | apply pw_below_drewN | apply below_drew1) | exact HB.out)⟩
          · rw [if_neg c6] at H
            exact absurd H (by simp)
        · rw [if_neg c5] at H
          exact absurd H (by simp)
      · rw [if_neg c4] at H
        exact absurd H (by simp)
    · rw [if_neg c3] at H
      exact absurd H (by simp)
  · rw [if_neg c2] at H
    exact absurd H (by simp)

/-! ### manteletref12_Groups: function 15 -/
mutual
def manteletref12_Groups.j0 : Nat → Int → Int → List (S25) → Bool → Option ((List (S25)))
  | 0, _, _, _, _ => none
  | k + 1, x0, x1, x5, x21 => if x21 = true then (some x5) else (manteletref12_Groups.l0 k x0 x1 x5 0 1)
def manteletref12_Groups.l0 : Nat → Int → Int → List (S25) → Int → Int → Option ((List (S25)))
  | 0, _, _, _, _, _ => none
  | k + 1, x0, x1, x5, x6, x7 => if x7 ≤ x0 then (if x7 = x0 then (if x5.length < 8796093022208 then (manteletref12_Groups.l0 k x0 x1 (x5 ++ [(⟨x6, x7⟩ : S25)]) x7 (wrap64 (x7 + 1))) else (none)) else (if (wrap64 (x7 - x6)) = x1 then (if x5.length < 8796093022208 then (manteletref12_Groups.l0 k x0 x1 (x5 ++ [(⟨x6, x7⟩ : S25)]) x7 (wrap64 (x7 + 1))) else (none)) else (manteletref12_Groups.l0 k x0 x1 x5 x6 (wrap64 (x7 + 1))))) else (some x5)
end
def manteletref12_Groups.f (k : Nat) (a0 : Int) (a1 : Int) : Option ((List (S25))) := if a0 < 1 then (manteletref12_Groups.j0 k a0 a1 ([] : List (S25)) true) else (if a0 > 65536 then (manteletref12_Groups.j0 k a0 a1 ([] : List (S25)) true) else (if a1 < 2 then (manteletref12_Groups.j0 k a0 a1 ([] : List (S25)) true) else (manteletref12_Groups.j0 k a0 a1 ([] : List (S25)) (decide (a1 > 8)))))
theorem manteletref12_Groups.mono_l : ∀ k, (∀ y0 y1 y2 y3, LeO (manteletref12_Groups.j0 k y0 y1 y2 y3) (manteletref12_Groups.j0 (k + 1) y0 y1 y2 y3)) ∧ (∀ y0 y1 y2 y3 y4, LeO (manteletref12_Groups.l0 k y0 y1 y2 y3 y4) (manteletref12_Groups.l0 (k + 1) y0 y1 y2 y3 y4))
  | 0 => ⟨fun _ _ _ _ r h => by simp [manteletref12_Groups.j0] at h, fun _ _ _ _ _ r h => by simp [manteletref12_Groups.l0] at h⟩
  | k + 1 => by
    obtain ⟨ih0, ih1⟩ := manteletref12_Groups.mono_l k
    refine ⟨?_, ?_⟩
    · intro y0 y1 y2 y3
      unfold manteletref12_Groups.j0
      repeat' first
      | (with_reducible exact ih0 _ _ _ _)
      | (with_reducible exact ih1 _ _ _ _ _)
      | (with_reducible exact LeO.refl _)
      | (with_reducible exact LeO.none _)
      | (with_reducible refine LeO.ite ?_ ?_)
      | (with_reducible refine LeO.bind ?_ (fun _ => ?_))
      | exact ih0 _ _ _ _
      | exact ih1 _ _ _ _ _
      | exact LeO.none _
      | refine LeO.ite ?_ ?_
      | refine LeO.bind ?_ (fun _ => ?_)
    · intro y0 y1 y2 y3 y4
      unfold manteletref12_Groups.l0
      repeat' first
      | (with_reducible exact ih0 _ _ _ _)
      | (with_reducible exact ih1 _ _ _ _ _)
      | (with_reducible exact LeO.refl _)
      | (with_reducible exact LeO.none _)
      | (with_reducible refine LeO.ite ?_ ?_)
      | (with_reducible refine LeO.bind ?_ (fun _ => ?_))
      | exact ih0 _ _ _ _
      | exact ih1 _ _ _ _ _
      | exact LeO.none _
      | refine LeO.ite ?_ ?_
      | refine LeO.bind ?_ (fun _ => ?_)
theorem manteletref12_Groups.mono : ∀ a0 a1 k, LeO (manteletref12_Groups.f k a0 a1) (manteletref12_Groups.f (k + 1) a0 a1) := by
  intro a0 a1 k
  obtain ⟨ih0, ih1⟩ := manteletref12_Groups.mono_l k
  unfold manteletref12_Groups.f
  repeat' first
      | (with_reducible exact ih0 _ _ _ _)
      | (with_reducible exact ih1 _ _ _ _ _)
      | (with_reducible exact LeO.refl _)
      | (with_reducible exact LeO.none _)
      | (with_reducible refine LeO.ite ?_ ?_)
      | (with_reducible refine LeO.bind ?_ (fun _ => ?_))
      | exact ih0 _ _ _ _
      | exact ih1 _ _ _ _ _
      | exact LeO.none _
      | refine LeO.ite ?_ ?_
      | refine LeO.bind ?_ (fun _ => ?_)
set_option maxHeartbeats 8000000 in
set_option maxRecDepth 100000 in
theorem manteletref12_Groups.calls (k : Nat) (a0 : Int) (a1 : Int) (r : List (S25)) (w : World) (h : manteletref12_Groups.f k a0 a1 = some r) :
    Calls Try.prog 15 #[.int .i64 a0, .int .i64 a1] w fun e w' => ∃ v0_ : Value, e = .returned (v0_) ∧ Kd.R k25 25 w' w.heap.size (fun _ => True) v0_ r ∧ Below w.heap.size w w' := by
  have hu25 := Try.underlying25
  have HB := Aside0.mk (Below.refl w.heap.size w)
  have H : (if a0 < 1 then (manteletref12_Groups.j0 k a0 a1 ([] : List (S25)) true) else (if a0 > 65536 then (manteletref12_Groups.j0 k a0 a1 ([] : List (S25)) true) else (if a1 < 2 then (manteletref12_Groups.j0 k a0 a1 ([] : List (S25)) true) else (manteletref12_Groups.j0 k a0 a1 ([] : List (S25)) (decide (a1 > 8)))))) = some r := h
  clear h
  have HC3 := Aside0.mk H
  clear H
  go_enter Try.func15, Try.ntmps15
  go_upto_region 2 with (fail)
  go_cut [21] (fun v21 wc => ∃ (kq : Nat) (x21_2 : Bool), v21 = .bool x21_2 ∧ Aside0 (manteletref12_Groups.j0 kq a0 a1 ([] : List (S25)) x21_2 = some r) ∧ Aside0 (kq ≤ k) ∧ Aside0 (Kd.R k25 25 wc w.heap.size (fun _ => True) (.slice none 0 0) ([] : List (S25))) ∧ Aside0 (Below w.heap.size w wc))
  case first =>
    have H := HC3.out
    clear HC3
    by_cases c4 : a0 < 1
    · rw [if_pos c4] at H
      have c4b0 : decide (a0 < 1) = true := decide_eq_true c4
      clear c4
      (first | rw [c4b0] | (simp only [i64_w, i32_w]; rw [c4b0]) | skip)
      have H' := Aside0.mk H
      clear H
      go_wp2
      go_meet
      case rel => exact ⟨_, (true), (by first | rfl | (simp; done) | (simp [*]; done)), H', ⟨by first | omega | exact Nat.le_refl _⟩, ⟨by first | exact Kd.R_nil _ _ _ _ _ | exact Kd.N_nil _ _ _ _ _ | exact Kd.V_nil _ _ _ _ _ | exact Kd.Q_nil _ _ _ _ _ | exact Kd.S_nil _ _ _ _ _⟩, ⟨by repeat (first | (with_reducible first | exact HB.out | apply below_alloc | apply pw_below_drewN | apply below_drew1) | exact HB.out)⟩⟩
    · rw [if_neg c4] at H
      have c4b0 : decide (a0 < 1) = false := decide_eq_false c4
      clear c4
      (first | rw [c4b0] | (simp only [i64_w, i32_w]; rw [c4b0]) | skip)
      by_cases c5 : a0 > 65536
      · rw [if_pos c5] at H
        have c5b0 : decide (65536 < a0) = true := decide_eq_true c5
        clear c5
        have H' := Aside0.mk H
        clear H
        go_wp2
        go_meet
        case rel => exact ⟨_, (true), (by first | rfl | (simp; done) | (simp [*]; done)), H', ⟨by first | omega | exact Nat.le_refl _⟩, ⟨by first | exact Kd.R_nil _ _ _ _ _ | exact Kd.N_nil _ _ _ _ _ | exact Kd.V_nil _ _ _ _ _ | exact Kd.Q_nil _ _ _ _ _ | exact Kd.S_nil _ _ _ _ _⟩, ⟨by repeat (first | (with_reducible first | exact HB.out | apply below_alloc | apply pw_below_drewN | apply below_drew1) | exact HB.out)⟩⟩
      · rw [if_neg c5] at H
        have c5b0 : decide (65536 < a0) = false := decide_eq_false c5
        clear c5
        by_cases c6 : a1 < 2
        · rw [if_pos c6] at H
          have c6b0 : decide (a1 < 2) = true := decide_eq_true c6
          clear c6
          have H' := Aside0.mk H
          clear H
          go_wp2
          go_meet
          case rel => exact ⟨_, (true), (by first | rfl | (simp; done) | (simp [*]; done)), H', ⟨by first | omega | exact Nat.le_refl _⟩, ⟨by first | exact Kd.R_nil _ _ _ _ _ | exact Kd.N_nil _ _ _ _ _ | exact Kd.V_nil _ _ _ _ _ | exact Kd.Q_nil _ _ _ _ _ | exact Kd.S_nil _ _ _ _ _⟩, ⟨by repeat (first | (with_reducible first | exact HB.out | apply below_alloc | apply pw_below_drewN | apply below_drew1) | exact HB.out)⟩⟩
        · rw [if_neg c6] at H
          have c6b0 : decide (a1 < 2) = false := decide_eq_false c6
          clear c6
          have H' := Aside0.mk H
          clear H
          go_wp2
          go_meet
          case rel => exact ⟨_, (decide (a1 > 8)), (by first | rfl | (simp; done) | (simp [*]; done)), H', ⟨by first | omega | exact Nat.le_refl _⟩, ⟨by first | exact Kd.R_nil _ _ _ _ _ | exact Kd.N_nil _ _ _ _ _ | exact Kd.V_nil _ _ _ _ _ | exact Kd.Q_nil _ _ _ _ _ | exact Kd.S_nil _ _ _ _ _⟩, ⟨by repeat (first | (with_reducible first | exact HB.out | apply below_alloc | apply pw_below_drewN | apply below_drew1) | exact HB.out)⟩⟩
  case rest =>
    clear HC3
    try clear c1
    try clear p2
    try clear c4
    try clear c4b0
    try clear c5
    try clear c5b0
    try clear c6
    try clear c6b0
    obtain ⟨kq, x21_2, rfl, HA, HJ2, HO_5, HB⟩ := hcut
    cases kq with
    | zero => exact absurd HA.out (by simp [manteletref12_Groups.j0])
    | succ kj2 =>
      have H := HA.out
      clear HA
      simp only [manteletref12_Groups.j0] at H
      by_cases c7 : x21_2 = true
      · subst c7
        have H1 : (some ([] : List (S25))) = some r := by rw [if_pos rfl] at H; exact H
        clear H
        have H := H1
        clear H1
        obtain rfl := Option.some.inj H
        go_wp2
        go_ret
        exact ⟨_, by first | rfl | (simp [errW_none, errW_some] <;> rfl) | (simp [*, errW_none, errW_some] <;> rfl), by (with_reducible repeat (first | apply Kd.R_alloc | apply Kd.R_drewN | apply Kd.R_drew)); exact HO_5.out, by repeat (first | (with_reducible first | exact HB.out | apply below_alloc | apply pw_below_drewN | apply below_drew1) | exact HB.out)⟩
      · replace c7 := Bool.eq_false_iff.mpr c7
        subst c7
        have H1 : (manteletref12_Groups.l0 kj2 a0 a1 ([] : List (S25)) 0 1) = some r := by rw [if_neg (show ¬ (false = true) by decide)] at H; exact H
        clear H
        have H := H1
        clear H1
        have H' := Aside0.mk H
        clear H
        go_wp2
        go_loopg [5, 6, 7] kj2 (fun kq v5 v6 v7 w' => ∃ (x5_2 : List (S25)) (x6_2 : Int) (x7_2 : Int), v6 = .int .i64 x6_2 ∧ v7 = .int .i64 x7_2 ∧ Aside0 (manteletref12_Groups.l0 kq a0 a1 x5_2 x6_2 x7_2 = some r) ∧ Aside0 (kq ≤ kj2) ∧ Aside0 (Kd.R k25 25 w' w.heap.size (fun _ => True) v5 x5_2) ∧ Aside0 (Below w.heap.size w w'))
        case atStart => exact ⟨(([] : List (S25))), (0), (1), (by first | rfl | (simp; done) | (simp [*]; done)), (by first | rfl | (simp; done) | (simp [*]; done)), H', ⟨Nat.le_refl _⟩, ⟨by (with_reducible repeat (first | apply Kd.R_alloc | apply Kd.R_drewN | apply Kd.R_drew)); exact HO_5.out⟩, ⟨by repeat (first | (with_reducible first | exact HB.out | apply below_alloc | apply pw_below_drewN | apply below_drew1) | exact HB.out)⟩⟩
        case round =>
          clear H'
          try clear c1
          try clear p2
          try clear c4
          try clear c4b0
          try clear c5
          try clear c5b0
          try clear c6
          try clear c6b0
          try clear c7
          try clear p2
          obtain ⟨x5_2, x6_2, x7_2, rfl, rfl, HA, HK2, HO_5, HB⟩ := hrel
          cases gk with
          | zero => exact absurd HA.out (by simp [manteletref12_Groups.l0])
          | succ k2 =>
            have H := HA.out
            clear HA
            simp only [manteletref12_Groups.l0] at H
            by_cases c8 : x7_2 ≤ a0
            · rw [if_pos c8] at H
              have c8b0 : decide (x7_2 ≤ a0) = true := decide_eq_true c8
              clear c8
              by_cases c9 : x7_2 = a0
              · rw [if_pos c9] at H
                have c9b0 : (x7_2 == a0) = true := beq_iff_eq.mpr c9
                have c9b1 : (x7_2 != a0) = false := bne_eq_false_iff_eq.mpr c9
                clear c9
                by_cases c10 : x5_2.length < 8796093022208
                · rw [if_pos c10] at H
                  have LMc10 := Aside0.mk c10
                  clear c10
                  obtain ⟨y111, hy111⟩ : ∃ y_ : List (S25), y_ = (x5_2 ++ [(⟨x6_2, x7_2⟩ : S25)]) := ⟨_, rfl⟩
                  replace H : (manteletref12_Groups.l0 k2 a0 a1 y111 x7_2 (wrap64 (x7_2 + 1))) = some r := by first | (rw [hy111]; with_reducible exact H) | (have H2_ := (Option.bind_some _ _).symm.trans H; rw [hy111]; with_reducible exact H2_) | (have H2_ := (Option.bind_some _ _).symm.trans H; with_reducible exact H2_) | with_reducible exact H | (rw [hy111]; exact H) | exact H
                  have Ny111 := Aside0.mk hy111
                  clear hy111
                  have H' := Aside0.mk H
                  clear H
                  go_wp2_with (first | ((with_reducible refine gate_builtin (b := .append) (xs := #[.tmp 38, .tmp 42]) rfl ?_); at_builtin; refine Kd.R_append k25 (w0 := w) w.heap.size rfl (.tmp 38) (.tmp 42) 23 25 (.agg #[(.int .i64 0), (.int .i64 0)]) 16 rfl Try.underlying23 info25 rfl (by decide) (by omega) u5 x5_2 (⟨x6_2, x7_2⟩ : S25) [.int .i64 x6_2, .int .i64 x7_2] (fun _ => True) (fun _ => False) rfl rfl ?aP (fun _ hk => hk.elim) ?aF ?aO ?aB ?aS ?aL ?_; (case aP => exact k25_mkM _ _ _ (⟨x6_2, x7_2⟩ : S25)); (case aB => exact (by repeat (first | (with_reducible first | exact HB.out | apply below_alloc | apply pw_below_drewN | apply below_drew1) | exact HB.out))); (case aF => exact (fun _ _ => trivial)); (case aO => exact (by (with_reducible repeat (first | apply Kd.R_alloc | apply Kd.R_drewN | apply Kd.R_drew)); exact HO_5.out)); (case aS => exact (below_size (by repeat (first | (with_reducible first | exact HB.out | apply below_alloc | apply pw_below_drewN | apply below_drew1) | exact HB.out)))); (case aL => have := LMc10.out; omega); intro v112 w11 ho hb hg hat; rw [← Ny111.out] at ho; have n0_ := Aside0.mk (hb); have n1_ := Aside0.mk (ho); clear HB; clear HO_5; have HB := n0_; have HO113 := n1_; clear n0_ n1_; clear ho hb hg hat))
                  go_roundg k2
                  case measure => have := HJ2.out; have := HK2.out; omega
                  case rel => exact ⟨(y111), (x7_2), (wrap64 (x7_2 + 1)), (by first | rfl | (simp; done) | (simp [*]; done)), (by first | rfl | (simp; done) | (simp [*]; done)), H', ⟨by have := HJ2.out; have := HK2.out; omega⟩, ⟨by (with_reducible repeat (first | apply Kd.R_alloc | apply Kd.R_drewN | apply Kd.R_drew)); exact HO113.out⟩, ⟨by repeat (first | (with_reducible first | exact HB.out | apply below_alloc | apply pw_below_drewN | apply below_drew1) | exact HB.out)⟩⟩
                · rw [if_neg c10] at H
                  exact absurd H (by simp)
              · rw [if_neg c9] at H
                have c9b0 : (x7_2 == a0) = false := beq_eq_false_iff_ne.mpr c9
                have c9b1 : (x7_2 != a0) = true := bne_iff_ne.mpr c9
                by_cases c12 : (wrap64 (x7_2 - x6_2)) = a1
                · rw [if_pos c12] at H
                  have c12b0 : ((wrap64 (x7_2 - x6_2)) == a1) = true := beq_iff_eq.mpr c12
                  have c12b1 : ((wrap64 (x7_2 - x6_2)) != a1) = false := bne_eq_false_iff_eq.mpr c12
                  clear c12
                  by_cases c13 : x5_2.length < 8796093022208
                  · rw [if_pos c13] at H
                    have LMc13 := Aside0.mk c13
                    clear c13
                    obtain ⟨y114, hy114⟩ : ∃ y_ : List (S25), y_ = (x5_2 ++ [(⟨x6_2, x7_2⟩ : S25)]) := ⟨_, rfl⟩
                    replace H : (manteletref12_Groups.l0 k2 a0 a1 y114 x7_2 (wrap64 (x7_2 + 1))) = some r := by first | (rw [hy114]; with_reducible exact H) | (have H2_ := (Option.bind_some _ _).symm.trans H; rw [hy114]; with_reducible exact H2_) | (have H2_ := (Option.bind_some _ _).symm.trans H; with_reducible exact H2_) | with_reducible exact H | (rw [hy114]; exact H) | exact H
                    have Ny114 := Aside0.mk hy114
                    clear hy114
                    have H' := Aside0.mk H
                    clear H
                    go_wp2_with (first | ((with_reducible refine gate_builtin (b := .append) (xs := #[.tmp 38, .tmp 42]) rfl ?_); at_builtin; refine Kd.R_append k25 (w0 := w) w.heap.size rfl (.tmp 38) (.tmp 42) 23 25 (.agg #[(.int .i64 0), (.int .i64 0)]) 16 rfl Try.underlying23 info25 rfl (by decide) (by omega) u5 x5_2 (⟨x6_2, x7_2⟩ : S25) [.int .i64 x6_2, .int .i64 x7_2] (fun _ => True) (fun _ => False) rfl rfl ?aP (fun _ hk => hk.elim) ?aF ?aO ?aB ?aS ?aL ?_; (case aP => exact k25_mkM _ _ _ (⟨x6_2, x7_2⟩ : S25)); (case aB => exact (by repeat (first | (with_reducible first | exact HB.out | apply below_alloc | apply pw_below_drewN | apply below_drew1) | exact HB.out))); (case aF => exact (fun _ _ => trivial)); (case aO => exact (by (with_reducible repeat (first | apply Kd.R_alloc | apply Kd.R_drewN | apply Kd.R_drew)); exact HO_5.out)); (case aS => exact (below_size (by repeat (first | (with_reducible first | exact HB.out | apply below_alloc | apply pw_below_drewN | apply below_drew1) | exact HB.out)))); (case aL => have := LMc13.out; omega); intro v115 w14 ho hb hg hat; rw [← Ny114.out] at ho; have n0_ := Aside0.mk (hb); have n1_ := Aside0.mk (ho); clear HB; clear HO_5; have HB := n0_; have HO116 := n1_; clear n0_ n1_; clear ho hb hg hat))
                    go_roundg k2
                    case measure => have := HJ2.out; have := HK2.out; omega
                    case rel => exact ⟨(y114), (x7_2), (wrap64 (x7_2 + 1)), (by first | rfl | (simp; done) | (simp [*]; done)), (by first | rfl | (simp; done) | (simp [*]; done)), H', ⟨by have := HJ2.out; have := HK2.out; omega⟩, ⟨by (with_reducible repeat (first | apply Kd.R_alloc | apply Kd.R_drewN | apply Kd.R_drew)); exact HO116.out⟩, ⟨by repeat (first | (with_reducible first | exact HB.out | apply below_alloc | apply pw_below_drewN | apply below_drew1) | exact HB.out)⟩⟩
                  · rw [if_neg c13] at H
                    exact absurd H (by simp)
                · rw [if_neg c12] at H
                  have c12b0 : ((wrap64 (x7_2 - x6_2)) == a1) = false := beq_eq_false_iff_ne.mpr c12
                  have c12b1 : ((wrap64 (x7_2 - x6_2)) != a1) = true := bne_iff_ne.mpr c12
                  have H' := Aside0.mk H
                  clear H
                  go_wp2
                  go_roundg k2
                  case measure => have := HJ2.out; have := HK2.out; omega
                  case rel => exact ⟨(x5_2), (x6_2), (wrap64 (x7_2 + 1)), (by first | rfl | (simp; done) | (simp [*]; done)), (by first | rfl | (simp; done) | (simp [*]; done)), H', ⟨by have := HJ2.out; have := HK2.out; omega⟩, ⟨by (with_reducible repeat (first | apply Kd.R_alloc | apply Kd.R_drewN | apply Kd.R_drew)); exact HO_5.out⟩, ⟨by repeat (first | (with_reducible first | exact HB.out | apply below_alloc | apply pw_below_drewN | apply below_drew1) | exact HB.out)⟩⟩
            · rw [if_neg c8] at H
              have c8b0 : decide (x7_2 ≤ a0) = false := decide_eq_false c8
              clear c8
              obtain rfl := Option.some.inj H
              go_wp2
              go_ret
              exact ⟨_, by first | rfl | (simp [errW_none, errW_some] <;> rfl) | (simp [*, errW_none, errW_some] <;> rfl), by (with_reducible repeat (first | apply Kd.R_alloc | apply Kd.R_drewN | apply Kd.R_drew)); exact HO_5.out, by repeat (first | (with_reducible first | exact HB.out | apply below_alloc | apply pw_below_drewN | apply below_drew1) | exact HB.out)⟩

/-! ### manteletref12_Passes: function 17 -/
def manteletref12_Passes.f : Nat → Int → Int → Option (Int)
  | 0, _, _ => none
  | k + 1, a0, a1 => if a0 < 1 then (some 0) else (if a0 > 65536 then (some 0) else (if a1 < 2 then (some 0) else (if a1 > 8 then (some 0) else (if a0 = 1 then (some 0) else (if a1 = 0 then (none) else ((manteletref12_Passes.f k (wrap64 (Int.tdiv (wrap64 ((wrap64 (a0 + a1)) - 1)) a1)) a1).bind fun t117 => (some (wrap64 (1 + t117)))))))))
theorem manteletref12_Passes.mono_l : ∀ k, (∀ y0 y1, LeO (manteletref12_Passes.f k y0 y1) (manteletref12_Passes.f (k + 1) y0 y1))
  | 0 => fun _ _ r h => by simp [manteletref12_Passes.f] at h
  | k + 1 => by
    have ih0 := manteletref12_Passes.mono_l k
    · intro y0 y1
      unfold manteletref12_Passes.f
      repeat' first
      | (with_reducible exact ih0 _ _)
      | (with_reducible exact LeO.refl _)
      | (with_reducible exact LeO.none _)
      | (with_reducible refine LeO.ite ?_ ?_)
      | (with_reducible refine LeO.bind ?_ (fun _ => ?_))
      | exact ih0 _ _
      | exact LeO.none _
      | refine LeO.ite ?_ ?_
      | refine LeO.bind ?_ (fun _ => ?_)
theorem manteletref12_Passes.mono : ∀ a0 a1 k, LeO (manteletref12_Passes.f k a0 a1) (manteletref12_Passes.f (k + 1) a0 a1) := by
  intro a0 a1 k
  have ih0 := manteletref12_Passes.mono_l k
  exact ih0 a0 a1
set_option maxHeartbeats 8000000 in
set_option maxRecDepth 100000 in
theorem manteletref12_Passes.calls (k : Nat) : ∀ (a0 : Int) (a1 : Int) (r : Int) (w : World) (h : manteletref12_Passes.f k a0 a1 = some r),
    Calls Try.prog 17 #[.int .i64 a0, .int .i64 a1] w fun e w' => e = .returned (.int .i64 r) ∧ Drawn0 w w' := by
  induction k using Nat.strongRecOn with
  | _ k ih =>
  intro a0 a1 r w h
  cases k with
  | zero => exact absurd h (by simp [manteletref12_Passes.f])
  | succ k =>
  simp only [manteletref12_Passes.f] at h
  have H : (if a0 < 1 then (some 0) else (if a0 > 65536 then (some 0) else (if a1 < 2 then (some 0) else (if a1 > 8 then (some 0) else (if a0 = 1 then (some 0) else (if a1 = 0 then (none) else ((manteletref12_Passes.f k (wrap64 (Int.tdiv (wrap64 ((wrap64 (a0 + a1)) - 1)) a1)) a1).bind fun t117 => (some (wrap64 (1 + t117)))))))))) = some r := h
  clear h
  by_cases c3 : a0 < 1
  · rw [if_pos c3] at H
    have c3b0 : decide (a0 < 1) = true := decide_eq_true c3
    clear c3
    obtain rfl := Option.some.inj H
    go_enter Try.func17, Try.ntmps17
    go_wp2
    go_ret
    exact ⟨by first | rfl | (simp; done) | (simp [*]; done), by repeat (first | exact Drawn0.refl _ | apply Drawn0.step)⟩
  · rw [if_neg c3] at H
    have c3b0 : decide (a0 < 1) = false := decide_eq_false c3
    clear c3
    by_cases c4 : a0 > 65536
    · rw [if_pos c4] at H
      have c4b0 : decide (65536 < a0) = true := decide_eq_true c4
      clear c4
      obtain rfl := Option.some.inj H
      go_enter Try.func17, Try.ntmps17
      go_wp2
      go_ret
      exact ⟨by first | rfl | (simp; done) | (simp [*]; done), by repeat (first | exact Drawn0.refl _ | apply Drawn0.step)⟩
    · rw [if_neg c4] at H
      have c4b0 : decide (65536 < a0) = false := decide_eq_false c4
      clear c4
      by_cases c5 : a1 < 2
      · rw [if_pos c5] at H
        have c5b0 : decide (a1 < 2) = true := decide_eq_true c5
        clear c5
        obtain rfl := Option.some.inj H
        go_enter Try.func17, Try.ntmps17
        go_wp2
        go_ret
        exact ⟨by first | rfl | (simp; done) | (simp [*]; done), by repeat (first | exact Drawn0.refl _ | apply Drawn0.step)⟩
      · rw [if_neg c5] at H
        have c5b0 : decide (a1 < 2) = false := decide_eq_false c5
        clear c5
        by_cases c6 : a1 > 8
        · rw [if_pos c6] at H
          have c6b0 : decide (8 < a1) = true := decide_eq_true c6
          clear c6
          obtain rfl := Option.some.inj H
          go_enter Try.func17, Try.ntmps17
          go_wp2
          go_ret
          exact ⟨by first | rfl | (simp; done) | (simp [*]; done), by repeat (first | exact Drawn0.refl _ | apply Drawn0.step)⟩
        · rw [if_neg c6] at H
          have c6b0 : decide (8 < a1) = false := decide_eq_false c6
          clear c6
          by_cases c7 : a0 = 1
          · rw [if_pos c7] at H
            have c7b0 : (a0 == 1) = true := beq_iff_eq.mpr c7
            have c7b1 : (a0 != 1) = false := bne_eq_false_iff_eq.mpr c7
            clear c7
            obtain rfl := Option.some.inj H
            go_enter Try.func17, Try.ntmps17
            go_wp2
            go_ret
            exact ⟨by first | rfl | (simp; done) | (simp [*]; done), by repeat (first | exact Drawn0.refl _ | apply Drawn0.step)⟩
          · rw [if_neg c7] at H
            have c7b0 : (a0 == 1) = false := beq_eq_false_iff_ne.mpr c7
            have c7b1 : (a0 != 1) = true := bne_iff_ne.mpr c7
            by_cases c8 : a1 = 0
            · rw [if_pos c8] at H
              exact absurd H (by simp)
            · rw [if_neg c8] at H
              have c8b0 : (a1 == 0) = false := beq_eq_false_iff_ne.mpr c8
              have c8b1 : (a1 != 0) = true := bne_iff_ne.mpr c8
              replace H := Option.bind_eq_some_iff.mp H
              obtain ⟨t117, A90, H⟩ := H
              replace H : (some (wrap64 (1 + t117))) = some r := H
              have A9 := Aside0.mk A90
              clear A90
              obtain rfl := Option.some.inj H
              go_enter Try.func17, Try.ntmps17
              go_wp2_with (first | ((with_reducible refine gate_callee (f := 17) rfl ?_); refine goesL_ (some 30) rfl rfl Try.func17 (by kernel_rfl) rfl #[.int .i64 (wrap64 (Int.tdiv (wrap64 ((wrap64 (a0 + a1)) - 1)) a1)), .int .i64 a1] rfl (by (try simp only [List.map_toArray, List.map_cons, List.map_nil]); first | done | rfl | (simp only [List.length_drop, List.length_take]; rfl)) ?_; (with_reducible refine (ih k (by omega) (wrap64 (Int.tdiv (wrap64 ((wrap64 (a0 + a1)) - 1)) a1)) a1 t117 _ A9.out).mono ?_); rintro e w' ⟨rfl, ⟨nd, rfl⟩⟩; refine ⟨_, rfl, ?_⟩))
              go_ret
              exact ⟨by first | rfl | (simp; done) | (simp [*]; done), by repeat (first | exact Drawn0.refl _ | apply Drawn0.step)⟩

end Go.Proofs.Ytlndbodbhbcgcaa.PPasses
