/- Contracts of Go functions: called with what reads as these lists and numbers, a function returns what its plain Lean function says, and leaves what was there. Written by a program of this session. -/
import Derived.Test.YtlngljddjlmkfaaPLsx0
namespace Go.Proofs.Ytlngljddjlmkfaa.PLs
open Go.RowKit Go.Proofs.YtlngljddjlmkfaaW.PrintWords Go.Proofs.YtlngljddjlmkfaaW.PrintLast Go.Proofs.YtlngljddjlmkfaaW.PrintMore
attribute [local go_sem] max2_int min2_int max_two min_two max_three min_three max_four min_four   -- for this text's walks alone
attribute [local go_sem] Go.Proofs.Ytlngljddjlmkfaa.MoreWords.str_leq Go.Proofs.Ytlngljddjlmkfaa.MoreWords.str_gtr Go.Proofs.Ytlngljddjlmkfaa.MoreWords.str_geq
set_option linter.unusedVariables false
set_option linter.unusedSimpArgs false

/-! ### run_fine: function 22 -/
def run_fine.f (a0_0 : ByteArray) (a0_1 : Int) : Option (Bool) := if a0_0.toList = ([] : List UInt8) then (some false) else (if (a0_0.size : Int) ≤ 255 then (if a0_1 ≥ 1 then (some (decide (a0_1 ≤ 4611686018427387904))) else (some false)) else (some false))
set_option maxHeartbeats 8000000 in
set_option maxRecDepth 100000 in
theorem run_fine.calls (a0_0 : ByteArray) (a0_1 : Int) (r : Bool) (w : World) (h : run_fine.f a0_0 a0_1 = some r) :
    Calls Try.prog 22 #[.agg #[.string a0_0, .int .u64 a0_1]] w fun e w' => e = .returned (.bool r) ∧ Below w.heap.size w w' := by
  have hu37 := Try.underlying37
  have HB := Aside0.mk (Below.refl w.heap.size w)
  have H : (if a0_0.toList = ([] : List UInt8) then (some false) else (if (a0_0.size : Int) ≤ 255 then (if a0_1 ≥ 1 then (some (decide (a0_1 ≤ 4611686018427387904))) else (some false)) else (some false))) = some r := h
  clear h
  by_cases c2 : a0_0.toList = ([] : List UInt8)
  · rw [if_pos c2] at H
    have c2b0 : (a0_0.toList == ([] : List UInt8)) = true := beq_iff_eq.mpr c2
    have c2b1 : (a0_0.toList != ([] : List UInt8)) = false := bne_eq_false_iff_eq.mpr c2
    clear c2
    obtain rfl := Option.some.inj H
    go_enter Try.func22, Try.ntmps22
    go_wp2_with (first | ((with_reducible refine gate_dst (N := 1) rfl ?_); (try (refine gate_guard (by rfl) ?_; dsimp only)); refine box_event ?hg (N := 1) ?hd (cs := #[.string a0_0, .int .u64 a0_1]) (t := 37) ?hr ?_; (case hd => rfl); (case hg => rfl); (case hr => first | (go_simp; done) | (go_simp; rfl)); intro gb101 hg w3 hbox hb; have n0_ := Aside0.mk (below_step (by repeat (first | (with_reducible first | exact HB.out | apply below_alloc | apply pw_below_drewN | apply below_drew1) | exact HB.out)) hb); have n1_ := Aside0.mk (hbox); have n2_ := Aside0.mk ((by rw [hg]; exact (below_size (by repeat (first | (with_reducible first | exact HB.out | apply below_alloc | apply pw_below_drewN | apply below_drew1) | exact HB.out))) : w.heap.size ≤ gb101)); have n3_ := Aside0.mk ((by rw [hg]; exact (below_size (by repeat (first | (with_reducible first | exact HB.out | apply below_alloc | apply pw_below_drewN | apply below_drew1) | exact HB.out))) : w.heap.size ≤ gb101)); clear HB; have HB := n0_; have BK101 := n1_; have GW101 := n2_; have GE101 := n3_; clear n0_ n1_ n2_ n3_; clear hb hbox hg; have hcz4_0 : w3.cell? ⟨gb101, 0, none⟩ = some (.string a0_0) := (blk_cell BK101.out 0).trans rfl; have hcz4_1 : w3.cell? ⟨gb101, 1, none⟩ = some (.int .u64 a0_1) := (blk_cell BK101.out 1).trans rfl; have hfz4_0 := blk_frozen BK101.out 0; have hfz4_1 := blk_frozen BK101.out 1))
    go_ret
    exact ⟨by first | rfl | (simp [errW_none, errW_some] <;> rfl) | (simp [*, errW_none, errW_some] <;> rfl), by repeat (first | (with_reducible first | exact HB.out | apply below_alloc | apply pw_below_drewN | apply below_drew1 | refine below_set ?_ GE101.out) | exact HB.out)⟩
  · rw [if_neg c2] at H
    have c2b0 : (a0_0.toList == ([] : List UInt8)) = false := beq_eq_false_iff_ne.mpr c2
    have c2b1 : (a0_0.toList != ([] : List UInt8)) = true := bne_iff_ne.mpr c2
    by_cases c5 : (a0_0.size : Int) ≤ 255
    · rw [if_pos c5] at H
      have c5b0 : decide ((a0_0.size : Int) ≤ 255) = true := decide_eq_true c5
      have c5b1 : decide (a0_0.size ≤ 255) = true := decide_eq_true (by omega)
      clear c5
      by_cases c6 : a0_1 ≥ 1
      · rw [if_pos c6] at H
        have c6b0 : decide (1 ≤ a0_1) = true := decide_eq_true c6
        clear c6
        obtain rfl := Option.some.inj H
        go_enter Try.func22, Try.ntmps22
        go_wp2_with (first | ((with_reducible refine gate_dst (N := 1) rfl ?_); (try (refine gate_guard (by rfl) ?_; dsimp only)); refine box_event ?hg (N := 1) ?hd (cs := #[.string a0_0, .int .u64 a0_1]) (t := 37) ?hr ?_; (case hd => rfl); (case hg => rfl); (case hr => first | (go_simp; done) | (go_simp; rfl)); intro gb101 hg w7 hbox hb; have n0_ := Aside0.mk (below_step (by repeat (first | (with_reducible first | exact HB.out | apply below_alloc | apply pw_below_drewN | apply below_drew1) | exact HB.out)) hb); have n1_ := Aside0.mk (hbox); have n2_ := Aside0.mk ((by rw [hg]; exact (below_size (by repeat (first | (with_reducible first | exact HB.out | apply below_alloc | apply pw_below_drewN | apply below_drew1) | exact HB.out))) : w.heap.size ≤ gb101)); have n3_ := Aside0.mk ((by rw [hg]; exact (below_size (by repeat (first | (with_reducible first | exact HB.out | apply below_alloc | apply pw_below_drewN | apply below_drew1) | exact HB.out))) : w.heap.size ≤ gb101)); clear HB; have HB := n0_; have BK101 := n1_; have GW101 := n2_; have GE101 := n3_; clear n0_ n1_ n2_ n3_; clear hb hbox hg; have hcz8_0 : w7.cell? ⟨gb101, 0, none⟩ = some (.string a0_0) := (blk_cell BK101.out 0).trans rfl; have hcz8_1 : w7.cell? ⟨gb101, 1, none⟩ = some (.int .u64 a0_1) := (blk_cell BK101.out 1).trans rfl; have hfz8_0 := blk_frozen BK101.out 0; have hfz8_1 := blk_frozen BK101.out 1))
        go_ret
        exact ⟨by first | rfl | (simp [errW_none, errW_some] <;> rfl) | (simp [*, errW_none, errW_some] <;> rfl), by repeat (first | (with_reducible first | exact HB.out | apply below_alloc | apply pw_below_drewN | apply below_drew1 | refine below_set ?_ GE101.out) | exact HB.out)⟩
      · rw [if_neg c6] at H
        have c6b0 : decide (1 ≤ a0_1) = false := decide_eq_false c6
        clear c6
        obtain rfl := Option.some.inj H
        go_enter Try.func22, Try.ntmps22
        go_wp2_with (first | ((with_reducible refine gate_dst (N := 1) rfl ?_); (try (refine gate_guard (by rfl) ?_; dsimp only)); refine box_event ?hg (N := 1) ?hd (cs := #[.string a0_0, .int .u64 a0_1]) (t := 37) ?hr ?_; (case hd => rfl); (case hg => rfl); (case hr => first | (go_simp; done) | (go_simp; rfl)); intro gb101 hg w9 hbox hb; have n0_ := Aside0.mk (below_step (by repeat (first | (with_reducible first | exact HB.out | apply below_alloc | apply pw_below_drewN | apply below_drew1) | exact HB.out)) hb); have n1_ := Aside0.mk (hbox); have n2_ := Aside0.mk ((by rw [hg]; exact (below_size (by repeat (first | (with_reducible first | exact HB.out | apply below_alloc | apply pw_below_drewN | apply below_drew1) | exact HB.out))) : w.heap.size ≤ gb101)); have n3_ := Aside0.mk ((by rw [hg]; exact (below_size (by repeat (first | (with_reducible first | exact HB.out | apply below_alloc | apply pw_below_drewN | apply below_drew1) | exact HB.out))) : w.heap.size ≤ gb101)); clear HB; have HB := n0_; have BK101 := n1_; have GW101 := n2_; have GE101 := n3_; clear n0_ n1_ n2_ n3_; clear hb hbox hg; have hcz10_0 : w9.cell? ⟨gb101, 0, none⟩ = some (.string a0_0) := (blk_cell BK101.out 0).trans rfl; have hcz10_1 : w9.cell? ⟨gb101, 1, none⟩ = some (.int .u64 a0_1) := (blk_cell BK101.out 1).trans rfl; have hfz10_0 := blk_frozen BK101.out 0; have hfz10_1 := blk_frozen BK101.out 1))
        go_ret
        exact ⟨by first | rfl | (simp [errW_none, errW_some] <;> rfl) | (simp [*, errW_none, errW_some] <;> rfl), by repeat (first | (with_reducible first | exact HB.out | apply below_alloc | apply pw_below_drewN | apply below_drew1 | refine below_set ?_ GE101.out) | exact HB.out)⟩
    · rw [if_neg c5] at H
      have c5b0 : decide ((a0_0.size : Int) ≤ 255) = false := decide_eq_false c5
      have c5b1 : decide (a0_0.size ≤ 255) = false := decide_eq_false (by omega)
      clear c5
      obtain rfl := Option.some.inj H
      go_enter Try.func22, Try.ntmps22
      go_wp2_with (first | ((with_reducible refine gate_dst (N := 1) rfl ?_); (try (refine gate_guard (by rfl) ?_; dsimp only)); refine box_event ?hg (N := 1) ?hd (cs := #[.string a0_0, .int .u64 a0_1]) (t := 37) ?hr ?_; (case hd => rfl); (case hg => rfl); (case hr => first | (go_simp; done) | (go_simp; rfl)); intro gb101 hg w11 hbox hb; have n0_ := Aside0.mk (below_step (by repeat (first | (with_reducible first | exact HB.out | apply below_alloc | apply pw_below_drewN | apply below_drew1) | exact HB.out)) hb); have n1_ := Aside0.mk (hbox); have n2_ := Aside0.mk ((by rw [hg]; exact (below_size (by repeat (first | (with_reducible first | exact HB.out | apply below_alloc | apply pw_below_drewN | apply below_drew1) | exact HB.out))) : w.heap.size ≤ gb101)); have n3_ := Aside0.mk ((by rw [hg]; exact (below_size (by repeat (first | (with_reducible first | exact HB.out | apply below_alloc | apply pw_below_drewN | apply below_drew1) | exact HB.out))) : w.heap.size ≤ gb101)); clear HB; have HB := n0_; have BK101 := n1_; have GW101 := n2_; have GE101 := n3_; clear n0_ n1_ n2_ n3_; clear hb hbox hg; have hcz12_0 : w11.cell? ⟨gb101, 0, none⟩ = some (.string a0_0) := (blk_cell BK101.out 0).trans rfl; have hcz12_1 : w11.cell? ⟨gb101, 1, none⟩ = some (.int .u64 a0_1) := (blk_cell BK101.out 1).trans rfl; have hfz12_0 := blk_frozen BK101.out 0; have hfz12_1 := blk_frozen BK101.out 1))
      go_ret
      exact ⟨by first | rfl | (simp [errW_none, errW_some] <;> rfl) | (simp [*, errW_none, errW_some] <;> rfl), by repeat (first | (with_reducible first | exact HB.out | apply below_alloc | apply pw_below_drewN | apply below_drew1 | refine below_set ?_ GE101.out) | exact HB.out)⟩

/-! ### run_May_1: function 21 -/
def run_May_1.f (a0_0 : ByteArray) (a0_1 : Int) : Option (Bool) := (run_fine.f a0_0 a0_1).bind fun t103 => (some (!t103))
set_option maxHeartbeats 8000000 in
set_option maxRecDepth 100000 in
theorem run_May_1.calls (a0_0 : ByteArray) (a0_1 : Int) (r : Bool) (w : World) (h : run_May_1.f a0_0 a0_1 = some r) :
    Calls Try.prog 21 #[.agg #[.string a0_0, .int .u64 a0_1]] w fun e w' => e = .returned (.bool r) ∧ Below w.heap.size w w' := by
  have hu37 := Try.underlying37
  have HB := Aside0.mk (Below.refl w.heap.size w)
  have H : ((run_fine.f a0_0 a0_1).bind fun t103 => (some (!t103))) = some r := h
  clear h
  replace H := Option.bind_eq_some_iff.mp H
  obtain ⟨t103, A20, H⟩ := H
  replace H : (some (!t103)) = some r := H
  have A2 := Aside0.mk A20
  clear A20
  obtain rfl := Option.some.inj H
  go_enter Try.func21, Try.ntmps21
  go_wp2_with (first | ((with_reducible refine gate_dst (N := 1) rfl ?_); refine box_event ?hg (N := 1) ?hd (cs := #[.string a0_0, .int .u64 a0_1]) (t := 37) ?hr ?_; (case hd => rfl); (case hg => rfl); (case hr => first | (go_simp; done) | (go_simp; rfl)); intro gb102 hg w3 hbox hb; have n0_ := Aside0.mk (below_step (by repeat (first | (with_reducible first | exact HB.out | apply below_alloc | apply pw_below_drewN | apply below_drew1) | exact HB.out)) hb); have n1_ := Aside0.mk (hbox); have n2_ := Aside0.mk ((by rw [hg]; exact (below_size (by repeat (first | (with_reducible first | exact HB.out | apply below_alloc | apply pw_below_drewN | apply below_drew1) | exact HB.out))) : w.heap.size ≤ gb102)); have n3_ := Aside0.mk ((by rw [hg]; exact (below_size (by repeat (first | (with_reducible first | exact HB.out | apply below_alloc | apply pw_below_drewN | apply below_drew1) | exact HB.out))) : w.heap.size ≤ gb102)); clear HB; have HB := n0_; have BK102 := n1_; have GW102 := n2_; have GE102 := n3_; clear n0_ n1_ n2_ n3_; clear hb hbox hg; have hcz4_0 : w3.cell? ⟨gb102, 0, none⟩ = some (.string a0_0) := (blk_cell BK102.out 0).trans rfl; have hcz4_1 : w3.cell? ⟨gb102, 1, none⟩ = some (.int .u64 a0_1) := (blk_cell BK102.out 1).trans rfl; have hfz4_0 := blk_frozen BK102.out 0; have hfz4_1 := blk_frozen BK102.out 1) | ((with_reducible refine gate_callee (f := 22) rfl ?_); refine goesL_ (some 4) rfl rfl Try.func22 (by kernel_rfl) rfl #[.agg #[.string a0_0, .int .u64 a0_1]] rfl (by (try simp only [List.map_toArray, List.map_cons, List.map_nil]); first | done | rfl | (simp only [List.length_drop, List.length_take]; rfl)) ?_; (with_reducible refine (run_fine.calls a0_0 a0_1 t103 _ A2.out).mono ?_); rintro e w5 ⟨rfl, hb⟩; refine ⟨_, rfl, ?_⟩; have n0_ := Aside0.mk (blk_below (g := gb102) (o := .cells #[.string a0_0, .int .u64 a0_1] 37 (0, 0)) (by (with_reducible repeat (first | refine blk_drewN ?_ _ | refine blk_drew ?_ | refine blk_alloc ?_ _)); exact BK102.out) hb); have n1_ := Aside0.mk (below_step (by repeat (first | (with_reducible first | exact HB.out | apply below_alloc | apply pw_below_drewN | apply below_drew1 | refine below_set ?_ GE102.out) | exact HB.out)) hb); clear BK102; clear HB; have BK102 := n0_; have HB := n1_; clear n0_ n1_; (try clear hb); (try clear hb2); (try clear hk); (try clear hi)))
  go_ret
  exact ⟨by first | rfl | (simp [errW_none, errW_some] <;> rfl) | (simp [*, errW_none, errW_some] <;> rfl), by repeat (first | (with_reducible first | exact HB.out | apply below_alloc | apply pw_below_drewN | apply below_drew1 | refine below_set ?_ GE102.out) | exact HB.out)⟩

/-! ### api_Entry_27: function 27 -/
def api_Entry_27.l0 : Nat → List (S37) → Int → Int → Option (Int)
  | 0, _, _, _ => none
  | k + 1, x0, x7, x8 => if x8 < x7 then (if 0 ≤ x8 then (if x8 < (x0.length : Int) then ((run_May_1.f ((rd_T37 x0 x8).f0) ((rd_T37 x0 x8).f1)).bind fun t105 => (if t105 = true then (some x8) else (api_Entry_27.l0 k x0 x7 (wrap64 (x8 + 1))))) else (none)) else (none)) else (some (-1))
def api_Entry_27.f (k : Nat) (l0 : List (S37)) : Option (Int) := api_Entry_27.l0 k l0 (l0.length : Int) 0
theorem api_Entry_27.mono_l : ∀ k, (∀ y0 y1 y2, LeO (api_Entry_27.l0 k y0 y1 y2) (api_Entry_27.l0 (k + 1) y0 y1 y2))
  | 0 => fun _ _ _ r h => by simp [api_Entry_27.l0] at h
  | k + 1 => by
    have ih0 := api_Entry_27.mono_l k
    · intro y0 y1 y2
      unfold api_Entry_27.l0
      repeat' first
      | (with_reducible exact ih0 _ _ _)
      | (with_reducible exact LeO.refl _)
      | (with_reducible exact LeO.none _)
      | (with_reducible refine LeO.ite ?_ ?_)
      | (with_reducible refine LeO.bind ?_ (fun _ => ?_))
      | exact ih0 _ _ _
      | exact LeO.none _
      | refine LeO.ite ?_ ?_
      | refine LeO.bind ?_ (fun _ => ?_)
theorem api_Entry_27.mono : ∀ a0 k, LeO (api_Entry_27.f k a0) (api_Entry_27.f (k + 1) a0) := by
  intro a0 k
  have ih0 := api_Entry_27.mono_l k
  unfold api_Entry_27.f
  repeat' first
      | (with_reducible exact ih0 _ _ _)
      | (with_reducible exact LeO.refl _)
      | (with_reducible exact LeO.none _)
      | (with_reducible refine LeO.ite ?_ ?_)
      | (with_reducible refine LeO.bind ?_ (fun _ => ?_))
      | exact ih0 _ _ _
      | exact LeO.none _
      | refine LeO.ite ?_ ?_
      | refine LeO.bind ?_ (fun _ => ?_)
set_option maxHeartbeats 8000000 in
set_option maxRecDepth 100000 in
theorem api_Entry_27.calls (k : Nat) (A0 : Option Addr) (c0 : Nat) (l0 : List (S37)) (r : Int) (w : World) (hr0 : Kd.C k37 w A0 l0.length l0) (hc0 : l0.length ≤ c0) (h : api_Entry_27.f k l0 = some r) :
    Calls Try.prog 27 #[.slice A0 l0.length c0, .func (.func 21) #[] #[]] w fun e w' => e = .returned (.int .i64 r) ∧ Below w.heap.size w w' := by
  have hu37 := Try.underlying37
  have HR0 := Aside0.mk hr0
  have HC0 := Aside0.mk hc0
  clear hr0 hc0
  have HB := Aside0.mk (Below.refl w.heap.size w)
  have H : (api_Entry_27.l0 k l0 (l0.length : Int) 0) = some r := h
  clear h
  have H' := Aside0.mk H
  clear H
  go_enter Try.func27, Try.ntmps27
  go_wp2
  go_loopg [8] k (fun kq v8 w' => ∃ (x8_1 : Int), v8 = .int .i64 x8_1 ∧ Aside0 (api_Entry_27.l0 kq l0 (l0.length : Int) x8_1 = some r) ∧ Aside0 (kq ≤ k) ∧ Aside0 (Below w.heap.size w w'))
  case atStart => exact ⟨(0), (by first | rfl | (simp; done) | (simp [*]; done)), H', ⟨Nat.le_refl _⟩, ⟨by repeat (first | (with_reducible first | exact HB.out | apply below_alloc | apply pw_below_drewN | apply below_drew1) | exact HB.out)⟩⟩
  case round =>
    clear H'
    obtain ⟨x8_1, rfl, HA, HK1, HB⟩ := hrel
    cases gk with
    | zero => exact absurd HA.out (by simp [api_Entry_27.l0])
    | succ k1 =>
      have H := HA.out
      clear HA
      simp only [api_Entry_27.l0] at H
      by_cases c2 : x8_1 < (l0.length : Int)
      · rw [if_pos c2] at H
        have c2b0 : decide (x8_1 < (l0.length : Int)) = true := decide_eq_true c2
        clear c2
        by_cases c3 : 0 ≤ x8_1
        · rw [if_pos c3] at H
          have c3b0 : decide (0 ≤ x8_1) = true := decide_eq_true c3
          clear c3
          by_cases c4 : x8_1 < (l0.length : Int)
          · rw [if_pos c4] at H
            have c4b0 : decide (x8_1 < (l0.length : Int)) = true := decide_eq_true c4
            clear c4
            replace H := Option.bind_eq_some_iff.mp H
            obtain ⟨t105, A50, H⟩ := H
            replace H : (if t105 = true then (some x8_1) else (api_Entry_27.l0 k1 l0 (l0.length : Int) (wrap64 (x8_1 + 1)))) = some r := H
            have A5 := Aside0.mk A50
            clear A50
            by_cases c6 : t105 = true
            · subst c6
              have H1 : (some x8_1) = some r := by rw [if_pos rfl] at H; exact H
              clear H
              have H := H1
              clear H1
              obtain rfl := Option.some.inj H
              have p104 : 0 ≤ (x8_1 : Int) := of_decide_eq_true (by first | (with_reducible assumption) | assumption)
              have q104 : x8_1 < (l0.length : Int) := of_decide_eq_true (by first | (with_reducible assumption) | assumption)
              obtain ⟨ad104, e104, hx104_0, hx104_1⟩ := at_T37 HR0.out x8_1 p104 q104
              cases e104
              replace hx104_0 := (HB.out.cell (World.block_lt_of_cell? w _ hx104_0)).trans hx104_0
              replace hx104_1 := (HB.out.cell (World.block_lt_of_cell? w _ hx104_1)).trans hx104_1
              replace p104 := eq_true p104
              replace q104 := eq_true q104
              go_wp2_with (first | (go_at_call 21; (with_reducible refine (run_May_1.calls ((rd_T37 l0 x8_1).f0) ((rd_T37 l0 x8_1).f1) true _ A5.out).mono ?_); rintro e w7 ⟨rfl, hb⟩; have n0_ := Aside0.mk (below_step (by repeat (first | (with_reducible first | exact HB.out | apply below_alloc | apply pw_below_drewN | apply below_drew1) | exact HB.out)) hb); clear HB; have HB := n0_; clear n0_; (try clear hb); (try clear hb2); (try clear hk); (try clear hi)))
              go_ret
              exact ⟨by first | rfl | (simp [errW_none, errW_some] <;> rfl) | (simp [*, errW_none, errW_some] <;> rfl), by repeat (first | (with_reducible first | exact HB.out | apply below_alloc | apply pw_below_drewN | apply below_drew1) | exact HB.out)⟩
            · replace c6 := Bool.eq_false_iff.mpr c6
              subst c6
              have H1 : (api_Entry_27.l0 k1 l0 (l0.length : Int) (wrap64 (x8_1 + 1))) = some r := by rw [if_neg (show ¬ (false = true) by decide)] at H; exact H
              clear H
              have H := H1
              clear H1
              have H' := Aside0.mk H
              clear H
              have p104 : 0 ≤ (x8_1 : Int) := of_decide_eq_true (by first | (with_reducible assumption) | assumption)
              have q104 : x8_1 < (l0.length : Int) := of_decide_eq_true (by first | (with_reducible assumption) | assumption)
              obtain ⟨ad104, e104, hx104_0, hx104_1⟩ := at_T37 HR0.out x8_1 p104 q104
              cases e104
              replace hx104_0 := (HB.out.cell (World.block_lt_of_cell? w _ hx104_0)).trans hx104_0
              replace hx104_1 := (HB.out.cell (World.block_lt_of_cell? w _ hx104_1)).trans hx104_1
              replace p104 := eq_true p104
              replace q104 := eq_true q104
              go_wp2_with (first | (go_at_call 21; (with_reducible refine (run_May_1.calls ((rd_T37 l0 x8_1).f0) ((rd_T37 l0 x8_1).f1) false _ A5.out).mono ?_); rintro e w8 ⟨rfl, hb⟩; have n0_ := Aside0.mk (below_step (by repeat (first | (with_reducible first | exact HB.out | apply below_alloc | apply pw_below_drewN | apply below_drew1) | exact HB.out)) hb); clear HB; have HB := n0_; clear n0_; (try clear hb); (try clear hb2); (try clear hk); (try clear hi)))
              go_roundg k1
              case measure => have := HK1.out; omega
              case rel => exact ⟨(wrap64 (x8_1 + 1)), (by first | rfl | (simp; done) | (simp [*]; done)), H', ⟨by have := HK1.out; omega⟩, ⟨by repeat (first | (with_reducible first | exact HB.out | apply below_alloc | apply pw_below_drewN | apply below_drew1) | exact HB.out)⟩⟩
          · rw [if_neg c4] at H
            exact absurd H (by simp)
        · rw [if_neg c3] at H
          exact absurd H (by simp)
      · rw [if_neg c2] at H
        have c2b0 : decide (x8_1 < (l0.length : Int)) = false := decide_eq_false c2
        clear c2
        obtain rfl := Option.some.inj H
        go_wp2
        go_ret
        exact ⟨by first | rfl | (simp [errW_none, errW_some] <;> rfl) | (simp [*, errW_none, errW_some] <;> rfl), by repeat (first | (with_reducible first | exact HB.out | apply below_alloc | apply pw_below_drewN | apply below_drew1) | exact HB.out)⟩

/-! ### api_Entry_20: function 20 -/
def api_Entry_20.f (k : Nat) (l0 : List (S37)) : Option (Bool) := (api_Entry_27.f k l0).bind fun t106 => (some (decide (t106 ≥ 0)))
theorem api_Entry_20.mono : ∀ a0 k, LeO (api_Entry_20.f k a0) (api_Entry_20.f (k + 1) a0) := by
  intro a0 k
  unfold api_Entry_20.f
  repeat' first
      | (with_reducible exact api_Entry_27.mono _ _)
      | (with_reducible exact LeO.refl _)
      | (with_reducible exact LeO.none _)
      | (with_reducible refine LeO.ite ?_ ?_)
      | (with_reducible refine LeO.bind ?_ (fun _ => ?_))
      | exact api_Entry_27.mono _ _
      | exact LeO.none _
      | refine LeO.ite ?_ ?_
      | refine LeO.bind ?_ (fun _ => ?_)
set_option maxHeartbeats 8000000 in
set_option maxRecDepth 100000 in
theorem api_Entry_20.calls (k : Nat) (A0 : Option Addr) (c0 : Nat) (l0 : List (S37)) (r : Bool) (w : World) (hr0 : Kd.C k37 w A0 l0.length l0) (hc0 : l0.length ≤ c0) (h : api_Entry_20.f k l0 = some r) :
    Calls Try.prog 20 #[.slice A0 l0.length c0, .func (.func 21) #[] #[]] w fun e w' => e = .returned (.bool r) ∧ Below w.heap.size w w' := by
  have HR0 := Aside0.mk hr0
  have HC0 := Aside0.mk hc0
  clear hr0 hc0
  have HB := Aside0.mk (Below.refl w.heap.size w)
  have H : ((api_Entry_27.f k l0).bind fun t106 => (some (decide (t106 ≥ 0)))) = some r := h
  clear h
  replace H := Option.bind_eq_some_iff.mp H
  obtain ⟨t106, A20, H⟩ := H
  replace H : (some (decide (t106 ≥ 0))) = some r := H
  have A2 := Aside0.mk A20
  clear A20
  obtain rfl := Option.some.inj H
  go_enter Try.func20, Try.ntmps20
  go_wp2_with (first | ((with_reducible refine gate_callee (f := 27) rfl ?_); refine goesL_ (some 7) rfl rfl Try.func27 (by kernel_rfl) rfl #[.slice A0 l0.length c0, .func (.func 21) #[] #[]] rfl (by (try simp only [List.map_toArray, List.map_cons, List.map_nil]); first | done | rfl | (simp only [List.length_drop, List.length_take]; rfl)) ?_; (with_reducible refine (api_Entry_27.calls k _ _ l0 t106 _ ?side1 ?side2 A2.out).mono ?_); (case side1 => repeat (first | exact HR0.out | (with_reducible refine Kd.C_alloc ?_ _) | (with_reducible refine Kd.C_drewN ?_ _) | (with_reducible refine Kd.C_drew ?_))); (case side2 => exact HC0.out); rintro e w3 ⟨rfl, hb⟩; refine ⟨_, rfl, ?_⟩; have n0_ := Aside0.mk (below_step (by repeat (first | (with_reducible first | exact HB.out | apply below_alloc | apply pw_below_drewN | apply below_drew1) | exact HB.out)) hb); clear HB; have HB := n0_; clear n0_; (try clear hb); (try clear hb2); (try clear hk); (try clear hi)))
  go_ret
  exact ⟨by first | rfl | (simp [errW_none, errW_some] <;> rfl) | (simp [*, errW_none, errW_some] <;> rfl), by repeat (first | (with_reducible first | exact HB.out | apply below_alloc | apply pw_below_drewN | apply below_drew1) | exact HB.out)⟩

/-! ### run_May: function 13 -/
def run_May.l0 : Nat → List (S37) → Int → Option (Int)
  | 0, _, _ => none
  | k + 1, x0, x3 => if x3 < (x0.length : Int) then (if 0 ≤ x3 then (if 0 ≤ (wrap64 (x3 - 1)) then (if (wrap64 (x3 - 1)) < (x0.length : Int) then (if ((Op.bytesLess (((rd_T37 x0 (wrap64 (x3 - 1))).f0).toList) (((rd_T37 x0 x3).f0).toList)) = true) then (run_May.l0 k x0 (wrap64 (x3 + 1))) else (some 9)) else (none)) else (none)) else (none)) else (some 0)
def run_May.f (k : Nat) (l0 : List (S37)) : Option (Int) := (api_Entry_20.f k l0).bind fun t107 => (if t107 = true then (some 1) else (run_May.l0 k l0 1))
theorem run_May.mono_l : ∀ k, (∀ y0 y1, LeO (run_May.l0 k y0 y1) (run_May.l0 (k + 1) y0 y1))
  | 0 => fun _ _ r h => by simp [run_May.l0] at h
  | k + 1 => by
    have ih0 := run_May.mono_l k
    · intro y0 y1
      unfold run_May.l0
      repeat' first
      | (with_reducible exact ih0 _ _)
      | (with_reducible exact api_Entry_20.mono _ _)
      | (with_reducible exact LeO.refl _)
      | (with_reducible exact LeO.none _)
      | (with_reducible refine LeO.ite ?_ ?_)
      | (with_reducible refine LeO.bind ?_ (fun _ => ?_))
      | exact ih0 _ _
      | exact api_Entry_20.mono _ _
      | exact LeO.none _
      | refine LeO.ite ?_ ?_
      | refine LeO.bind ?_ (fun _ => ?_)
theorem run_May.mono : ∀ a0 k, LeO (run_May.f k a0) (run_May.f (k + 1) a0) := by
  intro a0 k
  have ih0 := run_May.mono_l k
  unfold run_May.f
  repeat' first
      | (with_reducible exact ih0 _ _)
      | (with_reducible exact api_Entry_20.mono _ _)
      | (with_reducible exact LeO.refl _)
      | (with_reducible exact LeO.none _)
      | (with_reducible refine LeO.ite ?_ ?_)
      | (with_reducible refine LeO.bind ?_ (fun _ => ?_))
      | exact ih0 _ _
      | exact api_Entry_20.mono _ _
      | exact LeO.none _
      | refine LeO.ite ?_ ?_
      | refine LeO.bind ?_ (fun _ => ?_)
set_option maxHeartbeats 8000000 in
set_option maxRecDepth 100000 in
theorem run_May.calls (k : Nat) (A0 : Option Addr) (c0 : Nat) (l0 : List (S37)) (r : Int) (w : World) (hr0 : Kd.C k37 w A0 l0.length l0) (hc0 : l0.length ≤ c0) (h : run_May.f k l0 = some r) :
    Calls Try.prog 13 #[.slice A0 l0.length c0] w fun e w' => e = .returned (.int .i64 r) ∧ Below w.heap.size w w' := by
  have HR0 := Aside0.mk hr0
  have HC0 := Aside0.mk hc0
  clear hr0 hc0
  have HB := Aside0.mk (Below.refl w.heap.size w)
  have H : ((api_Entry_20.f k l0).bind fun t107 => (if t107 = true then (some 1) else (run_May.l0 k l0 1))) = some r := h
  clear h
  replace H := Option.bind_eq_some_iff.mp H
  obtain ⟨t107, A20, H⟩ := H
  replace H : (if t107 = true then (some 1) else (run_May.l0 k l0 1)) = some r := H
  have A2 := Aside0.mk A20
  clear A20
  by_cases c3 : t107 = true
  · subst c3
    have H1 : (some 1) = some r := by rw [if_pos rfl] at H; exact H
    clear H
    have H := H1
    clear H1
    obtain rfl := Option.some.inj H
    go_enter Try.func13, Try.ntmps13
    go_wp2_with (first | (go_at_call 20; (with_reducible refine (api_Entry_20.calls k _ _ l0 true _ ?side1 ?side2 A2.out).mono ?_); (case side1 => repeat (first | exact HR0.out | (with_reducible refine Kd.C_alloc ?_ _) | (with_reducible refine Kd.C_drewN ?_ _) | (with_reducible refine Kd.C_drew ?_))); (case side2 => exact HC0.out); rintro e w4 ⟨rfl, hb⟩; have n0_ := Aside0.mk (below_step (by repeat (first | (with_reducible first | exact HB.out | apply below_alloc | apply pw_below_drewN | apply below_drew1) | exact HB.out)) hb); clear HB; have HB := n0_; clear n0_; (try clear hb); (try clear hb2); (try clear hk); (try clear hi)))
    repeat (go_quiet (first | (go_at_call 20; (with_reducible refine (api_Entry_20.calls k _ _ l0 true _ ?side1 ?side2 A2.out).mono ?_); (case side1 => repeat (first | exact HR0.out | (with_reducible refine Kd.C_alloc ?_ _) | (with_reducible refine Kd.C_drewN ?_ _) | (with_reducible refine Kd.C_drew ?_))); (case side2 => exact HC0.out); rintro e w4 ⟨rfl, hb⟩; have n0_ := Aside0.mk (below_step (by repeat (first | (with_reducible first | exact HB.out | apply below_alloc | apply pw_below_drewN | apply below_drew1) | exact HB.out)) hb); clear HB; have HB := n0_; clear n0_; (try clear hb); (try clear hb2); (try clear hk); (try clear hi))); try go_wp2_with (first | (go_at_call 20; (with_reducible refine (api_Entry_20.calls k _ _ l0 true _ ?side1 ?side2 A2.out).mono ?_); (case side1 => repeat (first | exact HR0.out | (with_reducible refine Kd.C_alloc ?_ _) | (with_reducible refine Kd.C_drewN ?_ _) | (with_reducible refine Kd.C_drew ?_))); (case side2 => exact HC0.out); rintro e w4 ⟨rfl, hb⟩; have n0_ := Aside0.mk (below_step (by repeat (first | (with_reducible first | exact HB.out | apply below_alloc | apply pw_below_drewN | apply below_drew1) | exact HB.out)) hb); clear HB; have HB := n0_; clear n0_; (try clear hb); (try clear hb2); (try clear hk); (try clear hi))))
    go_ret
    exact ⟨by first | rfl | (simp [errW_none, errW_some] <;> rfl) | (simp [*, errW_none, errW_some] <;> rfl), by repeat (first | (with_reducible first | exact HB.out | apply below_alloc | apply pw_below_drewN | apply below_drew1) | exact HB.out)⟩
  · replace c3 := Bool.eq_false_iff.mpr c3
    subst c3
    have H1 : (run_May.l0 k l0 1) = some r := by rw [if_neg (show ¬ (false = true) by decide)] at H; exact H
    clear H
    have H := H1
    clear H1
    have H' := Aside0.mk H
    clear H
    go_enter Try.func13, Try.ntmps13
    go_wp2_with (first | (go_at_call 20; (with_reducible refine (api_Entry_20.calls k _ _ l0 false _ ?side1 ?side2 A2.out).mono ?_); (case side1 => repeat (first | exact HR0.out | (with_reducible refine Kd.C_alloc ?_ _) | (with_reducible refine Kd.C_drewN ?_ _) | (with_reducible refine Kd.C_drew ?_))); (case side2 => exact HC0.out); rintro e w5 ⟨rfl, hb⟩; have n0_ := Aside0.mk (below_step (by repeat (first | (with_reducible first | exact HB.out | apply below_alloc | apply pw_below_drewN | apply below_drew1) | exact HB.out)) hb); clear HB; have HB := n0_; clear n0_; (try clear hb); (try clear hb2); (try clear hk); (try clear hi)))
    repeat (go_quiet (first | (go_at_call 20; (with_reducible refine (api_Entry_20.calls k _ _ l0 false _ ?side1 ?side2 A2.out).mono ?_); (case side1 => repeat (first | exact HR0.out | (with_reducible refine Kd.C_alloc ?_ _) | (with_reducible refine Kd.C_drewN ?_ _) | (with_reducible refine Kd.C_drew ?_))); (case side2 => exact HC0.out); rintro e w5 ⟨rfl, hb⟩; have n0_ := Aside0.mk (below_step (by repeat (first | (with_reducible first | exact HB.out | apply below_alloc | apply pw_below_drewN | apply below_drew1) | exact HB.out)) hb); clear HB; have HB := n0_; clear n0_; (try clear hb); (try clear hb2); (try clear hk); (try clear hi))); try go_wp2_with (first | (go_at_call 20; (with_reducible refine (api_Entry_20.calls k _ _ l0 false _ ?side1 ?side2 A2.out).mono ?_); (case side1 => repeat (first | exact HR0.out | (with_reducible refine Kd.C_alloc ?_ _) | (with_reducible refine Kd.C_drewN ?_ _) | (with_reducible refine Kd.C_drew ?_))); (case side2 => exact HC0.out); rintro e w5 ⟨rfl, hb⟩; have n0_ := Aside0.mk (below_step (by repeat (first | (with_reducible first | exact HB.out | apply below_alloc | apply pw_below_drewN | apply below_drew1) | exact HB.out)) hb); clear HB; have HB := n0_; clear n0_; (try clear hb); (try clear hb2); (try clear hk); (try clear hi))))
    go_loopg [3] k (fun kq v3 w' => ∃ (x3_1 : Int), v3 = .int .i64 x3_1 ∧ Aside0 (run_May.l0 kq l0 x3_1 = some r) ∧ Aside0 (kq ≤ k) ∧ Aside0 (Below w.heap.size w w'))
    case atStart => exact ⟨(1), (by first | rfl | (simp; done) | (simp [*]; done)), H', ⟨Nat.le_refl _⟩, ⟨by repeat (first | (with_reducible first | exact HB.out | apply below_alloc | apply pw_below_drewN | apply below_drew1) | exact HB.out)⟩⟩
    case round =>
      clear H'
      try clear c1
      try clear p2
      try clear c3
      obtain ⟨x3_1, rfl, HA, HK1, HB⟩ := hrel
      cases gk with
      | zero => exact absurd HA.out (by simp [run_May.l0])
      | succ k1 =>
        have H := HA.out
        clear HA
        simp only [run_May.l0] at H
        by_cases c6 : x3_1 < (l0.length : Int)
        · rw [if_pos c6] at H
          have c6b0 : decide (x3_1 < (l0.length : Int)) = true := decide_eq_true c6
          clear c6
          by_cases c7 : 0 ≤ x3_1
          · rw [if_pos c7] at H
            have c7b0 : decide (0 ≤ x3_1) = true := decide_eq_true c7
            clear c7
            obtain ⟨ji8, hji8⟩ : ∃ j_ : Int, (wrap64 (x3_1 - 1)) = j_ := ⟨_, rfl⟩
            replace H : (if 0 ≤ (ji8) then (if (ji8) < (l0.length : Int) then (if ((Op.bytesLess (((rd_T37 l0 (ji8)).f0).toList) (((rd_T37 l0 x3_1).f0).toList)) = true) then (run_May.l0 k1 l0 (wrap64 (x3_1 + 1))) else (some 9)) else (none)) else (none)) = some r := by first | (rw [hji8] at H; exact H) | (simp only [hji8] at H ⊢; exact H)
            have hji8w : (IntKind.i64.wrap (x3_1 - 1)) = ji8 := (i64_w _).trans hji8
            by_cases c9 : 0 ≤ (ji8)
            · rw [if_pos c9] at H
              have c9b0 : decide (0 ≤ (ji8)) = true := decide_eq_true c9
              clear c9
              by_cases c10 : (ji8) < (l0.length : Int)
              · rw [if_pos c10] at H
                have c10b0 : decide ((ji8) < (l0.length : Int)) = true := decide_eq_true c10
                clear c10
                by_cases c11 : ((Op.bytesLess (((rd_T37 l0 (ji8)).f0).toList) (((rd_T37 l0 x3_1).f0).toList)) = true)
                · rw [if_pos c11] at H
                  have c11b0 : (Op.bytesLess (((rd_T37 l0 (ji8)).f0).toList) (((rd_T37 l0 x3_1).f0).toList)) = true := c11
                  clear c11
                  have H' := Aside0.mk H
                  clear H
                  have p108 : 0 ≤ (x3_1 : Int) := of_decide_eq_true (by first | (with_reducible assumption) | assumption)
                  have q108 : x3_1 < (l0.length : Int) := of_decide_eq_true (by first | (with_reducible assumption) | assumption)
                  obtain ⟨ad108, e108, hx108_0, hx108_1⟩ := at_T37 HR0.out x3_1 p108 q108
                  cases e108
                  replace hx108_0 := (HB.out.cell (World.block_lt_of_cell? w _ hx108_0)).trans hx108_0
                  replace hx108_1 := (HB.out.cell (World.block_lt_of_cell? w _ hx108_1)).trans hx108_1
                  replace p108 := eq_true p108
                  replace q108 := eq_true q108
                  have p109 : 0 ≤ ((ji8) : Int) := of_decide_eq_true (by first | (with_reducible assumption) | assumption)
                  have q109 : (ji8) < (l0.length : Int) := of_decide_eq_true (by first | (with_reducible assumption) | assumption)
                  obtain ⟨ad109, e109, hx109_0, hx109_1⟩ := at_T37 HR0.out (ji8) p109 q109
                  obtain rfl : ad108 = ad109 := (by injection e109)
                  replace hx109_0 := (HB.out.cell (World.block_lt_of_cell? w _ hx109_0)).trans hx109_0
                  replace hx109_1 := (HB.out.cell (World.block_lt_of_cell? w _ hx109_1)).trans hx109_1
                  replace p109 := eq_true p109
                  replace q109 := eq_true q109
                  go_wp2
                  repeat (go_quiet (fail); try go_wp2)
                  go_roundg k1
                  case measure => have := HK1.out; omega
                  case rel => exact ⟨(wrap64 (x3_1 + 1)), (by first | rfl | (simp; done) | (simp [*]; done)), H', ⟨by have := HK1.out; omega⟩, ⟨by repeat (first | (with_reducible first | exact HB.out | apply below_alloc | apply pw_below_drewN | apply below_drew1) | exact HB.out)⟩⟩
                · rw [if_neg c11] at H
                  have c11b0 : (Op.bytesLess (((rd_T37 l0 (ji8)).f0).toList) (((rd_T37 l0 x3_1).f0).toList)) = false := by simpa using c11
                  clear c11
                  obtain rfl := Option.some.inj H
                  have p108 : 0 ≤ (x3_1 : Int) := of_decide_eq_true (by first | (with_reducible assumption) | assumption)
                  have q108 : x3_1 < (l0.length : Int) := of_decide_eq_true (by first | (with_reducible assumption) | assumption)
                  obtain ⟨ad108, e108, hx108_0, hx108_1⟩ := at_T37 HR0.out x3_1 p108 q108
                  cases e108
                  replace hx108_0 := (HB.out.cell (World.block_lt_of_cell? w _ hx108_0)).trans hx108_0
                  replace hx108_1 := (HB.out.cell (World.block_lt_of_cell? w _ hx108_1)).trans hx108_1
                  replace p108 := eq_true p108
                  replace q108 := eq_true q108
                  have p109 : 0 ≤ ((ji8) : Int) := of_decide_eq_true (by first | (with_reducible assumption) | assumption)
                  have q109 : (ji8) < (l0.length : Int) := of_decide_eq_true (by first | (with_reducible assumption) | assumption)
                  obtain ⟨ad109, e109, hx109_0, hx109_1⟩ := at_T37 HR0.out (ji8) p109 q109
                  obtain rfl : ad108 = ad109 := (by injection e109)
                  replace hx109_0 := (HB.out.cell (World.block_lt_of_cell? w _ hx109_0)).trans hx109_0
                  replace hx109_1 := (HB.out.cell (World.block_lt_of_cell? w _ hx109_1)).trans hx109_1
                  replace p109 := eq_true p109
                  replace q109 := eq_true q109
                  go_wp2
                  repeat (go_quiet (fail); try go_wp2)
                  go_ret
                  exact ⟨by first | rfl | (simp [errW_none, errW_some] <;> rfl) | (simp only [← hji8]; first | rfl | (simp [errW_none, errW_some] <;> rfl)) | (simp [*, errW_none, errW_some] <;> rfl), by repeat (first | (with_reducible first | exact HB.out | apply below_alloc | apply pw_below_drewN | apply below_drew1) | exact HB.out)⟩
              · rw [if_neg c10] at H
                exact absurd H (by simp)
            · rw [if_neg c9] at H
              exact absurd H (by simp)
          · rw [if_neg c7] at H
            exact absurd H (by simp)
        · rw [if_neg c6] at H
          have c6b0 : decide (x3_1 < (l0.length : Int)) = false := decide_eq_false c6
          clear c6
          obtain rfl := Option.some.inj H
          go_wp2
          repeat (go_quiet (fail); try go_wp2)
          go_ret
          exact ⟨by first | rfl | (simp [errW_none, errW_some] <;> rfl) | (simp [*, errW_none, errW_some] <;> rfl), by repeat (first | (with_reducible first | exact HB.out | apply below_alloc | apply pw_below_drewN | apply below_drew1) | exact HB.out)⟩

/-! ### loser_tree_ahead: function 24 -/
/-- What lists are, in memory: the headers of their rows. -/
def Heads (w0 : World) (hs : List Value) (ls : List (List S37)) : Prop := hs.length = ls.length ∧ ∀ (i : Nat) (l : List S37), ls[i]? = some l → ∃ A c, hs[i]? = some (Value.slice A l.length c) ∧ l.length ≤ c ∧ Kd.C k37 w0 A l.length l
def ints (l : List Nat) : List Value := l.map fun x : Nat => Value.int .i64 (x : Int)
/-- A tree, in memory: its block, that of its lists' headers, and that of those that lost. -/
structure TreeIs (w0 w : World) (g go gl : Nat) (ls : List (List S37)) (lost : List Nat) : Prop where
  tree : w.heap[g]? = some (.cells #[.slice (some ⟨go, 0, none⟩) ls.length ls.length, .slice (some ⟨gl, 0, none⟩) lost.length lost.length] 52 (0, 0))
  own : ∃ hs, w.heap[go]? = some (.cells hs.toArray 25 (0, 0)) ∧ Heads w0 hs ls
  lost : w.heap[gl]? = some (.cells (ints lost).toArray 3 (0, 0))
  ge : w0.heap.size ≤ go ∧ go < gl ∧ gl < g
  low : Below w0.heap.size w0 w
def hdE (l : List S37) : S37 := l.getD 0 z37
def at2 (ls : List (List S37)) (i : Nat) : List S37 := ls.getD i []
def aheadB (ls : List (List S37)) (a b : Nat) : Bool := if (at2 ls a).length = 0 then false else if (at2 ls b).length = 0 then true else Op.bytesLess (hdE (at2 ls a)).f0.toList (hdE (at2 ls b)).f0.toList
theorem TreeIs.list {w0 w : World} {g go gl : Nat} {ls : List (List S37)} {lost : List Nat} (h : TreeIs w0 w g go gl ls lost) (i : Nat) (hi : i < ls.length) :
    ∃ A c, w.cell? ⟨go, i, none⟩ = some (.slice A (at2 ls i).length c) ∧ (at2 ls i).length ≤ c ∧ Kd.C k37 w A (at2 ls i).length (at2 ls i) ∧ Kd.C k37 w0 A (at2 ls i).length (at2 ls i) := by
  obtain ⟨hs, hb, hl, hh⟩ := h.own
  have e : at2 ls i = ls[i] := by unfold at2; rw [List.getD_eq_getElem?_getD, List.getElem?_eq_getElem hi]; rfl
  obtain ⟨A, c, h1, h2, h3⟩ := hh i ls[i] (List.getElem?_eq_getElem hi)
  rw [e]
  refine ⟨A, c, ?_, h2, Kd.C_below h3 h.low, h3⟩
  rw [blk_cell hb i, List.getElem?_toArray, h1]
theorem TreeIs.head {w0 w : World} {g go gl : Nat} {ls : List (List S37)} {lost : List Nat} (h : TreeIs w0 w g go gl ls lost) (i : Nat) (hi : i < ls.length) (hp : (at2 ls i).length ≠ 0) :
    ∃ ad c, w.cell? ⟨go, i, none⟩ = some (.slice (some ad) (at2 ls i).length c) ∧ (at2 ls i).length ≤ c ∧ w.cell? ad = some (.string (hdE (at2 ls i)).f0) ∧ w.cell? ⟨ad.block, ad.off + 1, none⟩ = some (.int .u64 (hdE (at2 ls i)).f1) := by
  obtain ⟨A, c, h1, h2, h3, _⟩ := h.list i hi
  obtain ⟨ad, rfl, h4, h5⟩ := at_T37 h3 0 (Int.le_refl _) (by omega)
  have eh : rd_T37 (at2 ls i) 0 = hdE (at2 ls i) := rfl
  rw [show ((0 : Int)).toNat = 0 from rfl, show 0 * 2 = 0 from rfl, Addr.add_zero'] at h4 h5
  rw [eh] at h4 h5
  exact ⟨ad, c, h1, h2, h4, h5⟩
set_option maxHeartbeats 8000000 in
set_option maxRecDepth 100000 in
theorem loser_tree_ahead.calls (w0 w : World) (g go gl : Nat) (ls : List (List S37)) (lost : List Nat) (a b : Nat) (hT : TreeIs w0 w g go gl ls lost) (ha : a < ls.length) (hb : b < ls.length) :
    Calls Try.prog 24 #[.pointer (some ⟨g, 0, none⟩), .int .i64 a, .int .i64 b] w fun e w' => e = .returned (.bool (aheadB ls a b)) ∧ Drawn0 w w' := by
  have hc0 : w.cell? ⟨g, 0, none⟩ = some (.slice (some ⟨go, 0, none⟩) ls.length ls.length) := blk_cell hT.tree 0
  have p1 : (0 ≤ (a : Int)) = True := eq_true (by omega)
  have q1 : ((a : Int) < (ls.length : Int)) = True := eq_true (by omega)
  have p2 : (0 ≤ (b : Int)) = True := eq_true (by omega)
  have q2 : ((b : Int) < (ls.length : Int)) = True := eq_true (by omega)
  have HT := Aside0.mk hT
  clear hT
  by_cases c1 : (at2 ls a).length = 0
  · obtain ⟨A, c, h1, h2, _, _⟩ := HT.out.list a ha
    have e1 : (((at2 ls a).length : Int) == 0) = true := beq_iff_eq.mpr (by omega)
    have er : aheadB ls a b = false := by unfold aheadB; rw [if_pos c1]
    rw [er]
    clear h2 c1
    go_enter Try.func24, Try.ntmps24
    go_wp2
    repeat (go_quiet (fail); try go_wp2)
    go_ret
    exact ⟨rfl, Drawn0.refl _⟩
  · obtain ⟨ad, c, h1, h2, h3, _⟩ := HT.out.head a ha c1
    have e1 : (((at2 ls a).length : Int) == 0) = false := beq_eq_false_iff_ne.mpr (by omega)
    by_cases c2 : (at2 ls b).length = 0
    · obtain ⟨A, c', h4, h5, _, _⟩ := HT.out.list b hb
      have e2 : (((at2 ls b).length : Int) == 0) = true := beq_iff_eq.mpr (by omega)
      have er : aheadB ls a b = true := by unfold aheadB; rw [if_neg c1, if_pos c2]
      rw [er]
      clear h2 c1 c2 h5
      go_enter Try.func24, Try.ntmps24
      go_wp2
      repeat (go_quiet (fail); try go_wp2)
      go_ret
      exact ⟨rfl, Drawn0.refl _⟩
    · obtain ⟨ad', c', h4, h5, h6, _⟩ := HT.out.head b hb c2
      have e2 : (((at2 ls b).length : Int) == 0) = false := beq_eq_false_iff_ne.mpr (by omega)
      have er : aheadB ls a b = Op.bytesLess (hdE (at2 ls a)).f0.toList (hdE (at2 ls b)).f0.toList := by unfold aheadB; rw [if_neg c1, if_neg c2]
      rw [er]
      have i1 : ((0 : Int) < ((at2 ls a).length : Int)) = True := eq_true (by omega)
      have i2 : ((0 : Int) < ((at2 ls b).length : Int)) = True := eq_true (by omega)
      have i3 : (0 < (at2 ls a).length) = True := eq_true (by omega)
      have i4 : (0 < (at2 ls b).length) = True := eq_true (by omega)
      clear h2 c1 c2 h5
      go_enter Try.func24, Try.ntmps24
      go_wp2
      repeat (go_quiet (fail); try go_wp2)
      go_ret
      exact ⟨rfl, ⟨_, rfl⟩⟩
/-- All but two blocks lie as they lay. -/
def ButTwo (w w' : World) (g1 g2 : Nat) : Prop := w'.os = w.os ∧ w'.tape = w.tape ∧ w'.output = w.output ∧ w.heap.size ≤ w'.heap.size ∧ ∀ k, k ≠ g1 → k ≠ g2 → k < w.heap.size → w'.heap[k]? = w.heap[k]?
theorem ButTwo.refl (w : World) (g1 g2 : Nat) : ButTwo w w g1 g2 := ⟨rfl, rfl, rfl, Nat.le_refl _, fun _ _ _ _ => rfl⟩
theorem ButTwo.drewN {w w' : World} {g1 g2 : Nat} (h : ButTwo w w' g1 g2) (m : Nat) : ButTwo w (w'.drewN m) g1 g2 := h
theorem ButTwo.set {w w' : World} {g1 g2 : Nat} (h : ButTwo w w' g1 g2) {g : Nat} (hg : g = g1 ∨ g = g2) (i : Nat) (u : Value) : ButTwo w (w'.setCell ⟨g, i, none⟩ u) g1 g2 := by
  refine ⟨h.1, h.2.1, h.2.2.1, ?_, fun k h1 h2 hk => ?_⟩
  · rw [World.size_setCell]; exact h.2.2.2.1
  · refine (Below.heap_setCell _ ⟨g, i, none⟩ _ k ?_).trans (h.2.2.2.2 k h1 h2 hk)
    intro e
    rcases hg with hg | hg
    · exact h1 (e.trans hg)
    · exact h2 (e.trans hg)
theorem ButTwo.alloc {w w' : World} {g1 g2 : Nat} (h : ButTwo w w' g1 g2) (o : Obj) : ButTwo w (w'.alloc o) g1 g2 := by
  refine ⟨h.1, h.2.1, h.2.2.1, Nat.le_trans h.2.2.2.1 (by rw [World.size_alloc]; omega), fun k h1 h2 hk => ?_⟩
  exact (Below.heap_alloc _ o k (Nat.lt_of_lt_of_le hk h.2.2.2.1)).trans (h.2.2.2.2 k h1 h2 hk)
theorem ButTwo.trans {w w1 w2 : World} {g1 g2 : Nat} (h : ButTwo w w1 g1 g2) (h' : ButTwo w1 w2 g1 g2) : ButTwo w w2 g1 g2 :=
  ⟨h'.1.trans h.1, h'.2.1.trans h.2.1, h'.2.2.1.trans h.2.2.1, Nat.le_trans h.2.2.2.1 h'.2.2.2.1, fun k a b hk => (h'.2.2.2.2 k a b (Nat.lt_of_lt_of_le hk h.2.2.2.1)).trans (h.2.2.2.2 k a b hk)⟩
def lst (l : List Nat) (i : Nat) : Nat := l.getD i 0
theorem ints_get (l : List Nat) (i : Nat) (h : i < l.length) : (ints l).toArray[i]? = some (.int .i64 (lst l i : Nat)) := by
  unfold ints lst
  rw [List.getElem?_toArray, List.getElem?_map, List.getElem?_eq_getElem h, List.getD_eq_getElem?_getD, List.getElem?_eq_getElem h]
  rfl
theorem ints_set (l : List Nat) (i x : Nat) : (ints l).toArray.setIfInBounds i (.int .i64 (x : Int)) = (ints (l.set i x)).toArray := by
  unfold ints
  rw [List.setIfInBounds_toArray, List.map_set]
theorem TreeIs.lose {w0 w : World} {g go gl : Nat} {ls : List (List S37)} {lost : List Nat} (h : TreeIs w0 w g go gl ls lost) (i : Nat) (hi : i < lost.length) : w.cell? ⟨gl, i, none⟩ = some (.int .i64 (lst lost i : Nat)) := (blk_cell h.lost i).trans (ints_get lost i hi)
theorem TreeIs.drewN {w0 w : World} {g go gl : Nat} {ls : List (List S37)} {lost : List Nat} (h : TreeIs w0 w g go gl ls lost) (m : Nat) : TreeIs w0 (w.drewN m) g go gl ls lost := ⟨h.tree, h.own, h.lost, h.ge, pw_below_drewN h.low m⟩
theorem TreeIs.setLost {w0 w : World} {g go gl : Nat} {ls : List (List S37)} {lost : List Nat} (h : TreeIs w0 w g go gl ls lost) (i x : Nat) : TreeIs w0 (w.setCell ⟨gl, i, none⟩ (.int .i64 (x : Int))) g go gl ls (lost.set i x) := by
  obtain ⟨hs, hb, hh⟩ := h.own
  have hg := h.ge
  refine ⟨?_, ⟨hs, blk_far hb (p := ⟨gl, i, none⟩) (by show go ≠ gl; omega) _, hh⟩, blk_put h.lost i _ (ints_set lost i x), h.ge, h.low.setCell (by show w0.heap.size ≤ gl; omega) _⟩
  rw [List.length_set]
  exact blk_far h.tree (p := ⟨gl, i, none⟩) (by show g ≠ gl; omega) _
/-- A list plays from a node up: who lost where, then. -/
def playG (ls : List (List S37)) : Nat → Nat → Nat → List Nat → List Nat
  | 0, _, i, lost => lost.set 0 i
  | d + 1, k, i, lost => if k = 0 then lost.set 0 i else if aheadB ls (lst lost k) i = true then playG ls d (k / 2) (lst lost k) (lost.set k i) else playG ls d (k / 2) i lost
theorem playG_len (ls : List (List S37)) : ∀ (d k i : Nat) (lost : List Nat), (playG ls d k i lost).length = lost.length
  | 0, k, i, lost => by rw [playG, List.length_set]
  | d + 1, k, i, lost => by
    rw [playG]
    split
    · rw [List.length_set]
    · split
      · rw [playG_len, List.length_set]
      · rw [playG_len]
theorem half (k : Nat) (h : k ≤ 100000) : wrap64 (Int.tdiv (k : Int) 2) = ((k / 2 : Nat) : Int) := by
  unfold wrap64
  rw [Int.tdiv_eq_ediv_of_nonneg (by omega)]
  omega
theorem half2 (k : Nat) (h : k ≤ 100000) : wrap64 ((k : Int) / 2) = ((k / 2 : Nat) : Int) := by unfold wrap64; omega
theorem TreeIs.move {w0 w w' : World} {g go gl : Nat} {ls : List (List S37)} {lost : List Nat} (h : TreeIs w0 w g go gl ls lost) (h1 : w'.heap[g]? = w.heap[g]?) (h2 : w'.heap[go]? = w.heap[go]?) (h3 : w'.heap[gl]? = w.heap[gl]?) (hb : Below w0.heap.size w0 w') : TreeIs w0 w' g go gl ls lost := by
  obtain ⟨hs, hb2, hh⟩ := h.own
  exact ⟨h1.trans h.tree, ⟨hs, h2.trans hb2, hh⟩, h3.trans h.lost, h.ge, hb⟩
theorem TreeIs.lt {w0 w : World} {g go gl : Nat} {ls : List (List S37)} {lost : List Nat} (h : TreeIs w0 w g go gl ls lost) : w0.heap.size ≤ go ∧ go < gl ∧ gl < g ∧ g < w.heap.size := ⟨h.ge.1, h.ge.2.1, h.ge.2.2, blk_lt h.tree⟩
theorem TreeIs.alloc {w0 w : World} {g go gl : Nat} {ls : List (List S37)} {lost : List Nat} (h : TreeIs w0 w g go gl ls lost) (o : Obj) : TreeIs w0 (w.alloc o) g go gl ls lost := by
  have hl := h.lt
  exact h.move (Below.heap_alloc w o g (by omega)) (Below.heap_alloc w o go (by omega)) (Below.heap_alloc w o gl (by omega)) (below_alloc h.low o)
theorem TreeIs.far {w0 w : World} {g go gl : Nat} {ls : List (List S37)} {lost : List Nat} (h : TreeIs w0 w g go gl ls lost) {b : Nat} (hb : g < b) (i : Nat) (u : Value) : TreeIs w0 (w.setCell ⟨b, i, none⟩ u) g go gl ls lost := by
  have hl := h.lt
  exact h.move (Below.heap_setCell w ⟨b, i, none⟩ u g (by show g ≠ b; omega)) (Below.heap_setCell w ⟨b, i, none⟩ u go (by show go ≠ b; omega)) (Below.heap_setCell w ⟨b, i, none⟩ u gl (by show gl ≠ b; omega)) (h.low.setCell (by show w0.heap.size ≤ b; omega) _)
theorem TreeIs.setOwn {w0 w : World} {g go gl : Nat} {ls : List (List S37)} {lost : List Nat} (h : TreeIs w0 w g go gl ls lost) (i : Nat) (hi : i < ls.length) (A : Option Addr) (l : List S37) (c : Nat) (hc : l.length ≤ c) (hC : Kd.C k37 w0 A l.length l) : TreeIs w0 (w.setCell ⟨go, i, none⟩ (.slice A l.length c)) g go gl (ls.set i l) lost := by
  obtain ⟨hs, hb, hh⟩ := h.own
  have hg := h.ge
  refine ⟨?_, ⟨hs.set i (.slice A l.length c), blk_put hb i _ (List.setIfInBounds_toArray _ _ _), ?_, ?_⟩, blk_far h.lost (p := ⟨go, i, none⟩) (by show gl ≠ go; omega) _, h.ge, h.low.setCell (by show w0.heap.size ≤ go; omega) _⟩
  · rw [List.length_set]
    exact blk_far h.tree (p := ⟨go, i, none⟩) (by show g ≠ go; omega) _
  · rw [List.length_set, List.length_set]
    exact hh.1
  · intro j m hj
    rw [List.getElem?_set] at hj ⊢
    by_cases e : i = j
    · subst e
      rw [if_pos rfl, if_pos hi] at hj
      obtain rfl := Option.some.inj hj
      rw [if_pos rfl, if_pos (by rw [hh.1]; exact hi)]
      exact ⟨A, c, rfl, hc, hC⟩
    · rw [if_neg e] at hj ⊢
      exact hh.2 j m hj
theorem ButTwo.setNew {w w' : World} {g1 g2 : Nat} (h : ButTwo w w' g1 g2) {b : Nat} (hb : w.heap.size ≤ b) (i : Nat) (u : Value) : ButTwo w (w'.setCell ⟨b, i, none⟩ u) g1 g2 := by
  refine ⟨h.1, h.2.1, h.2.2.1, ?_, fun k h1 h2 hk => ?_⟩
  · rw [World.size_setCell]; exact h.2.2.2.1
  · exact (Below.heap_setCell _ ⟨b, i, none⟩ _ k (by show k ≠ b; omega)).trans (h.2.2.2.2 k h1 h2 hk)

/-! ### loser_grown: function 15 -/
theorem made_one (z : Value) (hz : z.cells = #[z]) (n : Nat) : madeCells z.cells (n * 1) = Array.replicate n z := by
  unfold madeCells
  rw [hz, Nat.mul_one]
  apply Array.ext
  · simp
  · intro i h1 h2
    simp [Nat.mod_one]
theorem make22 (n : Nat) (hn : n ≤ 100000) (W : World) : (Instr.makeSlice 22 (.int .i64 (n : Int)) (.int .i64 (n : Int))).run Try.prog W = .ok (.slice (some ⟨W.heap.size, 0, none⟩) n n) (W.alloc (.cells (Array.replicate n (Value.slice none 0 0)) 25 (0, 0))) := by
  obtain ⟨i, hi, hz, hs, hb⟩ := info_parts info25
  have := run_make (P := Try.prog) W 22 25 i _ Try.underlying22 hi hz .i64 .i64 n n (by omega) (Int.le_refl _) (by rw [hb]; omega) (by omega)
  rw [Int.toNat_natCast, hs, made_one _ rfl] at this
  exact this
theorem make50 (n : Nat) (hn : n ≤ 100000) (W : World) : (Instr.makeSlice 50 (.int .i64 (n : Int)) (.int .i64 (n : Int))).run Try.prog W = .ok (.slice (some ⟨W.heap.size, 0, none⟩) n n) (W.alloc (.cells (Array.replicate n (Value.int .i64 0)) 3 (0, 0))) := by
  obtain ⟨i, hi, hz, hs, hb⟩ := info_parts info3
  have := run_make (P := Try.prog) W 50 3 i _ Try.underlying50 hi hz .i64 .i64 n n (by omega) (Int.le_refl _) (by rw [hb]; omega) (by omega)
  rw [Int.toNat_natCast, hs, made_one _ rfl] at this
  exact this
theorem heads_of {w : World} {ad : Addr} {l : List (List S37)} (h : Kd.C (Kd.slice 37 k37) w (some ad) l.length l) : ∃ hs, Heads w hs l ∧ (∀ j v, hs[j]? = some v → w.cell? (ad.add j) = some v) ∧ ∀ v ∈ hs, v.oneCell' = true := by
  refine ⟨(List.range l.length).map (fun j => (w.cell? (ad.add j)).getD undef), ⟨by simp, fun i m hi => ?_⟩, fun j v hj => ?_, fun v hv => ?_⟩
  · have hlt : i < l.length := (List.getElem?_eq_some_iff.1 hi).1
    obtain ⟨ad', A, c, e, h1, h2, h3⟩ := at_L3 h i (by omega) (by omega)
    obtain rfl : ad = ad' := Option.some.inj e
    have em : rd_L3 l i = m := by
      unfold rd_L3
      rw [Int.toNat_natCast, List.getD_eq_getElem?_getD, hi]
      rfl
    rw [em] at h1 h2 h3
    rw [Int.toNat_natCast] at h1
    refine ⟨A, c, ?_, h2, h3⟩
    rw [List.getElem?_map, List.getElem?_range hlt, Option.map_some, h1]
    rfl
  · have hlt : j < l.length := by
      have := (List.getElem?_eq_some_iff.1 hj).1
      simpa using this
    obtain ⟨ad', A, c, e, h1, h2, h3⟩ := at_L3 h j (by omega) (by omega)
    obtain rfl : ad = ad' := Option.some.inj e
    rw [Int.toNat_natCast] at h1
    rw [List.getElem?_map, List.getElem?_range hlt, Option.map_some, h1] at hj
    rw [h1, ← Option.some.inj hj]
    rfl
  · obtain ⟨j, hj, rfl⟩ := List.mem_map.1 hv
    have hlt : j < l.length := List.mem_range.1 hj
    obtain ⟨ad', A, c, e, h1, h2, h3⟩ := at_L3 h j (by omega) (by omega)
    obtain rfl : ad = ad' := Option.some.inj e
    rw [Int.toNat_natCast] at h1
    rw [h1]
    rfl
theorem copy22 (w : World) (ad : Addr) (l : List (List S37)) (c0 : Nat) (ty : TypeId) (hs : List Value) (hr : Kd.C (Kd.slice 37 k37) w (some ad) l.length l) (hH : Heads w hs l) (hcell : ∀ j v, hs[j]? = some v → w.cell? (ad.add j) = some v) (h1 : ∀ v ∈ hs, v.oneCell' = true) :
    (Builtin.copy_ #[22, 22] ty #[.slice (some ⟨w.heap.size, 0, none⟩) l.length l.length, .slice (some ad) l.length c0]).run Try.prog (w.alloc (.cells (Array.replicate l.length (Value.slice none 0 0)) 25 (0, 0))) = .ok (.int .i64 (l.length : Int)) (w.alloc (.cells hs.toArray 25 (0, 0))) := by
  obtain ⟨i, hi, hz, hsz, hb⟩ := info_parts info25
  have := run_copy_row (P := Try.prog) (w.alloc (.cells (Array.replicate l.length (Value.slice none 0 0)) 25 (0, 0))) 22 22 ty 25 w.heap.size 0 l.length l.length ad l.length c0 (Array.replicate l.length (Value.slice none 0 0)) 25 hs Try.underlying22 (by rw [hi]; exact congrArg some hsz) (heap_alloc_new w _) (by rw [hH.1]; exact (Nat.min_self _).symm) (fun j v hj => (Below.alloc (Below.refl w.heap.size w) (Nat.le_refl _) _).cell (World.block_lt_of_cell? w _ (hcell j v hj)) |>.trans (hcell j v hj)) (by simp [hH.1]) h1
  rw [this, World.setRow_alloc_new, hH.1]
  congr 2
  simp [hH.1, goInt]
def growL (ls : List (List S37)) : Nat → List Nat → List Nat → List Nat × List Nat
  | 0, win, lost => (win, lost)
  | k + 1, win, lost => if aheadB ls (lst win (2 * (k + 1) + 1)) (lst win (2 * (k + 1))) = true then growL ls k (win.set (k + 1) (lst win (2 * (k + 1) + 1))) (lost.set (k + 1) (lst win (2 * (k + 1)))) else growL ls k (win.set (k + 1) (lst win (2 * (k + 1)))) (lost.set (k + 1) (lst win (2 * (k + 1) + 1)))
def winI (n i : Nat) : List Nat := List.replicate n 0 ++ (List.range i ++ List.replicate (n - i) 0)
def growG (ls : List (List S37)) : List Nat := let r := growL ls (ls.length - 1) (winI ls.length ls.length) (List.replicate ls.length 0); r.2.set 0 (lst r.1 1)
theorem winI_len (n i : Nat) (h : i ≤ n) : (winI n i).length = 2 * n := by
  unfold winI
  rw [List.length_append, List.length_append, List.length_replicate, List.length_range, List.length_replicate]
  omega
theorem winI_zero (n : Nat) : winI n 0 = List.replicate (2 * n) 0 := by
  unfold winI
  rw [List.range_zero, List.nil_append, Nat.sub_zero, List.replicate_append_replicate, Nat.two_mul]
theorem winI_set (n i : Nat) (h : i < n) : (winI n i).set (n + i) i = winI n (i + 1) := by
  unfold winI
  rw [List.set_append_right _ _ (by rw [List.length_replicate]; omega), List.length_replicate, Nat.add_sub_cancel_left, List.set_append_right _ _ (by rw [List.length_range]; exact Nat.le_refl _), List.length_range, Nat.sub_self, show n - i = (n - (i + 1)) + 1 by omega, List.replicate_succ, List.set_cons_zero, List.range_succ, List.append_assoc]
  rfl
theorem winI_lt (n : Nat) (h : 1 ≤ n) : ∀ x ∈ winI n n, x < n := by
  intro x hx
  unfold winI at hx
  rcases List.mem_append.1 hx with hx | hx
  · rw [(List.mem_replicate.1 hx).2]; exact h
  · rcases List.mem_append.1 hx with hx | hx
    · exact List.mem_range.1 hx
    · rw [Nat.sub_self] at hx; simp at hx
theorem set_lt {n : Nat} {l : List Nat} (h : ∀ x ∈ l, x < n) {i v : Nat} (hv : v < n) : ∀ x ∈ l.set i v, x < n := fun x hx => by
  rcases List.mem_or_eq_of_mem_set hx with h' | h'
  · exact h x h'
  · rw [h']; exact hv
theorem ints_zero (n : Nat) : (Array.replicate n (Value.int .i64 0)) = (ints (List.replicate n 0)).toArray := by
  unfold ints
  rw [List.map_replicate, List.toArray_replicate]
  rfl
theorem grown_start (w : World) (l : List (List S37)) (hs : List Value) (hH : Heads w hs l) (W : World) (go gl g gw : Nat) (h1 : go = w.heap.size) (h2 : gl = w.heap.size + 1) (h3 : g = w.heap.size + 1 + 1) (h4 : gw = w.heap.size + 1 + 1 + 1)
    (hW : W = (((w.alloc (.cells hs.toArray 25)).alloc (.cells (Array.replicate l.length (Value.int .i64 0)) 3)).alloc (.cells #[.slice (some ⟨go, 0, none⟩) l.length l.length, .slice (some ⟨gl, 0, none⟩) l.length l.length] 52)).alloc (.cells (Array.replicate (2 * l.length) (Value.int .i64 0)) 3)) :
    TreeIs w W g go gl l (List.replicate l.length 0) ∧ W.heap[gw]? = some (.cells (ints (winI l.length 0)).toArray 3 (0, 0)) := by
  have b1 := blk_new w (.cells hs.toArray 25)
  have b2 := blk_new (w.alloc (.cells hs.toArray 25)) (.cells (Array.replicate l.length (Value.int .i64 0)) 3)
  have b3 := blk_new ((w.alloc (.cells hs.toArray 25)).alloc (.cells (Array.replicate l.length (Value.int .i64 0)) 3)) (.cells #[.slice (some ⟨go, 0, none⟩) l.length l.length, .slice (some ⟨gl, 0, none⟩) l.length l.length] 52)
  have b4 := blk_new (((w.alloc (.cells hs.toArray 25)).alloc (.cells (Array.replicate l.length (Value.int .i64 0)) 3)).alloc (.cells #[.slice (some ⟨go, 0, none⟩) l.length l.length, .slice (some ⟨gl, 0, none⟩) l.length l.length] 52)) (.cells (Array.replicate (2 * l.length) (Value.int .i64 0)) 3)
  have c1 := blk_alloc (blk_alloc (blk_alloc b1 (.cells (Array.replicate l.length (Value.int .i64 0)) 3)) (.cells #[.slice (some ⟨go, 0, none⟩) l.length l.length, .slice (some ⟨gl, 0, none⟩) l.length l.length] 52)) (.cells (Array.replicate (2 * l.length) (Value.int .i64 0)) 3)
  have c2 := blk_alloc (blk_alloc b2 (.cells #[.slice (some ⟨go, 0, none⟩) l.length l.length, .slice (some ⟨gl, 0, none⟩) l.length l.length] 52)) (.cells (Array.replicate (2 * l.length) (Value.int .i64 0)) 3)
  have c3 := blk_alloc b3 (.cells (Array.replicate (2 * l.length) (Value.int .i64 0)) 3)
  have hb : Below w.heap.size w W := by
    rw [hW]
    exact below_alloc (below_alloc (below_alloc (below_alloc (Below.refl _ _) _) _) _) _
  rw [← hW] at c1 c2 c3 b4
  simp only [World.size_alloc] at c2 c3 b4
  rw [← h1] at c1
  rw [← h2] at c2
  rw [← h3] at c3
  rw [← h4] at b4
  refine ⟨⟨?_, ⟨hs, c1, hH⟩, ?_, by omega, hb⟩, ?_⟩
  · rw [List.length_replicate]; exact c3
  · rw [← ints_zero]; exact c2
  · rw [winI_zero, ← ints_zero]; exact b4
set_option maxHeartbeats 8000000 in
set_option maxRecDepth 100000 in
theorem loser_grown.calls (ad : Addr) (c0 : Nat) (l : List (List S37)) (w : World) (hr : Kd.C (Kd.slice 37 k37) w (some ad) l.length l) (h1 : 1 ≤ l.length) (hn : l.length ≤ 1000) :
    Calls Try.prog 15 #[.slice (some ad) l.length c0] w fun e w' => ∃ g go gl, e = .returned (.pointer (some ⟨g, 0, none⟩)) ∧ TreeIs w w' g go gl l (growG l) := by
  obtain ⟨hs, hH, hcell, hone⟩ := heads_of hr
  have hmk1 := make22 l.length (by omega)
  have hmk2 := make50 l.length (by omega)
  have hmk3 := make50 (2 * l.length) (by omega)
  rw [show ((2 * l.length : Nat) : Int) = 2 * (l.length : Int) by omega] at hmk3
  have hcp := fun ty => copy22 w ad l c0 ty hs hr hH hcell hone
  have hw2 : wrap64 (2 * (l.length : Int)) = 2 * (l.length : Int) := by unfold wrap64; omega
  have H1 := Aside0.mk h1
  have HN := Aside0.mk hn
  have HH := Aside0.mk hH
  clear hr hH hcell hone h1 hn
  go_enter Try.func15, Try.ntmps15
  go_upto_region 6 with (fail)
  obtain ⟨go, hgo⟩ : ∃ x, x = w.heap.size := ⟨_, rfl⟩
  obtain ⟨gl, hgl⟩ : ∃ x, x = w.heap.size + 1 := ⟨_, rfl⟩
  obtain ⟨g, hg⟩ : ∃ x, x = w.heap.size + 1 + 1 := ⟨_, rfl⟩
  obtain ⟨gw, hgw⟩ : ∃ x, x = w.heap.size + 1 + 1 + 1 := ⟨_, rfl⟩
  rw [← hgw, ← hg, ← hgl, ← hgo]
  have gs := fun W h => grown_start w l hs HH.out W go gl g gw hgo hgl hg hgw h
  generalize (((w.alloc (.cells hs.toArray 25)).alloc (.cells (Array.replicate l.length (Value.int .i64 0)) 3)).alloc (.cells #[.slice (some ⟨go, 0, none⟩) l.length l.length, .slice (some ⟨gl, 0, none⟩) l.length l.length] 52)).alloc (.cells (Array.replicate (2 * l.length) (Value.int .i64 0)) 3) = W at gs ⊢
  obtain ⟨hT, hB⟩ := gs W rfl
  have hne : gw ≠ go ∧ gw ≠ gl ∧ gw ≠ g := by omega
  have HT := Aside0.mk hT
  have HB := Aside0.mk hB
  have HNE := Aside0.mk hne
  have hge : w.heap.size ≤ gw := by omega
  have HGE := Aside0.mk hge
  clear gs hT hB hne hge hgo hgl hg hgw hcp hmk1 hmk2 hmk3 hw2
  obtain ⟨m2, hm2⟩ : ∃ m, m = 2 * l.length := ⟨_, rfl⟩
  rw [← hm2]
  have HM := Aside0.mk hm2
  clear hm2
  go_wp2
  go_loopg [27] l.length (fun kq v27 w' => ∃ i : Nat, v27 = .int .i64 i ∧ Aside0 (i + kq = l.length) ∧ Aside0 (TreeIs w w' g go gl l (List.replicate l.length 0)) ∧ Aside0 (w'.heap[gw]? = some (.cells (ints (winI l.length i)).toArray 3 (0, 0))))
  case atStart => exact ⟨0, rfl, ⟨by omega⟩, HT, HB⟩
  case round =>
    obtain ⟨i, rfl, HI, HT', HB'⟩ := hrel
    clear HT HB
    cases gk with
    | zero =>
      have hin : i = l.length := by have := HI.out; omega
      subst hin
      have hn1 : wrap64 ((l.length : Int) - 1) = ((l.length - 1 : Nat) : Int) := by have := H1.out; have := HN.out; unfold wrap64; omega
      have HN1 := Aside0.mk hn1
      clear hn1
      go_wp2
      go_loopg [8] (l.length - 1) (fun kq v8 w' => ∃ (win lost : List Nat), v8 = .int .i64 kq ∧ Aside0 (kq < l.length ∧ win.length = m2 ∧ lost.length = l.length) ∧ Aside0 (growL l kq win lost = growL l (l.length - 1) (winI l.length l.length) (List.replicate l.length 0)) ∧ Aside0 ((∀ x ∈ win, x < l.length) ∧ ∀ x ∈ lost, x < l.length) ∧ Aside0 (TreeIs w w' g go gl l lost) ∧ Aside0 (w'.heap[gw]? = some (.cells (ints win).toArray 3 (0, 0))))
      case atStart => exact ⟨_, _, by rw [HN1.out], ⟨by have := H1.out; omega, by rw [winI_len _ _ (Nat.le_refl _), HM.out], List.length_replicate⟩, ⟨rfl⟩, ⟨winI_lt _ H1.out, fun x hx => by rw [(List.mem_replicate.1 hx).2]; exact H1.out⟩, HT', HB'⟩
      case round =>
        clear HT' HB'
        obtain ⟨win, lost, rfl, HL, HG, HX, HT2, HB2⟩ := hrel
        have hq0 : wr.cell? ⟨g, 1, none⟩ = some (.slice (some ⟨gl, 0, none⟩) lost.length lost.length) := blk_cell HT2.out.tree 1
        cases gk with
        | zero =>
          have i0 : (1 < m2) = True := eq_true (by have := H1.out; have := HM.out; omega)
          have i0' : ((1 : Int) < (m2 : Int)) = True := eq_true (by have := H1.out; have := HM.out; omega)
          have i1 : (0 < lost.length) = True := eq_true (by have := H1.out; have := HL.out; omega)
          have hv : wr.cell? ⟨gw, 1, none⟩ = some (.int .i64 (lst win 1 : Nat)) := (blk_cell HB2.out 1).trans (ints_get _ 1 (by have := H1.out; have := HM.out; have := HL.out; omega))
          have hz : wr.cell? ⟨gl, 0, none⟩ = some (.int .i64 (lst lost 0 : Nat)) := HT2.out.lose 0 (by have := H1.out; have := HL.out; omega)
          have hf : wr.frozen? ⟨gl, 0, none⟩ = false := blk_frozen HT2.out.lost 0
          have m1 : ((l.length : Int) < 1) = False := eq_false (by have := H1.out; omega)
          have m2' : (l.length < 1) = False := eq_false (by have := H1.out; omega)
          have m3 : (l.length = 0) = False := eq_false (by have := H1.out; omega)
          have m4 : (l = []) = False := eq_false (fun e => by have := H1.out; rw [e] at this; simp at this)
          go_wp2
          go_region
          go_wp2
          go_ret
          refine ⟨g, go, gl, rfl, ?_⟩
          have h5 := HT2.out.setLost 0 (lst win 1)
          have e : growG l = lost.set 0 (lst win 1) := by
            have := HG.out
            rw [growL] at this
            unfold growG
            rw [← this]
          rw [e]
          exact h5.move rfl rfl rfl (below_drew1 h5.low)
        | succ k1 =>
          have i0 : (0 < k1 + 1) = True := eq_true (by omega)
          obtain ⟨k, hk⟩ : ∃ k, k = k1 + 1 := ⟨_, rfl⟩
          rw [← hk] at HL HG ⊢
          obtain ⟨p, hp⟩ : ∃ p, p = 2 * k := ⟨_, rfl⟩
          obtain ⟨q, hq⟩ : ∃ q, q = 2 * k + 1 := ⟨_, rfl⟩
          have hw1 : wrap64 (2 * (k : Int)) = (p : Int) := by have := HL.out; have := HN.out; unfold wrap64; omega
          have hw2 : wrap64 ((p : Int) + 1) = (q : Int) := by have := HL.out; have := HN.out; unfold wrap64; omega
          have hw3 : wrap64 ((k : Int) - 1) = (k1 : Int) := by have := HL.out; have := HN.out; unfold wrap64; omega
          have i1 : (0 < k) = True := eq_true (by omega)
          have i2 : (p < m2) = True := eq_true (by have := HL.out; have := HM.out; omega)
          have i3 : (q < m2) = True := eq_true (by have := HL.out; have := HM.out; omega)
          have i4 : (k < lost.length) = True := eq_true (by have := HL.out; omega)
          have i5 : (k < m2) = True := eq_true (by have := HL.out; have := HM.out; omega)
          have hva : wr.cell? ⟨gw, p, none⟩ = some (.int .i64 (lst win p : Nat)) := (blk_cell HB2.out p).trans (ints_get _ p (by have := HM.out; have := HL.out; omega))
          have hvb : wr.cell? ⟨gw, q, none⟩ = some (.int .i64 (lst win q : Nat)) := (blk_cell HB2.out q).trans (ints_get _ q (by have := HM.out; have := HL.out; omega))
          have HPQ := Aside0.mk (show p = 2 * k ∧ q = 2 * k + 1 ∧ k = k1 + 1 from ⟨hp, hq, hk⟩)
          have hap : lst win p < l.length := by
            have := HL.out
            have := HM.out
            unfold lst
            rw [List.getD_eq_getElem?_getD, List.getElem?_eq_getElem (by omega)]
            exact HX.out.1 _ (List.getElem_mem (by omega))
          have haq : lst win q < l.length := by
            have := HL.out
            have := HM.out
            unfold lst
            rw [List.getD_eq_getElem?_getD, List.getElem?_eq_getElem (by omega)]
            exact HX.out.1 _ (List.getElem_mem (by omega))
          have HA := Aside0.mk hap
          have HQ := Aside0.mk haq
          clear hap haq hp hq hk
          go_wp2
          go_region
          have HTD := Aside0.mk (show TreeIs w wr.drew g go gl l lost from HT2.out.move rfl rfl rfl (below_drew1 HT2.out.low))
          have HW3 := Aside0.mk hw3
          clear hva hvb hq0
          cases c2 : aheadB l (lst win q) (lst win p) with
          | true =>
            go_wp2_with fail
            refine (loser_tree_ahead.calls w wr.drew g go gl l lost (lst win q) (lst win p) HTD.out HQ.out HA.out).mono ?_
            rintro e W5 ⟨rfl, ⟨nd, hnd⟩⟩
            have ht5 : TreeIs w W5 g go gl l lost := by (rw [hnd]; exact HTD.out.drewN nd)
            have hb5 : W5.heap[gw]? = some (.cells (ints win).toArray 3 (0, 0)) := by (rw [hnd]; exact HB2.out)
            have HT5 := Aside0.mk ht5
            have HB5 := Aside0.mk hb5
            have hs0 : W5.cell? ⟨g, 1, none⟩ = some (.slice (some ⟨gl, 0, none⟩) lost.length lost.length) := blk_cell ht5.tree 1
            have hs1 : W5.frozen? ⟨gw, k, none⟩ = false := blk_frozen hb5 k
            have hs2 : W5.cell? ⟨gw, k, none⟩ = some (.int .i64 (lst win k : Nat)) := (blk_cell hb5 k).trans (ints_get _ k (by have := HM.out; have := HL.out; omega))
            have hs3 : ∀ v, (W5.setCell ⟨gw, k, none⟩ v).cell? ⟨gl, k, none⟩ = some (.int .i64 (lst lost k : Nat)) := fun v => (blk_cell (blk_far ht5.lost (p := ⟨gw, k, none⟩) (Ne.symm HNE.out.2.1) v) k).trans (ints_get _ k (by have := HL.out; omega))
            have hs4 : ∀ v, (W5.setCell ⟨gw, k, none⟩ v).frozen? ⟨gl, k, none⟩ = false := fun v => blk_frozen (blk_far ht5.lost (p := ⟨gw, k, none⟩) (Ne.symm HNE.out.2.1) v) k
            have hs5 : ∀ v, (W5.setCell ⟨gw, k, none⟩ v).cell? ⟨g, 1, none⟩ = some (.slice (some ⟨gl, 0, none⟩) lost.length lost.length) := fun v => (blk_cell (blk_far ht5.tree (p := ⟨gw, k, none⟩) (Ne.symm HNE.out.2.2) v) 1)
            clear hnd ht5 hb5
            go_wp2
            go_roundg k1
            case measure => omega
            case rel =>
              have hL := HL.out
              have hPQ := HPQ.out
              refine ⟨win.set k (lst win q), lost.set k (lst win p), by rw [HW3.out], ⟨by omega, by rw [List.length_set]; exact hL.2.1, by rw [List.length_set]; exact hL.2.2⟩, ⟨?_⟩, ⟨set_lt HX.out.1 HQ.out, set_lt HX.out.2 HA.out⟩, ⟨?_⟩, ⟨?_⟩⟩
              · rw [← HG.out, hPQ.2.2, growL, ← hPQ.2.2, ← hPQ.1, show p + 1 = q by omega, if_pos c2]
              · have h5 := HT5.out.move (w' := W5.setCell ⟨gw, k, none⟩ (.int .i64 (lst win q : Nat))) (Below.heap_setCell _ ⟨gw, k, none⟩ _ g (Ne.symm HNE.out.2.2)) (Below.heap_setCell _ ⟨gw, k, none⟩ _ go (Ne.symm HNE.out.1)) (Below.heap_setCell _ ⟨gw, k, none⟩ _ gl (Ne.symm HNE.out.2.1)) (HT5.out.low.setCell HGE.out _)
                exact h5.setLost k _
              · exact blk_far (blk_put HB5.out k _ (ints_set _ _ _)) (p := ⟨gl, k, none⟩) HNE.out.2.1 _
          | false =>
            go_wp2_with fail
            refine (loser_tree_ahead.calls w wr.drew g go gl l lost (lst win q) (lst win p) HTD.out HQ.out HA.out).mono ?_
            rintro e W5 ⟨rfl, ⟨nd, hnd⟩⟩
            have ht5 : TreeIs w W5 g go gl l lost := by (rw [hnd]; exact HTD.out.drewN nd)
            have hb5 : W5.heap[gw]? = some (.cells (ints win).toArray 3 (0, 0)) := by (rw [hnd]; exact HB2.out)
            have HT5 := Aside0.mk ht5
            have HB5 := Aside0.mk hb5
            have hs0 : W5.cell? ⟨g, 1, none⟩ = some (.slice (some ⟨gl, 0, none⟩) lost.length lost.length) := blk_cell ht5.tree 1
            have hs1 : W5.frozen? ⟨gw, k, none⟩ = false := blk_frozen hb5 k
            have hs2 : W5.cell? ⟨gw, k, none⟩ = some (.int .i64 (lst win k : Nat)) := (blk_cell hb5 k).trans (ints_get _ k (by have := HM.out; have := HL.out; omega))
            have hs3 : ∀ v, (W5.setCell ⟨gw, k, none⟩ v).cell? ⟨gl, k, none⟩ = some (.int .i64 (lst lost k : Nat)) := fun v => (blk_cell (blk_far ht5.lost (p := ⟨gw, k, none⟩) (Ne.symm HNE.out.2.1) v) k).trans (ints_get _ k (by have := HL.out; omega))
            have hs4 : ∀ v, (W5.setCell ⟨gw, k, none⟩ v).frozen? ⟨gl, k, none⟩ = false := fun v => blk_frozen (blk_far ht5.lost (p := ⟨gw, k, none⟩) (Ne.symm HNE.out.2.1) v) k
            have hs5 : ∀ v, (W5.setCell ⟨gw, k, none⟩ v).cell? ⟨g, 1, none⟩ = some (.slice (some ⟨gl, 0, none⟩) lost.length lost.length) := fun v => (blk_cell (blk_far ht5.tree (p := ⟨gw, k, none⟩) (Ne.symm HNE.out.2.2) v) 1)
            clear hnd ht5 hb5
            go_wp2
            go_roundg k1
            case measure => omega
            case rel =>
              have hL := HL.out
              have hPQ := HPQ.out
              refine ⟨win.set k (lst win p), lost.set k (lst win q), by rw [HW3.out], ⟨by omega, by rw [List.length_set]; exact hL.2.1, by rw [List.length_set]; exact hL.2.2⟩, ⟨?_⟩, ⟨set_lt HX.out.1 HA.out, set_lt HX.out.2 HQ.out⟩, ⟨?_⟩, ⟨?_⟩⟩
              · rw [← HG.out, hPQ.2.2, growL, ← hPQ.2.2, ← hPQ.1, show p + 1 = q by omega, if_neg (by rw [c2]; simp)]
              · have h5 := HT5.out.move (w' := W5.setCell ⟨gw, k, none⟩ (.int .i64 (lst win p : Nat))) (Below.heap_setCell _ ⟨gw, k, none⟩ _ g (Ne.symm HNE.out.2.2)) (Below.heap_setCell _ ⟨gw, k, none⟩ _ go (Ne.symm HNE.out.1)) (Below.heap_setCell _ ⟨gw, k, none⟩ _ gl (Ne.symm HNE.out.2.1)) (HT5.out.low.setCell HGE.out _)
                exact h5.setLost k _
              · exact blk_far (blk_put HB5.out k _ (ints_set _ _ _)) (p := ⟨gl, k, none⟩) HNE.out.2.1 _
    | succ k1 =>
      have i1 : (i < l.length) = True := eq_true (by have := HI.out; omega)
      obtain ⟨j, hj⟩ : ∃ j, j = l.length + i := ⟨_, rfl⟩
      have hw : wrap64 ((l.length : Int) + (i : Int)) = (j : Int) := by have := HI.out; have := HN.out; unfold wrap64; omega
      have i2 : (j < m2) = True := eq_true (by have := HI.out; have := HM.out; omega)
      have hf : wr.frozen? ⟨gw, j, none⟩ = false := blk_frozen HB'.out j
      have hv : wr.cell? ⟨gw, j, none⟩ = some (.int .i64 (lst (winI l.length i) j : Nat)) := (blk_cell HB'.out j).trans (ints_get _ j (by rw [winI_len _ _ (by have := HI.out; omega)]; have := HI.out; omega))
      have hw2 : wrap64 ((i : Int) + 1) = ((i + 1 : Nat) : Int) := by have := HI.out; have := HN.out; unfold wrap64; omega
      have HW2 := Aside0.mk hw2
      have HJ := Aside0.mk hj
      clear hw2 hj
      go_wp2
      go_roundg k1
      case measure => omega
      case rel =>
        have hlt := HT'.out.lt
        refine ⟨i + 1, by rw [HW2.out], ⟨by have := HI.out; omega⟩, ⟨?_⟩, ⟨?_⟩⟩
        · exact HT'.out.move (Below.heap_setCell _ ⟨gw, j, none⟩ _ g (Ne.symm HNE.out.2.2)) (Below.heap_setCell _ ⟨gw, j, none⟩ _ go (Ne.symm HNE.out.1)) (Below.heap_setCell _ ⟨gw, j, none⟩ _ gl (Ne.symm HNE.out.2.1)) (HT'.out.low.setCell HGE.out _)
        · refine blk_put HB'.out j _ ?_
          rw [ints_set, HJ.out, winI_set _ _ (by have := HI.out; omega)]

end Go.Proofs.Ytlngljddjlmkfaa.PLs
