/- Contracts of Go functions: called with what reads as these lists and numbers, a function returns what its plain Lean function says, and leaves what was there. Written by a program of this session. -/
import Derived.Test.YtnnlmackofopeaaDoorPFrx0
namespace Go.Proofs.YtnnlmackofopeaaDoor.PFr
open Go.RowKit Go.Proofs.YtnnlmackofopeaaDoorW.PrintWords Go.Proofs.YtnnlmackofopeaaDoorW.PrintLast Go.Proofs.YtnnlmackofopeaaDoorW.PrintMore
attribute [local go_sem] max2_int min2_int max_two min_two max_three min_three max_four min_four   -- for this text's walks alone
set_option linter.unusedVariables false
set_option linter.unusedSimpArgs false

/-! ### num_Put: function 46 -/
def num_Put.l0 : Nat → Int → List Int → Option (List Int)
  | 0, _, _ => none
  | k + 1, x1, x5 => if x1 ≥ 128 then (if x5.length < 140737488355328 then (num_Put.l0 k (x1 / 128) (x5 ++ [Go.bits .or .u8 ((x1) % 256) 128])) else (none)) else (if x5.length < 140737488355328 then (some (x5 ++ [(x1) % 256])) else (none))
def num_Put.f (k : Nat) (l0 : List Int) (a1 : Int) : Option (List Int) := (some (([] : List Int) : List Int)).bind fun y101 => (if y101.length + l0.length < 140737488355328 then (num_Put.l0 k a1 (y101 ++ l0)) else (none))
theorem num_Put.mono_l : ∀ k, (∀ y0 y1, LeO (num_Put.l0 k y0 y1) (num_Put.l0 (k + 1) y0 y1))
  | 0 => fun _ _ r h => by simp [num_Put.l0] at h
  | k + 1 => by
    have ih0 := num_Put.mono_l k
    · intro y0 y1
      unfold num_Put.l0
      repeat' first
      | (with_reducible exact ih0 _ _)
      | (with_reducible exact LeO.refl _)
      | (with_reducible exact LeO.none _)
      | (with_reducible refine LeO.ite ?_ ?_)
      | (with_reducible refine LeO.bind ?_ (fun _ => ?_))
      | exact ih0 _ _
      | exact LeO.none _
      | refine LeO.ite ?_ ?_
      | refine LeO.bind ?_ (fun _ => ?_)
theorem num_Put.mono : ∀ a0 a1 k, LeO (num_Put.f k a0 a1) (num_Put.f (k + 1) a0 a1) := by
  intro a0 a1 k
  have ih0 := num_Put.mono_l k
  unfold num_Put.f
  repeat' first
      | (with_reducible exact ih0 _ _)
      | (with_reducible exact LeO.refl _)
      | (with_reducible exact LeO.none _)
      | (with_reducible refine LeO.ite ?_ ?_)
      | (with_reducible refine LeO.bind ?_ (fun _ => ?_))
      | exact ih0 _ _
      | exact LeO.none _
      | refine LeO.ite ?_ ?_
      | refine LeO.bind ?_ (fun _ => ?_)
set_option maxHeartbeats 8000000 in
set_option maxRecDepth 100000 in
theorem num_Put.calls (k : Nat) (A0 : Option Addr) (c0 : Nat) (l0 : List Int) (a1 : Int) (r : List Int) (w : World) (hr0 : Kd.C (Kd.int .u8) w A0 l0.length l0) (hc0 : l0.length ≤ c0) (h : num_Put.f k l0 a1 = some r) :
    Calls Tryd.prog 46 #[.slice A0 l0.length c0, .int .u64 a1] w fun e w' => ∃ v0_ : Value, e = .returned (v0_) ∧ Kd.R (Kd.int .u8) 5 w' w.heap.size (fun _ => True) v0_ r ∧ Below w.heap.size w w' := by
  have HR0 := Aside0.mk hr0
  have HC0 := Aside0.mk hc0
  clear hr0 hc0
  have HB := Aside0.mk (Below.refl w.heap.size w)
  have H : ((some (([] : List Int) : List Int)).bind fun y101 => (if y101.length + l0.length < 140737488355328 then (num_Put.l0 k a1 (y101 ++ l0)) else (none))) = some r := h
  clear h
  obtain ⟨y101, hy101⟩ : ∃ y_ : List Int, y_ = (([] : List Int)) := ⟨_, rfl⟩
  replace H : (if y101.length + l0.length < 140737488355328 then (num_Put.l0 k a1 (y101 ++ l0)) else (none)) = some r := by first | (rw [hy101]; with_reducible exact H) | (have H2_ := (Option.bind_some _ _).symm.trans H; rw [hy101]; with_reducible exact H2_) | (have H2_ := (Option.bind_some _ _).symm.trans H; with_reducible exact H2_) | with_reducible exact H | (rw [hy101]; exact H) | exact H
  have Ny101 := Aside0.mk hy101
  clear hy101
  by_cases c3 : y101.length + l0.length < 140737488355328
  · rw [if_pos c3] at H
    have LMc3 := Aside0.mk c3
    clear c3
    obtain ⟨y104, hy104⟩ : ∃ y_ : List Int, y_ = (y101 ++ l0) := ⟨_, rfl⟩
    replace H : (num_Put.l0 k a1 y104) = some r := by first | (rw [hy104]; with_reducible exact H) | (have H2_ := (Option.bind_some _ _).symm.trans H; rw [hy104]; with_reducible exact H2_) | (have H2_ := (Option.bind_some _ _).symm.trans H; with_reducible exact H2_) | with_reducible exact H | (rw [hy104]; exact H) | exact H
    have Ny104 := Aside0.mk hy104
    clear hy104
    have H' := Aside0.mk H
    clear H
    go_enter Tryd.func46, Tryd.ntmps46
    go_wp2_with (first | ((with_reducible refine gate_dst (N := 6) rfl ?_); refine Kd.R_lit (Kd.int .u8) _ 5 ?hg (N := 6) ?hd (xs := ([] : List Int)) (inner := []) (ok := fun _ => True) (okp := fun _ => True) ?hr ?hp (fun _ hk => hk) trivial (Below.refl _ _) (Nat.le_refl _) (by simp) ?_; (case hd => rfl); (case hg => rfl); (case hr => first | (go_simp; done) | (go_simp; rfl)); (case hp => exact (Reps.none _ _)); intro v102 w4 ho5 hb hg_ hnew_; clear hg_ hnew_; (first | rw [← Ny101.out] at ho5 | (simp only [Int.reduceToNat] at ho5; rw [← Ny101.out] at ho5)); have n0_ := Aside0.mk (Kd.R_lower ho5 (below_size (by repeat (first | (with_reducible first | exact HB.out | apply below_alloc | apply pw_below_drewN | apply below_drew1) | exact HB.out)))); have n1_ := Aside0.mk (below_step (by repeat (first | (with_reducible first | exact HB.out | apply below_alloc | apply pw_below_drewN | apply below_drew1) | exact HB.out)) hb); clear HB; have HO103 := n0_; have HB := n1_; clear n0_ n1_; clear hb ho5) | ((with_reducible refine gate_builtin (b := .append) (xs := #[.tmp 6, .tmp 7]) rfl ?_); at_builtin; refine Kd.R_append_rows (Kd.int .u8) (w0 := w) w.heap.size rfl (.tmp 6) (.tmp 7) 22 5 (.int .u8 0) 1 rfl Tryd.underlying22 info5 rfl (by decide) (by omega) v102 y101 l0 _ _ _ (fun _ => True) (fun _ => False) rfl rfl ?aO ?aR (fun _ _ h => h) (fun _ h => h.elim) ?aF ?aB ?aS ?aL ?_; (case aR => repeat (first | exact (Kd.C_below HR0.out HB.out) | (with_reducible refine Kd.C_alloc ?_ _) | (with_reducible refine Kd.C_drewN ?_ _) | (with_reducible refine Kd.C_drew ?_))); (case aB => exact (by repeat (first | (with_reducible first | exact HB.out | apply below_alloc | apply pw_below_drewN | apply below_drew1) | exact HB.out))); (case aF => exact (fun _ _ => trivial)); (case aO => exact (by (with_reducible repeat (first | apply Kd.R_alloc | apply Kd.R_drewN | apply Kd.R_drew)); exact HO103.out)); (case aS => exact (below_size (by repeat (first | (with_reducible first | exact HB.out | apply below_alloc | apply pw_below_drewN | apply below_drew1) | exact HB.out)))); (case aL => have := LMc3.out; omega); intro v105 w6 ho hb hg hat; rw [← Ny104.out] at ho; have n0_ := Aside0.mk (hb); have n1_ := Aside0.mk (ho); clear HB; clear HO103; have HB := n0_; have HO106 := n1_; clear n0_ n1_; clear ho hb hg hat))
    go_loopg [1, 5] k (fun kq v1 v5 w' => ∃ (x1_1 : Int) (x5_1 : List Int), v1 = .int .u64 x1_1 ∧ Aside0 (num_Put.l0 kq x1_1 x5_1 = some r) ∧ Aside0 (kq ≤ k) ∧ Aside0 (Kd.R (Kd.int .u8) 5 w' w.heap.size (fun _ => True) v5 x5_1) ∧ Aside0 (Below w.heap.size w w'))
    case atStart => exact ⟨(a1), (y104), (by first | rfl | (simp; done) | (simp [*]; done)), H', ⟨Nat.le_refl _⟩, ⟨by (with_reducible repeat (first | apply Kd.R_alloc | apply Kd.R_drewN | apply Kd.R_drew)); exact HO106.out⟩, ⟨by repeat (first | (with_reducible first | exact HB.out | apply below_alloc | apply pw_below_drewN | apply below_drew1) | exact HB.out)⟩⟩
    case round =>
      clear H'
      try clear p2
      try clear c3
      try clear c4
      obtain ⟨x1_1, x5_1, rfl, HA, HK1, HO_5, HB⟩ := hrel
      cases gk with
      | zero => exact absurd HA.out (by simp [num_Put.l0])
      | succ k1 =>
        have H := HA.out
        clear HA
        simp only [num_Put.l0] at H
        by_cases c7 : x1_1 ≥ 128
        · rw [if_pos c7] at H
          have c7b0 : decide (128 ≤ x1_1) = true := decide_eq_true c7
          clear c7
          by_cases c8 : x5_1.length < 140737488355328
          · rw [if_pos c8] at H
            have LMc8 := Aside0.mk c8
            clear c8
            obtain ⟨y107, hy107⟩ : ∃ y_ : List Int, y_ = (x5_1 ++ [Go.bits .or .u8 ((x1_1) % 256) 128]) := ⟨_, rfl⟩
            replace H : (num_Put.l0 k1 (x1_1 / 128) y107) = some r := by first | (rw [hy107]; with_reducible exact H) | (have H2_ := (Option.bind_some _ _).symm.trans H; rw [hy107]; with_reducible exact H2_) | (have H2_ := (Option.bind_some _ _).symm.trans H; with_reducible exact H2_) | with_reducible exact H | (rw [hy107]; exact H) | exact H
            have Ny107 := Aside0.mk hy107
            clear hy107
            have H' := Aside0.mk H
            clear H
            go_wp2_with (first | ((with_reducible refine gate_builtin (b := .append) (xs := #[.tmp 11, .tmp 15]) rfl ?_); at_builtin; refine Kd.R_append (Kd.int .u8) (w0 := w) w.heap.size rfl (.tmp 11) (.tmp 15) 22 5 (.int .u8 0) 1 rfl Tryd.underlying22 info5 rfl (by decide) (by omega) u5 x5_1 (Go.bits .or .u8 ((x1_1) % 256) 128) [.int .u8 (Go.bits .or .u8 ((x1_1) % 256) 128)] (fun _ => True) (fun _ => False) rfl rfl ?aP (fun _ hk => hk.elim) ?aF ?aO ?aB ?aS ?aL ?_; (case aP => exact rfl); (case aB => exact (by repeat (first | (with_reducible first | exact HB.out | apply below_alloc | apply pw_below_drewN | apply below_drew1) | exact HB.out))); (case aF => exact (fun _ _ => trivial)); (case aO => exact (by (with_reducible repeat (first | apply Kd.R_alloc | apply Kd.R_drewN | apply Kd.R_drew)); exact HO_5.out)); (case aS => exact (below_size (by repeat (first | (with_reducible first | exact HB.out | apply below_alloc | apply pw_below_drewN | apply below_drew1) | exact HB.out)))); (case aL => have := LMc8.out; omega); intro v108 w9 ho hb hg hat; rw [← Ny107.out] at ho; have n0_ := Aside0.mk (hb); have n1_ := Aside0.mk (ho); clear HB; clear HO_5; have HB := n0_; have HO109 := n1_; clear n0_ n1_; clear ho hb hg hat))
            go_roundg k1
            case measure => have := HK1.out; omega
            case rel => exact ⟨(x1_1 / 128), (y107), (by first | rfl | (simp; done) | (simp [*]; done)), H', ⟨by have := HK1.out; omega⟩, ⟨by (with_reducible repeat (first | apply Kd.R_alloc | apply Kd.R_drewN | apply Kd.R_drew)); exact HO109.out⟩, ⟨by repeat (first | (with_reducible first | exact HB.out | apply below_alloc | apply pw_below_drewN | apply below_drew1) | exact HB.out)⟩⟩
          · rw [if_neg c8] at H
            exact absurd H (by simp)
        · rw [if_neg c7] at H
          have c7b0 : decide (128 ≤ x1_1) = false := decide_eq_false c7
          clear c7
          by_cases c10 : x5_1.length < 140737488355328
          · rw [if_pos c10] at H
            have LMc10 := Aside0.mk c10
            clear c10
            obtain ⟨y110, hy110⟩ : ∃ y_ : List Int, y_ = (x5_1 ++ [(x1_1) % 256]) := ⟨_, rfl⟩
            replace H : (some y110) = some r := by first | (rw [hy110]; with_reducible exact H) | (have H2_ := (Option.bind_some _ _).symm.trans H; rw [hy110]; with_reducible exact H2_) | (have H2_ := (Option.bind_some _ _).symm.trans H; with_reducible exact H2_) | with_reducible exact H | (rw [hy110]; exact H) | exact H
            have Ny110 := Aside0.mk hy110
            clear hy110
            obtain rfl := Option.some.inj H
            go_wp2_with (first | ((with_reducible refine gate_builtin (b := .append) (xs := #[.tmp 19, .tmp 22]) rfl ?_); at_builtin; refine Kd.R_append (Kd.int .u8) (w0 := w) w.heap.size rfl (.tmp 19) (.tmp 22) 22 5 (.int .u8 0) 1 rfl Tryd.underlying22 info5 rfl (by decide) (by omega) u5 x5_1 ((x1_1) % 256) [.int .u8 ((x1_1) % 256)] (fun _ => True) (fun _ => False) rfl rfl ?aP (fun _ hk => hk.elim) ?aF ?aO ?aB ?aS ?aL ?_; (case aP => exact rfl); (case aB => exact (by repeat (first | (with_reducible first | exact HB.out | apply below_alloc | apply pw_below_drewN | apply below_drew1) | exact HB.out))); (case aF => exact (fun _ _ => trivial)); (case aO => exact (by (with_reducible repeat (first | apply Kd.R_alloc | apply Kd.R_drewN | apply Kd.R_drew)); exact HO_5.out)); (case aS => exact (below_size (by repeat (first | (with_reducible first | exact HB.out | apply below_alloc | apply pw_below_drewN | apply below_drew1) | exact HB.out)))); (case aL => have := LMc10.out; omega); intro v111 w11 ho hb hg hat; rw [← Ny110.out] at ho; have n0_ := Aside0.mk (hb); have n1_ := Aside0.mk (ho); clear HB; clear HO_5; have HB := n0_; have HO112 := n1_; clear n0_ n1_; clear ho hb hg hat))
            go_ret
            exact ⟨_, by first | rfl | (simp [errW_none, errW_some] <;> rfl) | (simp [*, errW_none, errW_some] <;> rfl), by (with_reducible repeat (first | apply Kd.R_alloc | apply Kd.R_drewN | apply Kd.R_drew)); exact HO112.out, by repeat (first | (with_reducible first | exact HB.out | apply below_alloc | apply pw_below_drewN | apply below_drew1) | exact HB.out)⟩
          · rw [if_neg c10] at H
            exact absurd H (by simp)
  · rw [if_neg c3] at H
    exact absurd H (by simp)

-- NOT PRINTED: function 99 (crc_table)

/-! ### crc_More: function 79 -/
/-- One step of a byte. -/
def crc_More.s1 (c : Int) : Int := if Go.bits .and .u32 c 1 = 1 then Go.bits .xor .u32 (c / 2) 3988292384 else c / 2
def crc_More.it : Nat → Int → Int
  | 0, c => c
  | k + 1, c => crc_More.s1 (crc_More.it k c)
def crc_More.cells (l : List Int) : Array Value := (l.map (Value.int .u32)).toArray
def crc_More.zeros : Array Value := crc_More.cells (List.replicate 256 0)
/-- The table, when i of its places are filled. -/
def crc_More.tab (i : Nat) : List Int := (List.range i).map (fun (j : Nat) => crc_More.it 8 (j : Int)) ++ List.replicate (256 - i) 0
theorem crc_More.zero (w : World) : (zeroValue 141).run Tryd.prog w = .ok (.agg crc_More.zeros) w := by kernel_rfl
theorem crc_More.size : (Tryd.prog.info? 141).map (·.size) = some 256 := by kernel_rfl

theorem crc_More.cells_size (l : List Int) : (crc_More.cells l).size = l.length := by simp [crc_More.cells]
theorem crc_More.tab_len (i : Nat) (h : i ≤ 256) : (crc_More.tab i).length = 256 := by simp [crc_More.tab]; omega
theorem crc_More.tab_zero : crc_More.cells (crc_More.tab 0) = crc_More.zeros := rfl
theorem crc_More.one_all (l : List Int) : (crc_More.cells l).all (·.oneCell') = true := by
  rw [Array.all_eq_true_iff_forall_mem]
  intro v hv
  simp only [crc_More.cells, List.mem_toArray, List.mem_map] at hv
  obtain ⟨x, _, rfl⟩ := hv
  rfl
theorem crc_More.tab_set (i : Nat) (h : i < 256) : (crc_More.tab i).set i (crc_More.it 8 i) = crc_More.tab (i + 1) := by
  unfold crc_More.tab
  rw [List.set_append_right _ _ (by simp), List.range_succ, List.map_append]
  obtain ⟨m, hm⟩ : ∃ m, 256 - i = m + 1 := ⟨255 - i, by omega⟩
  rw [hm, show 256 - (i + 1) = m by omega]
  simp [List.replicate_succ]
theorem crc_More.cell_at (w : World) (g i : Nat) (l : List Int) (hl : i < l.length) (hg : w.heap[g]? = some (.cells (crc_More.cells l) 141 (0, 0))) : w.cell? ⟨g, i, none⟩ = some (.int .u32 (l.getD i 0)) := by
  rw [cell_of_row w g i _ 141 _ hg, List.getD_eq_getElem?_getD]
  unfold crc_More.cells
  rw [List.getElem?_toArray, List.getElem?_map, List.getElem?_eq_getElem hl]
  rfl
/-- A place of a row is written. -/
theorem crc_More.put (w : World) (g i : Nat) (l : List Int) (v : Int) (hg : w.heap[g]? = some (.cells (crc_More.cells l) 141 (0, 0))) :
    (w.setCell ⟨g, i, none⟩ (.int .u32 v)).heap[g]? = some (.cells (crc_More.cells (l.set i v)) 141 (0, 0)) := by
  rw [heap_setCell_same w g i _ 141 _ hg]
  congr 2
  unfold crc_More.cells
  rw [List.map_set]
  simp
set_option maxHeartbeats 1000000 in
set_option maxRecDepth 100000 in
theorem crc_table.calls (w : World) :
    Calls Tryd.prog 99 #[] w fun e w' => e = .returned (.agg (crc_More.cells (crc_More.tab 256))) ∧ Below w.heap.size w w' := by
  have hz := crc_More.zero
  go_enter Tryd.func99, Tryd.ntmps99
  go_wp2
  clear hz
  obtain ⟨g, hg⟩ : ∃ g, g = w.heap.size := ⟨_, rfl⟩
  have HG := Aside0.mk hg
  rw [← hg]
  clear hg
  go_loopw [5] (fun v wr => ∃ i : Nat, v = .int .i64 i ∧ i ≤ 256 ∧ Aside0 (Below w.heap.size w wr ∧ wr.heap[g]? = some (.cells crc_More.zeros 141 (0, 0)) ∧ wr.heap[g + 1]? = some (.cells (crc_More.cells (crc_More.tab i)) 141 (0, 0)))) (fun v _ => 256 - (intOf v).toNat)
  case atStart =>
    exact ⟨0, rfl, by omega, ⟨below_alloc (below_alloc (Below.refl _ _) _) _, by rw [HG.out]; exact heap_alloc2_old w _ _, by rw [HG.out, crc_More.tab_zero]; exact heap_alloc2_new w _ _⟩⟩
  case round =>
    obtain ⟨i, rfl, hi, H⟩ := hrel
    by_cases hlt : i < 256
    · go_wp2
      go_loop [3, 4, 10] (fun v3 _ v10 => ∃ k : Nat, v10 = .int .i64 k ∧ k ≤ 8 ∧ v3 = .int .u32 (crc_More.it k i)) (fun _ _ v => 8 - (intOf v).toNat)
      case atStart => exact ⟨0, rfl, by omega, by simp only [crc_More.it]⟩
      case round =>
        obtain ⟨k, rfl, hk, rfl⟩ := hrel
        by_cases hk8 : k < 8
        · have e : crc_More.it (k + 1) i = crc_More.s1 (crc_More.it k i) := rfl
          have E := Aside0.mk e
          clear e
          by_cases hb : Go.bits .and .u32 (crc_More.it k i) 1 = 1
          · have hb' : (Go.bits .and .u32 (crc_More.it k i) 1 == 1) = true := by simpa using hb
            have HB := Aside0.mk hb
            clear hb
            go_wp2
            go_round
            case rel => exact ⟨k + 1, by go_num, by omega, by rw [E.out, crc_More.s1, if_pos HB.out]⟩
            case measure => simp [intOf]; omega
          · have hb' : (Go.bits .and .u32 (crc_More.it k i) 1 == 1) = false := by simpa using hb
            have HB := Aside0.mk hb
            clear hb
            go_wp2
            go_round
            case rel => exact ⟨k + 1, by go_num, by omega, by rw [E.out, crc_More.s1, if_neg HB.out]⟩
            case measure => simp [intOf]; omega
        · have hk9 : k = 8 := by omega
          subst hk9
          have hfz := frozen_of_row wr (g + 1) i _ 141 H.out.2.2
          have hcl := crc_More.cell_at wr (g + 1) i _ (by rw [crc_More.tab_len i hi]; exact hlt) H.out.2.2
          go_wp2
          go_roundw
          case rel => exact ⟨i + 1, by go_num, by omega, ⟨H.out.1.setCell (by rw [HG.out]; exact Nat.le_succ _) _, (heap_setCell_other wr ⟨g + 1, i, none⟩ g _ (by simp)).trans H.out.2.1, by rw [← crc_More.tab_set i hlt]; exact crc_More.put wr (g + 1) i _ _ H.out.2.2⟩⟩
          case measure => simp [intOf]; omega
    · have h256 : i = 256 := by omega
      subst h256
      have hu := Tryd.underlying141
      have hs : (Tryd.prog.info? 141).map (·.size) = some (crc_More.cells (crc_More.tab 256)).size := by rw [crc_More.cells_size, crc_More.tab_len 256 (Nat.le_refl _)]; exact crc_More.size
      have hs' : crc_More.zeros.size = (crc_More.cells (crc_More.tab 256)).size := by rw [crc_More.cells_size, crc_More.tab_len 256 (Nat.le_refl _), crc_More.zeros, crc_More.cells_size]; simp
      have ho := crc_More.one_all (crc_More.tab 256)
      have HS := Aside0.mk hs
      have HS' := Aside0.mk hs'
      have HO := Aside0.mk ho
      clear hs hs' ho
      go_wp2_with (first | (refine wpList_load_row rfl 141 (.tmp 1) rfl (g + 1) rfl 141 _ _ _ H.out.2.2 hu rfl HS.out ?_) | (refine wpList_store_row rfl 141 (.tmp 0) (.tmp 25) rfl g _ rfl rfl 141 _ H.out.2.1 HS.out HS'.out HO.out ?_))
      have hg2 := setRow_heap wr g _ (crc_More.cells (crc_More.tab 256)) 141 _ H.out.2.1
      exact bodyPost_ret (results_cell_row rfl _ _ g 141 _ _ _ rfl hg2 hu rfl HS.out) rfl ⟨rfl, below_setRow H.out.1 (by rw [HG.out]; exact Nat.le_refl _) _⟩
def crc_More.step (c x : Int) : Int := Go.bits .xor .u32 ((crc_More.tab 256).getD (Go.bits .xor .u8 (c % 256) x).toNat 0) (c / 256)
theorem crc_More.u8_range (a b : Int) : 0 ≤ Go.bits .xor .u8 a b ∧ Go.bits .xor .u8 a b < 256 := by
  unfold Go.bits
  simp only [IntKind.wrap_u8]
  omega
def crc_More.raw (c : Int) (l : List Int) : Int := Go.bits .xor .u32 4294967295 (l.foldl crc_More.step (Go.bits .xor .u32 4294967295 c))
def crc_More.f (c : Int) (l : List Int) : Option Int := some (crc_More.raw c l)
set_option maxHeartbeats 1000000 in
set_option maxRecDepth 100000 in
theorem crc_More.calls (a0 : Int) (A1 : Option Addr) (c1 : Nat) (l1 : List Int) (r : Int) (w : World) (hr1 : Kd.C (Kd.int .u8) w A1 l1.length l1) (hc1 : l1.length ≤ c1) (h : crc_More.f a0 l1 = some r) :
    Calls Tryd.prog 79 #[.int .u32 a0, .slice A1 l1.length c1] w fun e w' => e = .returned (.int .u32 r) ∧ Below w.heap.size w w' := by
  have hz := crc_More.zero
  have HR := Aside0.mk hr1
  have H : Aside0 (crc_More.raw a0 l1 = r) := ⟨Option.some.inj (show some (crc_More.raw a0 l1) = some r from h)⟩
  have hlen : l1.length ≤ 9223372036854775807 := hr1.2.1
  clear hr1 h
  have hs : (Tryd.prog.info? 141).map (·.size) = some (crc_More.cells (crc_More.tab 256)).size := by rw [crc_More.cells_size, crc_More.tab_len 256 (Nat.le_refl _)]; exact crc_More.size
  have hs' : crc_More.zeros.size = (crc_More.cells (crc_More.tab 256)).size := by rw [crc_More.cells_size, crc_More.tab_len 256 (Nat.le_refl _), crc_More.zeros, crc_More.cells_size]; simp
  have HS := Aside0.mk hs
  have HS' := Aside0.mk hs'
  have HO := Aside0.mk (crc_More.one_all (crc_More.tab 256))
  clear hs hs'
  go_enter Tryd.func79, Tryd.ntmps79
  go_wp2_with (first | (go_at_call 99; refine (crc_table.calls _).mono ?_; rintro e w1 ⟨rfl, hb⟩; have HB := Aside0.mk hb; clear hb) | (refine wpList_store_row rfl 141 (.tmp 5) (.tmp 8) rfl w1.heap.size _ rfl rfl 141 _ (heap_alloc_new w1 _) HS.out HS'.out HO.out ?_))
  have hg := setRow_heap (w1.alloc (.cells crc_More.zeros 141)) w1.heap.size _ (crc_More.cells (crc_More.tab 256)) 141 _ (heap_alloc_new w1 _)
  have hb : Below w.heap.size w ((w1.alloc (.cells crc_More.zeros 141)).setRow w1.heap.size (crc_More.cells (crc_More.tab 256))) := below_setRow (below_alloc HB.out _) HB.out.size _
  have HG := Aside0.mk hg
  have HB2 := Aside0.mk hb
  clear hg hb HB hz
  generalize (w1.alloc (.cells crc_More.zeros 141)).setRow w1.heap.size (crc_More.cells (crc_More.tab 256)) = W at *
  generalize w1.heap.size = g at *
  go_loop [0, 13] (fun v0 v13 => ∃ k : Nat, v13 = .int .i64 k ∧ k ≤ l1.length ∧ v0 = .int .u32 ((l1.take k).foldl crc_More.step (Go.bits .xor .u32 4294967295 a0))) (fun _ v => l1.length - (intOf v).toNat)
  case atStart => exact ⟨0, rfl, Nat.zero_le _, by simp [IntKind.max, IntKind.bits, IntKind.signed]⟩
  case round =>
    obtain ⟨k, rfl, hk, rfl⟩ := hrel
    by_cases hlt : k < l1.length
    · obtain ⟨ad, e, hx⟩ := Kd.at_int (Kd.C_below HR.out HB2.out) k (by omega) (by omega)
      cases e
      have hx' : W.cell? (ad.add k) = some (.int .u8 (rd l1 k)) := hx
      clear hx
      have hs : (l1.take (k + 1)).foldl crc_More.step (Go.bits .xor .u32 4294967295 a0) = crc_More.step ((l1.take k).foldl crc_More.step (Go.bits .xor .u32 4294967295 a0)) (rd l1 k) := by
        have e : rd l1 k = l1[k] := by
          unfold rd
          rw [Int.toNat_natCast, List.getD_eq_getElem?_getD, List.getElem?_eq_getElem hlt, Option.getD_some]
        rw [e, ← List.take_append_getElem hlt, List.foldl_append]
        rfl
      have HS2 := Aside0.mk hs
      clear hs
      generalize (l1.take k).foldl crc_More.step (Go.bits .xor .u32 4294967295 a0) = c at *
      have hj := crc_More.u8_range (c % 256) (rd l1 k)
      obtain ⟨j, hj'⟩ : ∃ j, j = Go.bits .xor .u8 (c % 256) (rd l1 k) := ⟨_, rfl⟩
      rw [← hj'] at hj
      have HJ := Aside0.mk hj'
      have hcl := crc_More.cell_at W g j.toNat _ (by rw [crc_More.tab_len 256 (Nat.le_refl _)]; omega) HG.out
      rw [hj'] at hcl hj
      clear hj'
      go_wp2
      go_round
      case rel => exact ⟨k + 1, by go_num, by omega, by rw [HS2.out]; rfl⟩
      case measure => simp [intOf]; omega
    · have hk2 : l1.take k = l1 := List.take_of_length_le (by omega)
      have HK := Aside0.mk hk2
      clear hk2
      go_wp2
      go_ret
      exact ⟨by rw [HK.out, ← H.out]; rfl, HB2.out⟩
/-- A literal's row, marked or not, reads as its bytes. -/
theorem crc_More.const_row (w : World) (l : List Int) (e : TypeId) (fr : Nat × Nat) (hl : l.length ≤ 1000) : Kd.C (Kd.int .u8) (w.alloc (.cells (l.map (Value.int .u8)).toArray e fr)) (some ⟨w.heap.size, 0, none⟩) l.length l := by
  refine ⟨rfl, by omega, fun _ => ⟨⟨w.heap.size, 0, none⟩, rfl, fun j p hp => ⟨[.int .u8 p], rfl, rfl, fun i u hu => ?_⟩⟩⟩
  have hi : i = 0 := by
    have := (List.getElem?_eq_some_iff.1 hu).1
    simp at this
    omega
  subst hi
  have hu' : Value.int .u8 p = u := by simpa using hu
  subst hu'
  rw [add_plain, cell_of_row _ w.heap.size _ _ e fr (heap_alloc_new w _)]
  simp [Kd.int, Kd.scalar, hp]

/-! ### crc_Of: function 65 -/
def crc_Of.f (l0 : List Int) : Option (Int) := (crc_More.f 0 l0).bind fun t113 => (some t113)
set_option maxHeartbeats 8000000 in
set_option maxRecDepth 100000 in
theorem crc_Of.calls (A0 : Option Addr) (c0 : Nat) (l0 : List Int) (r : Int) (w : World) (hr0 : Kd.C (Kd.int .u8) w A0 l0.length l0) (hc0 : l0.length ≤ c0) (h : crc_Of.f l0 = some r) :
    Calls Tryd.prog 65 #[.slice A0 l0.length c0] w fun e w' => e = .returned (.int .u32 r) ∧ Below w.heap.size w w' := by
  have HR0 := Aside0.mk hr0
  have HC0 := Aside0.mk hc0
  clear hr0 hc0
  have HB := Aside0.mk (Below.refl w.heap.size w)
  have H : ((crc_More.f 0 l0).bind fun t113 => (some t113)) = some r := h
  clear h
  replace H := Option.bind_eq_some_iff.mp H
  obtain ⟨t113, A20, H⟩ := H
  replace H : (some t113) = some r := H
  have A2 := Aside0.mk A20
  clear A20
  obtain rfl := Option.some.inj H
  go_enter Tryd.func65, Tryd.ntmps65
  go_wp2_with (first | ((with_reducible refine gate_callee (f := 79) rfl ?_); refine goesL_ (some 4) rfl rfl Tryd.func79 (by kernel_rfl) rfl #[.int .u32 0, .slice A0 l0.length c0] rfl (by (try simp only [List.map_toArray, List.map_cons, List.map_nil]); first | done | rfl | (simp only [List.length_drop, List.length_take]; rfl)) ?_; (with_reducible refine (crc_More.calls 0 _ _ l0 t113 _ ?side1 ?side2 A2.out).mono ?_); (case side1 => repeat (first | exact HR0.out | (with_reducible refine Kd.C_alloc ?_ _) | (with_reducible refine Kd.C_drewN ?_ _) | (with_reducible refine Kd.C_drew ?_))); (case side2 => exact HC0.out); rintro e w3 ⟨rfl, hb⟩; refine ⟨_, rfl, ?_⟩; have n0_ := Aside0.mk (below_step (by repeat (first | (with_reducible first | exact HB.out | apply below_alloc | apply pw_below_drewN | apply below_drew1) | exact HB.out)) hb); clear HB; have HB := n0_; clear n0_; (try clear hb); (try clear hb2); (try clear hk); (try clear hi)))
  go_ret
  exact ⟨by first | rfl | (simp [errW_none, errW_some] <;> rfl) | (simp [*, errW_none, errW_some] <;> rfl), by repeat (first | (with_reducible first | exact HB.out | apply below_alloc | apply pw_below_drewN | apply below_drew1) | exact HB.out)⟩

/-! ### frame_sum: function 47 -/
def frame_sum.l0 : Nat → Int → List Int → Int → Option (List Int)
  | 0, _, _, _ => none
  | k + 1, x3, x4, x8 => if x8 < 4 then (if 0 ≤ (wrap64 (8 * x8)) then (if x4.length < 140737488355328 then (frame_sum.l0 k x3 (x4 ++ [(shr .u32 x3 (wrap64 (8 * x8))) % 256]) (wrap64 (x8 + 1))) else (none)) else (none)) else (some x4)
def frame_sum.f (k : Nat) (l0 : List Int) : Option (List Int) := (crc_Of.f l0).bind fun t114 => (frame_sum.l0 k t114 ([] : List Int) 0)
theorem frame_sum.mono_l : ∀ k, (∀ y0 y1 y2, LeO (frame_sum.l0 k y0 y1 y2) (frame_sum.l0 (k + 1) y0 y1 y2))
  | 0 => fun _ _ _ r h => by simp [frame_sum.l0] at h
  | k + 1 => by
    have ih0 := frame_sum.mono_l k
    · intro y0 y1 y2
      unfold frame_sum.l0
      repeat' first
      | (with_reducible exact ih0 _ _ _)
      | (with_reducible exact LeO.refl _)
      | (with_reducible exact LeO.none _)
      | (with_reducible refine LeO.ite ?_ ?_)
      | (with_reducible refine LeO.bind ?_ (fun _ => ?_))
      | exact ih0 _ _ _
      | exact LeO.none _
      | refine LeO.ite ?_ ?_
      | refine LeO.bind ?_ (fun _ => ?_)
theorem frame_sum.mono : ∀ a0 k, LeO (frame_sum.f k a0) (frame_sum.f (k + 1) a0) := by
  intro a0 k
  have ih0 := frame_sum.mono_l k
  unfold frame_sum.f
  repeat' first
      | (with_reducible exact ih0 _ _ _)
      | (with_reducible exact LeO.refl _)
      | (with_reducible exact LeO.none _)
      | (with_reducible refine LeO.ite ?_ ?_)
      | (with_reducible refine LeO.bind ?_ (fun _ => ?_))
      | exact ih0 _ _ _
      | exact LeO.none _
      | refine LeO.ite ?_ ?_
      | refine LeO.bind ?_ (fun _ => ?_)
set_option maxHeartbeats 8000000 in
set_option maxRecDepth 100000 in
theorem frame_sum.calls (k : Nat) (A0 : Option Addr) (c0 : Nat) (l0 : List Int) (r : List Int) (w : World) (hr0 : Kd.C (Kd.int .u8) w A0 l0.length l0) (hc0 : l0.length ≤ c0) (h : frame_sum.f k l0 = some r) :
    Calls Tryd.prog 47 #[.slice A0 l0.length c0] w fun e w' => ∃ v0_ : Value, e = .returned (v0_) ∧ Kd.R (Kd.int .u8) 5 w' w.heap.size (fun _ => True) v0_ r ∧ Below w.heap.size w w' := by
  have HR0 := Aside0.mk hr0
  have HC0 := Aside0.mk hc0
  clear hr0 hc0
  have HB := Aside0.mk (Below.refl w.heap.size w)
  have H : ((crc_Of.f l0).bind fun t114 => (frame_sum.l0 k t114 ([] : List Int) 0)) = some r := h
  clear h
  replace H := Option.bind_eq_some_iff.mp H
  obtain ⟨t114, A20, H⟩ := H
  replace H : (frame_sum.l0 k t114 ([] : List Int) 0) = some r := H
  have A2 := Aside0.mk A20
  clear A20
  have H' := Aside0.mk H
  clear H
  go_enter Tryd.func47, Tryd.ntmps47
  go_wp2_with (first | ((with_reducible refine gate_callee (f := 65) rfl ?_); refine goesL_ (some 7) rfl rfl Tryd.func65 (by kernel_rfl) rfl #[.slice A0 l0.length c0] rfl (by (try simp only [List.map_toArray, List.map_cons, List.map_nil]); first | done | rfl | (simp only [List.length_drop, List.length_take]; rfl)) ?_; (with_reducible refine (crc_Of.calls _ _ l0 t114 _ ?side1 ?side2 A2.out).mono ?_); (case side1 => repeat (first | exact HR0.out | (with_reducible refine Kd.C_alloc ?_ _) | (with_reducible refine Kd.C_drewN ?_ _) | (with_reducible refine Kd.C_drew ?_))); (case side2 => exact HC0.out); rintro e w3 ⟨rfl, hb⟩; refine ⟨_, rfl, ?_⟩; have n0_ := Aside0.mk (below_step (by repeat (first | (with_reducible first | exact HB.out | apply below_alloc | apply pw_below_drewN | apply below_drew1) | exact HB.out)) hb); clear HB; have HB := n0_; clear n0_; (try clear hb); (try clear hb2); (try clear hk); (try clear hi)))
  go_loopg [4, 8] k (fun kq v4 v8 w' => ∃ (x4_1 : List Int) (x8_1 : Int), v8 = .int .i64 x8_1 ∧ Aside0 (frame_sum.l0 kq t114 x4_1 x8_1 = some r) ∧ Aside0 (kq ≤ k) ∧ Aside0 (Kd.R (Kd.int .u8) 5 w' w.heap.size (fun _ => True) v4 x4_1) ∧ Aside0 (Below w.heap.size w w'))
  case atStart => exact ⟨(([] : List Int)), (0), (by first | rfl | (simp; done) | (simp [*]; done)), H', ⟨Nat.le_refl _⟩, ⟨by first | exact Kd.R_nil _ _ _ _ _ | exact Kd.N_nil _ _ _ _ _ | exact Kd.V_nil _ _ _ _ _ | exact Kd.Q_nil _ _ _ _ _ | exact Kd.S_nil _ _ _ _ _⟩, ⟨by repeat (first | (with_reducible first | exact HB.out | apply below_alloc | apply pw_below_drewN | apply below_drew1) | exact HB.out)⟩⟩
  case round =>
    clear H'
    try clear p2
    obtain ⟨x4_1, x8_1, rfl, HA, HK1, HO_4, HB⟩ := hrel
    cases gk with
    | zero => exact absurd HA.out (by simp [frame_sum.l0])
    | succ k1 =>
      have H := HA.out
      clear HA
      simp only [frame_sum.l0] at H
      by_cases c4 : x8_1 < 4
      · rw [if_pos c4] at H
        have c4b0 : decide (x8_1 < 4) = true := decide_eq_true c4
        clear c4
        obtain ⟨ji5, hji5⟩ : ∃ j_ : Int, (wrap64 (8 * x8_1)) = j_ := ⟨_, rfl⟩
        replace H : (if 0 ≤ (ji5) then (if x4_1.length < 140737488355328 then (frame_sum.l0 k1 t114 (x4_1 ++ [(shr .u32 t114 (ji5)) % 256]) (wrap64 (x8_1 + 1))) else (none)) else (none)) = some r := by first | (rw [hji5] at H; exact H) | (simp only [hji5] at H ⊢; exact H)
        have hji5w : (IntKind.i64.wrap (8 * x8_1)) = ji5 := (i64_w _).trans hji5
        by_cases c6 : 0 ≤ (ji5)
        · rw [if_pos c6] at H
          have c6b0 := eq_true c6
          have c6b1 : decide (0 ≤ (ji5)) = true := decide_eq_true c6
          clear c6
          obtain ⟨ji7, hji7⟩ : ∃ j_ : Int, (shr .u32 t114 (ji5)) = j_ := ⟨_, rfl⟩
          replace H : (if x4_1.length < 140737488355328 then (frame_sum.l0 k1 t114 (x4_1 ++ [(ji7) % 256]) (wrap64 (x8_1 + 1))) else (none)) = some r := by first | (rw [hji7] at H; exact H) | (simp only [hji7] at H ⊢; exact H)
          have hji7_ : (t114 / 2 ^ min (ji5).toNat 32) = ji7 := hji7
          have hji7z : (ji5) ≤ 32 → (t114 / 2 ^ (ji5).toNat) = ji7 := shr_small hji7
          by_cases c8 : x4_1.length < 140737488355328
          · rw [if_pos c8] at H
            have LMc8 := Aside0.mk c8
            clear c8
            obtain ⟨y115, hy115⟩ : ∃ y_ : List Int, y_ = (x4_1 ++ [(ji7) % 256]) := ⟨_, rfl⟩
            replace H : (frame_sum.l0 k1 t114 y115 (wrap64 (x8_1 + 1))) = some r := by first | (rw [hy115]; with_reducible exact H) | (have H2_ := (Option.bind_some _ _).symm.trans H; rw [hy115]; with_reducible exact H2_) | (have H2_ := (Option.bind_some _ _).symm.trans H; with_reducible exact H2_) | with_reducible exact H | (rw [hy115]; exact H) | exact H
            have Ny115 := Aside0.mk hy115
            clear hy115
            have H' := Aside0.mk H
            clear H
            go_wp2_with (first | ((with_reducible refine gate_builtin (b := .append) (xs := #[.tmp 11, .tmp 17]) rfl ?_); at_builtin; refine Kd.R_append (Kd.int .u8) (w0 := w) w.heap.size rfl (.tmp 11) (.tmp 17) 22 5 (.int .u8 0) 1 rfl Tryd.underlying22 info5 rfl (by decide) (by omega) u4 x4_1 ((ji7) % 256) [.int .u8 ((ji7) % 256)] (fun _ => True) (fun _ => False) rfl rfl ?aP (fun _ hk => hk.elim) ?aF ?aO ?aB ?aS ?aL ?_; (case aP => exact rfl); (case aB => exact (by repeat (first | (with_reducible first | exact HB.out | apply below_alloc | apply pw_below_drewN | apply below_drew1) | exact HB.out))); (case aF => exact (fun _ _ => trivial)); (case aO => exact (by (with_reducible repeat (first | apply Kd.R_alloc | apply Kd.R_drewN | apply Kd.R_drew)); exact HO_4.out)); (case aS => exact (below_size (by repeat (first | (with_reducible first | exact HB.out | apply below_alloc | apply pw_below_drewN | apply below_drew1) | exact HB.out)))); (case aL => have := LMc8.out; omega); intro v116 w9 ho hb hg hat; rw [← Ny115.out] at ho; have n0_ := Aside0.mk (hb); have n1_ := Aside0.mk (ho); clear HB; clear HO_4; have HB := n0_; have HO117 := n1_; clear n0_ n1_; clear ho hb hg hat))
            go_roundg k1
            case measure => have := HK1.out; omega
            case rel => exact ⟨(y115), (wrap64 (x8_1 + 1)), (by first | rfl | (simp; done) | (simp [*]; done)), H', ⟨by have := HK1.out; omega⟩, ⟨by (with_reducible repeat (first | apply Kd.R_alloc | apply Kd.R_drewN | apply Kd.R_drew)); exact HO117.out⟩, ⟨by repeat (first | (with_reducible first | exact HB.out | apply below_alloc | apply pw_below_drewN | apply below_drew1) | exact HB.out)⟩⟩
          · rw [if_neg c8] at H
            exact absurd H (by simp)
        · rw [if_neg c6] at H
          exact absurd H (by simp)
      · rw [if_neg c4] at H
        have c4b0 : decide (x8_1 < 4) = false := decide_eq_false c4
        clear c4
        obtain rfl := Option.some.inj H
        go_wp2
        go_ret
        exact ⟨_, by first | rfl | (simp [errW_none, errW_some] <;> rfl) | (simp [*, errW_none, errW_some] <;> rfl), by (with_reducible repeat (first | apply Kd.R_alloc | apply Kd.R_drewN | apply Kd.R_drew)); exact HO_4.out, by repeat (first | (with_reducible first | exact HB.out | apply below_alloc | apply pw_below_drewN | apply below_drew1) | exact HB.out)⟩

/-! ### frame_Put: function 34 -/
def frame_Put.f (k : Nat) (l0 : List Int) (l1 : List Int) : Option (List Int × Int) := if (l1.length : Int) > 1048576 then (some (([] : List Int), 6)) else ((num_Put.f k l0 (IntKind.u64.wrap ((l1.length : Int)))).bind fun t118 => (if t118.length + l1.length < 140737488355328 then ((some (t118 ++ l1 : List Int)).bind fun y121 => ((frame_sum.f k l1).bind fun t124 => (if y121.length + t124.length < 140737488355328 then (some ((y121 ++ t124), 0)) else (none)))) else (none)))
theorem frame_Put.mono : ∀ a0 a1 k, LeO (frame_Put.f k a0 a1) (frame_Put.f (k + 1) a0 a1) := by
  intro a0 a1 k
  unfold frame_Put.f
  repeat' first
      | (with_reducible exact frame_sum.mono _ _)
      | (with_reducible exact num_Put.mono _ _ _)
      | (with_reducible exact LeO.refl _)
      | (with_reducible exact LeO.none _)
      | (with_reducible refine LeO.ite ?_ ?_)
      | (with_reducible refine LeO.bind ?_ (fun _ => ?_))
      | exact frame_sum.mono _ _
      | exact num_Put.mono _ _ _
      | exact LeO.none _
      | refine LeO.ite ?_ ?_
      | refine LeO.bind ?_ (fun _ => ?_)
set_option maxHeartbeats 8000000 in
set_option maxRecDepth 100000 in
theorem frame_Put.calls (k : Nat) (A0 : Option Addr) (c0 : Nat) (l0 : List Int) (A1 : Option Addr) (c1 : Nat) (l1 : List Int) (r1 : List Int) (r2 : Int) (w : World) (hr0 : Kd.C (Kd.int .u8) w A0 l0.length l0) (hc0 : l0.length ≤ c0) (hr1 : Kd.C (Kd.int .u8) w A1 l1.length l1) (hc1 : l1.length ≤ c1) (h : frame_Put.f k l0 l1 = some (r1, r2)) :
    Calls Tryd.prog 34 #[.slice A0 l0.length c0, .slice A1 l1.length c1] w fun e w' => ∃ v0_ : Value, e = .returned (.tuple #[v0_, .int .i64 r2]) ∧ Kd.R (Kd.int .u8) 5 w' w.heap.size (fun _ => True) v0_ r1 ∧ Below w.heap.size w w' := by
  have HR0 := Aside0.mk hr0
  have HC0 := Aside0.mk hc0
  clear hr0 hc0
  have HR1 := Aside0.mk hr1
  have HC1 := Aside0.mk hc1
  clear hr1 hc1
  have HB := Aside0.mk (Below.refl w.heap.size w)
  have H : (if (l1.length : Int) > 1048576 then (some (([] : List Int), 6)) else ((num_Put.f k l0 (IntKind.u64.wrap ((l1.length : Int)))).bind fun t118 => (if t118.length + l1.length < 140737488355328 then ((some (t118 ++ l1 : List Int)).bind fun y121 => ((frame_sum.f k l1).bind fun t124 => (if y121.length + t124.length < 140737488355328 then (some ((y121 ++ t124), 0)) else (none)))) else (none)))) = some (r1, r2) := h
  clear h
  by_cases c3 : (l1.length : Int) > 1048576
  · rw [if_pos c3] at H
    have c3b0 : decide (1048576 < (l1.length : Int)) = true := decide_eq_true c3
    have c3b1 : decide (1048576 < l1.length) = true := decide_eq_true (by omega)
    clear c3
    simp only [Option.some.injEq, Prod.mk.injEq] at H
    obtain ⟨rfl, rfl⟩ := H
    go_enter Tryd.func34, Tryd.ntmps34
    go_wp2
    go_ret2
    exact ⟨_, by first | rfl | (simp [errW_none, errW_some] <;> rfl) | (simp [*, errW_none, errW_some] <;> rfl), by first | exact Kd.R_nil _ _ _ _ _ | exact Kd.N_nil _ _ _ _ _ | exact Kd.V_nil _ _ _ _ _ | exact Kd.Q_nil _ _ _ _ _ | exact Kd.S_nil _ _ _ _ _, by repeat (first | (with_reducible first | exact HB.out | apply below_alloc | apply pw_below_drewN | apply below_drew1) | exact HB.out)⟩
  · rw [if_neg c3] at H
    have c3b0 : decide (1048576 < (l1.length : Int)) = false := decide_eq_false c3
    have c3b1 : decide (1048576 < l1.length) = false := decide_eq_false (by omega)
    clear c3
    replace H := Option.bind_eq_some_iff.mp H
    obtain ⟨t118, A40, H⟩ := H
    replace H : (if t118.length + l1.length < 140737488355328 then ((some (t118 ++ l1 : List Int)).bind fun y121 => ((frame_sum.f k l1).bind fun t124 => (if y121.length + t124.length < 140737488355328 then (some ((y121 ++ t124), 0)) else (none)))) else (none)) = some (r1, r2) := H
    have A4 := Aside0.mk A40
    clear A40
    by_cases c5 : t118.length + l1.length < 140737488355328
    · rw [if_pos c5] at H
      have LMc5 := Aside0.mk c5
      clear c5
      obtain ⟨y121, hy121⟩ : ∃ y_ : List Int, y_ = (t118 ++ l1) := ⟨_, rfl⟩
      replace H : ((frame_sum.f k l1).bind fun t124 => (if y121.length + t124.length < 140737488355328 then (some ((y121 ++ t124), 0)) else (none))) = some (r1, r2) := by first | (rw [hy121]; with_reducible exact H) | (have H2_ := (Option.bind_some _ _).symm.trans H; rw [hy121]; with_reducible exact H2_) | (have H2_ := (Option.bind_some _ _).symm.trans H; with_reducible exact H2_) | with_reducible exact H | (rw [hy121]; exact H) | exact H
      have Ny121 := Aside0.mk hy121
      clear hy121
      replace H := Option.bind_eq_some_iff.mp H
      obtain ⟨t124, A60, H⟩ := H
      replace H : (if y121.length + t124.length < 140737488355328 then (some ((y121 ++ t124), 0)) else (none)) = some (r1, r2) := H
      have A6 := Aside0.mk A60
      clear A60
      by_cases c7 : y121.length + t124.length < 140737488355328
      · rw [if_pos c7] at H
        have LMc7 := Aside0.mk c7
        clear c7
        obtain ⟨y127, hy127⟩ : ∃ y_ : List Int, y_ = (y121 ++ t124) := ⟨_, rfl⟩
        replace H : (some (y127, 0)) = some (r1, r2) := by first | (rw [hy127]; with_reducible exact H) | (have H2_ := (Option.bind_some _ _).symm.trans H; rw [hy127]; with_reducible exact H2_) | (have H2_ := (Option.bind_some _ _).symm.trans H; with_reducible exact H2_) | with_reducible exact H | (rw [hy127]; exact H) | exact H
        have Ny127 := Aside0.mk hy127
        clear hy127
        simp only [Option.some.injEq, Prod.mk.injEq] at H
        obtain ⟨rfl, rfl⟩ := H
        go_enter Tryd.func34, Tryd.ntmps34
        go_wp2_with (first | ((with_reducible refine gate_callee (f := 46) rfl ?_); refine goesL_ (some 14) rfl rfl Tryd.func46 (by kernel_rfl) rfl #[.slice A0 l0.length c0, .int .u64 (IntKind.u64.wrap ((l1.length : Int)))] rfl (by (try simp only [List.map_toArray, List.map_cons, List.map_nil]); first | done | rfl | (simp only [List.length_drop, List.length_take]; rfl)) ?_; (with_reducible refine (num_Put.calls k _ _ l0 (IntKind.u64.wrap ((l1.length : Int))) t118 _ ?side1 ?side2 A4.out).mono ?_); (case side1 => repeat (first | exact HR0.out | (with_reducible refine Kd.C_alloc ?_ _) | (with_reducible refine Kd.C_drewN ?_ _) | (with_reducible refine Kd.C_drew ?_))); (case side2 => exact HC0.out); rintro e w8 ⟨v119, rfl, ho0, hb⟩; refine ⟨_, rfl, ?_⟩; have n0_ := Aside0.mk (Kd.R_lower ho0 (below_size (by repeat (first | (with_reducible first | exact HB.out | apply below_alloc | apply pw_below_drewN | apply below_drew1) | exact HB.out)))); have n1_ := Aside0.mk (below_step (by repeat (first | (with_reducible first | exact HB.out | apply below_alloc | apply pw_below_drewN | apply below_drew1) | exact HB.out)) hb); clear HB; have HO120 := n0_; have HB := n1_; clear n0_ n1_; (try clear hb); (try clear hb2); (try clear hk); (try clear hi); (try clear ho0)) | ((with_reducible refine gate_builtin (b := .append) (xs := #[.tmp 15, .tmp 16]) rfl ?_); at_builtin; refine Kd.R_append_rows (Kd.int .u8) (w0 := w) w.heap.size rfl (.tmp 15) (.tmp 16) 22 5 (.int .u8 0) 1 rfl Tryd.underlying22 info5 rfl (by decide) (by omega) v119 t118 l1 _ _ _ (fun _ => True) (fun _ => False) rfl rfl ?aO ?aR (fun _ _ h => h) (fun _ h => h.elim) ?aF ?aB ?aS ?aL ?_; (case aR => repeat (first | exact (Kd.C_below HR1.out HB.out) | (with_reducible refine Kd.C_alloc ?_ _) | (with_reducible refine Kd.C_drewN ?_ _) | (with_reducible refine Kd.C_drew ?_))); (case aB => exact (by repeat (first | (with_reducible first | exact HB.out | apply below_alloc | apply pw_below_drewN | apply below_drew1) | exact HB.out))); (case aF => exact (fun _ _ => trivial)); (case aO => exact (by (with_reducible repeat (first | apply Kd.R_alloc | apply Kd.R_drewN | apply Kd.R_drew)); exact HO120.out)); (case aS => exact (below_size (by repeat (first | (with_reducible first | exact HB.out | apply below_alloc | apply pw_below_drewN | apply below_drew1) | exact HB.out)))); (case aL => have := LMc5.out; omega); intro v122 w9 ho hb hg hat; rw [← Ny121.out] at ho; have n0_ := Aside0.mk (hb); have n1_ := Aside0.mk (ho); clear HB; clear HO120; have HB := n0_; have HO123 := n1_; clear n0_ n1_; clear ho hb hg hat) | ((with_reducible refine gate_callee (f := 47) rfl ?_); refine goesL_ (some 20) rfl rfl Tryd.func47 (by kernel_rfl) rfl #[.slice A1 l1.length c1] rfl (by (try simp only [List.map_toArray, List.map_cons, List.map_nil]); first | done | rfl | (simp only [List.length_drop, List.length_take]; rfl)) ?_; (with_reducible refine (frame_sum.calls k _ _ l1 t124 _ ?side1 ?side2 A6.out).mono ?_); (case side1 => repeat (first | exact (Kd.C_below HR1.out HB.out) | (with_reducible refine Kd.C_alloc ?_ _) | (with_reducible refine Kd.C_drewN ?_ _) | (with_reducible refine Kd.C_drew ?_))); (case side2 => exact HC1.out); rintro e w10 ⟨v125, rfl, ho0, hb⟩; refine ⟨_, rfl, ?_⟩; have n0_ := Aside0.mk (Kd.R_elder' (by (with_reducible repeat (first | apply Kd.R_alloc | apply Kd.R_drewN | apply Kd.R_drew)); exact HO123.out) (Kd.R_base ho0) hb); have n1_ := Aside0.mk (Kd.R_lower (Kd.R_new' ho0 (Kd.R_lt (by (with_reducible repeat (first | apply Kd.R_alloc | apply Kd.R_drewN | apply Kd.R_drew)); exact HO123.out))) (below_size (by repeat (first | (with_reducible first | exact HB.out | apply below_alloc | apply pw_below_drewN | apply below_drew1) | exact HB.out)))); have n2_ := Aside0.mk (below_step (by repeat (first | (with_reducible first | exact HB.out | apply below_alloc | apply pw_below_drewN | apply below_drew1) | exact HB.out)) hb); clear HO123; clear HB; have HO123 := n0_; have HO126 := n1_; have HB := n2_; clear n0_ n1_ n2_; (try clear hb); (try clear hb2); (try clear hk); (try clear hi); (try clear ho0); obtain ⟨Ao12, co12, eo12⟩ := Kd.R_slice HO126.out; subst eo12) | ((with_reducible refine gate_builtin (b := .append) (xs := #[.tmp 18, .tmp 20]) rfl ?_); at_builtin; refine Kd.R_append_rows (Kd.int .u8) (w0 := w) w.heap.size rfl (.tmp 18) (.tmp 20) 22 5 (.int .u8 0) 1 rfl Tryd.underlying22 info5 rfl (by decide) (by omega) v122 y121 t124 _ _ _ (fun k_ => some k_ ≠ (.slice Ao12 t124.length co12 : Value).ownBlock) (fun _ => False) rfl rfl ?aO ?aR (fun _ _ h => h) (fun _ h => h.elim) ?aF ?aB ?aS ?aL ?_; (case aR => repeat (first | exact (Kd.R_reads' HO126.out).2.2 | (with_reducible refine Kd.C_alloc ?_ _) | (with_reducible refine Kd.C_drewN ?_ _) | (with_reducible refine Kd.C_drew ?_))); (case aB => exact (by repeat (first | (with_reducible first | exact HB.out | apply below_alloc | apply pw_below_drewN | apply below_drew1) | exact HB.out))); (case aF => exact (fun k_ hk => Kd.fresh' (Kd.R_lt (by (with_reducible repeat (first | apply Kd.R_alloc | apply Kd.R_drewN | apply Kd.R_drew)); exact HO126.out)) k_ hk)); (case aO => exact (by (with_reducible repeat (first | apply Kd.R_alloc | apply Kd.R_drewN | apply Kd.R_drew)); exact Kd.R_mono HO123.out (fun _ hk => hk.2))); (case aS => exact (below_size (by repeat (first | (with_reducible first | exact HB.out | apply below_alloc | apply pw_below_drewN | apply below_drew1) | exact HB.out)))); (case aL => have := LMc7.out; omega); intro v128 w11 ho hb hg hat; rw [← Ny127.out] at ho; have n0_ := Aside0.mk (Kd.R_after (ok := (fun _ => True)) (by (with_reducible repeat (first | apply Kd.R_alloc | apply Kd.R_drewN | apply Kd.R_drew)); exact HO126.out) hg hat); have n1_ := Aside0.mk (hb); have n2_ := Aside0.mk (ho); clear HO126; clear HB; clear HO123; have HO126 := n0_; have HB := n1_; have HO129 := n2_; clear n0_ n1_ n2_; clear ho hb hg hat))
        go_ret2
        exact ⟨_, by first | rfl | (simp [errW_none, errW_some] <;> rfl) | (simp [*, errW_none, errW_some] <;> rfl), by (with_reducible repeat (first | apply Kd.R_alloc | apply Kd.R_drewN | apply Kd.R_drew)); exact Kd.R_mono HO129.out (fun _ hk => trivial), by repeat (first | (with_reducible first | exact HB.out | apply below_alloc | apply pw_below_drewN | apply below_drew1) | exact HB.out)⟩
      · rw [if_neg c7] at H
        exact absurd H (by simp)
    · rw [if_neg c5] at H
      exact absurd H (by simp)

/-! ### bytes_Clone: function 45 -/
def bytes_Clone.f (l : List Int) : Option (List Int) := if l.length < 140737488355328 then some l else none
theorem bytes_Clone.calls (A0 : Option Addr) (c0 : Nat) (l0 : List Int) (r : List Int) (w : World) (hr0 : Kd.C (Kd.int .u8) w A0 l0.length l0) (hc0 : l0.length ≤ c0) (h : bytes_Clone.f l0 = some r) :
    Calls Tryd.prog 45 #[.slice A0 l0.length c0] w fun e w' => ∃ v0_ : Value, e = .returned (v0_) ∧ Kd.R (Kd.int .u8) 5 w' w.heap.size (fun _ => True) v0_ r ∧ Below w.heap.size w w' := by
  have hl : l0.length < 140737488355328 := by
    unfold bytes_Clone.f at h
    by_cases q : l0.length < 140737488355328
    · exact q
    · rw [if_neg q] at h; simp at h
  have hr : l0 = r := by
    unfold bytes_Clone.f at h
    rw [if_pos hl] at h
    exact Option.some.inj h
  subst hr
  clear h
  cases A0 with
  | none =>
    have hz : l0 = [] := by
      cases l0 with
      | nil => rfl
      | cons x l =>
        obtain ⟨ad, e, _⟩ := hr0.2.2 (by simp)
        cases e
    subst hz
    clear hr0
    go_enter Tryd.func45, Tryd.ntmps45
    have hq := fun (w : World) (a : Option Addr) (n c : Nat) => Lib.run_eql_slice_nil (P := Tryd.prog) w 22 5 a n c 0 0 Tryd.underlying22
    go_wp2
    go_ret
    exact ⟨_, rfl, Kd.R_nil _ _ _ _ _, Below.refl _ _⟩
  | some ad =>
    have HR0 := Aside0.mk hr0
    have HL := Aside0.mk hl
    clear hr0 hl
    have hq := fun (w : World) (a : Option Addr) (n c : Nat) => Lib.run_eql_slice_nil (P := Tryd.prog) w 22 5 a n c 0 0 Tryd.underlying22
    go_enter Tryd.func45, Tryd.ntmps45
    go_wp2_with (first | ((with_reducible refine gate_dst (N := 5) rfl ?_); refine Kd.R_lit (Kd.int .u8) _ 5 ?hg (N := 5) ?hd (xs := ([] : List Int)) (inner := []) (ok := fun _ => True) (okp := fun _ => True) ?hr ?hp (fun _ hk => hk) trivial (Below.refl _ _) (Nat.le_refl _) (by simp) ?_; (case hd => rfl); (case hg => rfl); (case hr => first | (go_simp; done) | (go_simp; rfl)); (case hp => exact (Reps.none _ _)); intro v102 w4 ho5 hb hg_ hnew_; clear hg_ hnew_; have HO := Aside0.mk ho5; have HB := Aside0.mk hb; clear ho5 hb) | ((with_reducible refine gate_builtin (b := .append) (xs := #[.tmp 5, .tmp 6]) rfl ?_); at_builtin; refine Kd.R_append_rows (Kd.int .u8) (w0 := w) w.heap.size rfl (.tmp 5) (.tmp 6) 22 5 (.int .u8 0) 1 rfl Tryd.underlying22 info5 rfl (by decide) (by omega) v102 [] l0 _ _ _ (fun _ => True) (fun _ => False) rfl rfl ?aO ?aR (fun _ _ h => h) (fun _ h => h.elim) ?aF ?aB ?aS ?aL ?_; (case aR => exact (Kd.C_below HR0.out HB.out)); (case aB => exact HB.out); (case aF => exact (fun _ _ => trivial)); (case aO => exact HO.out); (case aS => exact (below_size HB.out)); (case aL => have := HL.out; simp; omega); intro v105 w6 ho hb hg hat; have HB2 := Aside0.mk hb; have HO2 := Aside0.mk ho; clear ho hb hg hat))
    go_ret
    exact ⟨_, rfl, by have := HO2.out; rwa [List.nil_append] at this, HB2.out⟩

/-! ### num_Get: function 54 -/
/-- c numbers from i on, seven bits each, the least first. -/
def num_Get.vals (l : List Int) : Nat → Nat → Int
  | _, 0 => 0
  | i, c + 1 => rd l i % 128 + 128 * num_Get.vals l (i + 1) c
/-- The place of the first number below 128 from s on, k places at most; none: the list ends before. -/
def num_Get.scan (l : List Int) : Nat → Nat → Option Nat
  | 0, s => some s
  | k + 1, s => if s = l.length then none else if rd l s < 128 then some s else num_Get.scan l k (s + 1)
def num_Get.ans (l : List Int) : Int × Int × Int :=
  match num_Get.scan l 10 0 with
  | none => (0, 0, 3)
  | some s => if s = 10 ∨ (s = 9 ∧ rd l s > 1) ∨ (0 < s ∧ rd l s = 0) then (0, 0, 2) else (num_Get.vals l 0 (s + 1), (s : Int) + 1, 0)
def num_Get.f (l : List Int) : Option (Int × Int × Int) := if ∀ x ∈ l, 0 ≤ x ∧ x ≤ 255 then some (num_Get.ans l) else none

theorem num_Get.scan_eq (l : List Int) (s : Nat) (h : s < 10) : num_Get.scan l (10 - s) s = if s = l.length then none else if rd l s < 128 then some s else num_Get.scan l (10 - (s + 1)) (s + 1) := by
  obtain ⟨m, hm⟩ : ∃ m, 10 - s = m + 1 := ⟨9 - s, by omega⟩
  rw [hm, show 10 - (s + 1) = m by omega]
  rfl
theorem num_Get.vals_lt (l : List Int) : ∀ (c i : Nat), 0 ≤ num_Get.vals l i c ∧ num_Get.vals l i c < 128 ^ c
  | 0, _ => by simp [num_Get.vals]
  | c + 1, i => by
    have := num_Get.vals_lt l c (i + 1)
    simp only [num_Get.vals, Int.pow_succ]
    omega
theorem num_Get.vals_top (l : List Int) : ∀ (c i : Nat), rd l (i + c : Nat) % 128 ≤ 1 → num_Get.vals l i (c + 1) < 2 * 128 ^ c
  | 0, i, h => by
    simp only [num_Get.vals, Nat.add_zero] at h ⊢
    omega
  | c + 1, i, h => by
    have := num_Get.vals_top l c (i + 1) (by rw [show i + 1 + c = i + (c + 1) by omega]; exact h)
    rw [num_Get.vals, Int.pow_succ]
    have h2 : num_Get.vals l (i + 1) (c + 1) < 2 * 128 ^ c := this
    have h3 : rd l (i : Int) % 128 < 128 := by omega
    generalize num_Get.vals l (i + 1) (c + 1) = v at *
    generalize (128 : Int) ^ c = p at *
    omega
theorem num_Get.found (l : List Int) (s : Nat) (r1 r2 r3 : Int) (hf : num_Get.f l = some (r1, r2, r3)) (hs : num_Get.scan l 10 0 = some s) :
    (if s = 10 ∨ (s = 9 ∧ rd l s > 1) ∨ (0 < s ∧ rd l s = 0) then (0, 0, 2) else (num_Get.vals l 0 (s + 1), (s : Int) + 1, 0)) = (r1, r2, r3) := by
  unfold num_Get.f at hf
  split at hf
  · have := Option.some.inj hf
    rw [num_Get.ans, hs] at this
    exact this
  · simp at hf
theorem num_Get.short (l : List Int) (r1 r2 r3 : Int) (hf : num_Get.f l = some (r1, r2, r3)) (hs : num_Get.scan l 10 0 = none) : (0, 0, 3) = (r1, r2, r3) := by
  unfold num_Get.f at hf
  split at hf
  · have := Option.some.inj hf
    rw [num_Get.ans, hs] at this
    exact this
  · simp at hf
theorem num_Get.range (l : List Int) (r : Int × Int × Int) (hf : num_Get.f l = some r) (i : Nat) (hi : i < l.length) : 0 ≤ rd l i ∧ rd l i ≤ 255 := by
  unfold num_Get.f at hf
  split at hf
  · rename_i h
    unfold rd
    rw [Int.toNat_natCast, List.getD_eq_getElem?_getD, List.getElem?_eq_getElem hi, Option.getD_some]
    exact h _ (List.getElem_mem hi)
  · simp at hf
theorem num_Get.step (n x : Int) (h0 : 0 ≤ n) (h1 : n < 2 ^ 57) (hx0 : 0 ≤ x) (hx1 : x ≤ 255) : Go.bits .or .u64 (IntKind.u64.wrap (n * 128)) (IntKind.u64.wrap (Go.bits .and .u8 x 127)) = x % 128 + 128 * n := by
  have hw : ∀ n : Int, 0 ≤ n → n < 2 ^ 64 → IntKind.u64.wrap n = n := fun n a b => by
    simp [IntKind.wrap, IntKind.bits, IntKind.signed]; omega
  rw [hw _ (by omega) (by omega)]
  have e : Go.bits .and .u8 x 127 = x % 128 := bits_mask .u8 8 (by decide) wraps_u8 7 (by decide) x hx0 (by omega)
  rw [e, hw (x % 128) (by omega) (by omega), bits_join .u64 64 (by decide) hw 7 _ _ (by omega) (by omega) (by omega) (by omega) (by omega) (by omega)]
  omega
theorem num_Get.goes (l : List Int) (s : Nat) (hs : s < 10) (h0 : 0 ≤ rd l s) (hb : rd l s < 128) (hn : ¬ ((s = 9 ∧ rd l s > 1) ∨ (0 < s ∧ rd l s = 0))) (i : Int) (hi0 : 0 ≤ i) (hi : i ≤ s)
    (x : Int) (hx : x = rd l i) (hx0 : 0 ≤ x ∧ x ≤ 255) :
    Go.bits .or .u64 (IntKind.u64.wrap (num_Get.vals l (i + 1).toNat (s - i).toNat * 128)) (IntKind.u64.wrap (Go.bits .and .u8 x 127)) = num_Get.vals l (i - 1 + 1).toNat (s - (i - 1)).toNat := by
  obtain ⟨j, rfl⟩ := Int.eq_ofNat_of_zero_le hi0
  have e1 : ((j : Int) + 1).toNat = j + 1 := by omega
  have e2 : ((s : Int) - j).toNat = s - j := by omega
  have e3 : ((j : Int) - 1 + 1).toNat = j := by omega
  have e4 : ((s : Int) - (j - 1)).toNat = s - j + 1 := by omega
  rw [e1, e2, e3, e4, num_Get.vals, ← hx]
  have hv := num_Get.vals_lt l (s - j) (j + 1)
  refine num_Get.step _ _ hv.1 ?_ hx0.1 hx0.2
  by_cases h8 : s - j ≤ 8
  · exact Int.lt_of_lt_of_le hv.2 (by
      have : (128 : Int) ^ (s - j) ≤ 128 ^ 8 := by
        have := Nat.pow_le_pow_right (n := 128) (by decide) h8
        exact_mod_cast this
      exact Int.le_trans this (by decide))
  · have e9 : s - j = 8 + 1 := by omega
    rw [e9]
    have ht := num_Get.vals_top l 8 (j + 1) (by
      have : j + 1 + 8 = s := by omega
      rw [this]
      have : s = 9 := by omega
      omega)
    exact Int.lt_of_lt_of_le ht (by decide)

theorem num_Get.calls (A0 : Option Addr) (c0 : Nat) (l0 : List Int) (r1 : Int) (r2 : Int) (r3 : Int) (w : World) (hr0 : Kd.C (Kd.int .u8) w A0 l0.length l0) (hc0 : l0.length ≤ c0) (h : num_Get.f l0 = some (r1, r2, r3)) :
    Calls Tryd.prog 54 #[.slice A0 l0.length c0] w fun e w' => e = .returned (.tuple #[.int .u64 r1, .int .i64 r2, .int .i64 r3]) ∧ Drawn0 w w' := by
  have HR0 := Aside0.mk hr0
  clear hr0
  have H := Aside0.mk h
  clear h
  go_enter Tryd.func54, Tryd.ntmps54
  go_wp2
  go_step3
  go_wp2
  go_step3
  go_wp2
  go_loop [5] (fun v => ∃ s : Nat, v = .int .i64 s ∧ Aside0 (s ≤ 10 ∧ s ≤ l0.length ∧ num_Get.scan l0 (10 - s) s = num_Get.scan l0 10 0)) (fun v => 10 - (intOf v).toNat)
  case atStart => exact ⟨0, rfl, ⟨by omega, by omega, rfl⟩⟩
  case round =>
    obtain ⟨s, rfl, hs⟩ := hrel
    by_cases h10 : s = 10
    · subst h10
      go_wp2
      go_ret3
      have hr := num_Get.found l0 10 _ _ _ H.out (by rw [← hs.out.2.2]; rfl)
      rw [if_pos (.inl rfl)] at hr
      obtain ⟨rfl, rfl, rfl⟩ : 0 = r1 ∧ 0 = r2 ∧ 2 = r3 := by simpa using hr
      exact ⟨rfl, Drawn0.refl _⟩
    · have h10' : decide ((s : Int) < 10) = true := by have := hs.out; simp; omega
      have h10n : s < 10 := by have := hs.out; omega
      have HS := Aside0.mk (num_Get.scan_eq l0 s h10n)
      by_cases hl : s = l0.length
      · have hl' : ((s : Int) == (l0.length : Int)) = true := by simp; omega
        have hl2 := Aside0.mk hl
        clear hl
        go_wp2
        go_ret3
        have hr := num_Get.short l0 _ _ _ H.out (by rw [← hs.out.2.2, HS.out, if_pos hl2.out])
        obtain ⟨rfl, rfl, rfl⟩ : 0 = r1 ∧ 0 = r2 ∧ 3 = r3 := by simpa using hr
        exact ⟨rfl, Drawn0.refl _⟩
      · have hl' : ((s : Int) == (l0.length : Int)) = false := by simp; omega
        have hlt : s < l0.length := by have := hs.out; omega
        obtain ⟨ad, e, hx⟩ := Kd.at_int HR0.out s (by omega) (by omega)
        cases e
        have hx' : w.cell? (ad.add s) = some (.int .u8 (rd l0 s)) := hx
        clear hx
        by_cases hb : rd l0 s < 128
        · have hb' : decide (rd l0 s < 128) = true := by simpa using hb
          have HF := Aside0.mk (num_Get.found l0 s _ _ _ H.out (by rw [← hs.out.2.2, HS.out, if_neg hl, if_pos hb]))
          have hrg := num_Get.range l0 _ H.out s hlt
          by_cases hbad : (s = 9 ∧ rd l0 s > 1) ∨ (0 < s ∧ rd l0 s = 0)
          · have e : (0, 0, 2) = (r1, r2, r3) := by have := HF.out; rw [if_pos (.inr hbad)] at this; exact this
            obtain ⟨rfl, rfl, rfl⟩ : 0 = r1 ∧ 0 = r2 ∧ 2 = r3 := by simpa using e
            clear e
            have e10 : ((s : Int) == 10) = false := by simp; omega
            by_cases h9 : s = 9
            · have e9 : ((s : Int) == 9) = true := by simp; omega
              have h9' := Aside0.mk h9
              clear h9
              by_cases h1 : rd l0 s > 1
              · have e1 : decide (1 < rd l0 s) = true := by simpa using h1
                go_wp2
                go_ret3
                exact ⟨rfl, Drawn0.refl _⟩
              · have e1 : decide (1 < rd l0 s) = false := by simpa using h1
                have e0 : (rd l0 s == 0) = true := by simp; omega
                have ep : decide (0 < s) = true := by have := h9'.out; simp; omega
                clear h1
                go_wp2
                go_ret3
                exact ⟨rfl, Drawn0.refl _⟩
            · have e9 : ((s : Int) == 9) = false := by simp; omega
              have e0 : (rd l0 s == 0) = true := by simp; omega
              have ep : decide (0 < s) = true := by simp; omega
              go_wp2
              go_ret3
              exact ⟨rfl, Drawn0.refl _⟩
          · have e : (num_Get.vals l0 0 (s + 1), (s : Int) + 1, 0) = (r1, r2, r3) := by have := HF.out; rw [if_neg (by omega)] at this; exact this
            obtain ⟨rfl, rfl, rfl⟩ : num_Get.vals l0 0 (s + 1) = r1 ∧ (s : Int) + 1 = r2 ∧ 0 = r3 := by simpa using e
            have HR := Aside0.mk (num_Get.range l0 _ H.out)
            have HG := Aside0.mk (num_Get.goes l0 s h10n hrg.1 hb hbad)
            have e10 : ((s : Int) == 10) = false := by simp; omega
            have HW : ((s : Int) == 9) = true ∧ decide (1 < rd l0 s) = false ∧ decide (0 < s) = true ∧ (rd l0 s == 0) = false ∨ ((s : Int) == 9) = false ∧ decide (0 < s) = true ∧ (rd l0 s == 0) = false ∨ ((s : Int) == 9) = false ∧ decide (0 < s) = false := by
              simp
              omega
            clear e HF H hs HS hbad hrg hb
            rcases HW with ⟨e9, e1, ep, e0⟩ | ⟨e9, ep, e0⟩ | ⟨e9, ep⟩
            all_goals
              go_wp2
              go_loop [6, 7] (fun v6 v7 => ∃ i : Int, v7 = .int .i64 i ∧ -1 ≤ i ∧ i ≤ s ∧ v6 = .int .u64 (num_Get.vals l0 (i + 1).toNat (s - i).toNat)) (fun _ v7 => (intOf v7 + 1).toNat)
              case atStart => exact ⟨s, rfl, by omega, by omega, by simp [num_Get.vals]⟩
              case round =>
                obtain ⟨i, rfl, hi0, hi1, rfl⟩ := hrel
                by_cases hc : 0 ≤ i
                · obtain ⟨ad', e', hxi⟩ := Kd.at_int HR0.out i hc (by omega)
                  obtain rfl : ad = ad' := by injection e'
                  have HS := Aside0.mk (HG.out i hc hi1 _ rfl (by have := HR.out i.toNat (by omega); rwa [Int.toNat_of_nonneg hc] at this))
                  have hi2 : i < (l0.length : Int) := by omega
                  go_wp2
                  go_round
                  case rel => exact ⟨i - 1, rfl, by omega, by omega, by rw [← HS.out]⟩
                  case measure => simp [intOf]; omega
                · have hc' : i = -1 := by omega
                  subst hc'
                  go_wp2
                  go_ret3
                  exact ⟨rfl, Drawn0.refl _⟩
        · have hb' : decide (rd l0 s < 128) = false := by simpa using hb
          go_wp2
          go_round
          case rel => exact ⟨s + 1, by go_num, by have := hs.out; omega, by omega, by rw [← hs.out.2.2, HS.out, if_neg hl, if_neg hb]⟩
          case measure => simp [intOf]; omega

/-! ### bytes_Equal: function 55 -/
def bytes_Equal.f (l0 : List Int) (l1 : List Int) : Option (Bool) := some ((strOfNums l0).toList == (strOfNums l1).toList)
set_option maxHeartbeats 8000000 in
set_option maxRecDepth 100000 in
theorem bytes_Equal.calls (A0 : Option Addr) (c0 : Nat) (l0 : List Int) (A1 : Option Addr) (c1 : Nat) (l1 : List Int) (r : Bool) (w : World) (hr0 : Kd.C (Kd.int .u8) w A0 l0.length l0) (hc0 : l0.length ≤ c0) (hr1 : Kd.C (Kd.int .u8) w A1 l1.length l1) (hc1 : l1.length ≤ c1) (h : bytes_Equal.f l0 l1 = some r) :
    Calls Tryd.prog 55 #[.slice A0 l0.length c0, .slice A1 l1.length c1] w fun e w' => e = .returned (.bool r) ∧ Drawn0 w w' := by
  have HR0 := Aside0.mk hr0
  have HC0 := Aside0.mk hc0
  clear hr0 hc0
  have HR1 := Aside0.mk hr1
  have HC1 := Aside0.mk hc1
  clear hr1 hc1
  have H : (some ((strOfNums l0).toList == (strOfNums l1).toList)) = some r := h
  clear h
  obtain rfl := Option.some.inj H
  have hcv3 := Kd.C_string (P := Tryd.prog) (A := A0) (c := c0) Tryd.underlying22 Tryd.underlying5 Tryd.underlying9 HR0.out
  have hcv4 := Kd.C_string (P := Tryd.prog) (A := A1) (c := c1) Tryd.underlying22 Tryd.underlying5 Tryd.underlying9 HR1.out
  go_enter Tryd.func55, Tryd.ntmps55
  go_wp2
  go_ret
  exact ⟨by first | rfl | (simp; done) | (simp [*]; done), by repeat (first | exact Drawn0.refl _ | apply Drawn0.step)⟩

end Go.Proofs.YtnnlmackofopeaaDoor.PFr
