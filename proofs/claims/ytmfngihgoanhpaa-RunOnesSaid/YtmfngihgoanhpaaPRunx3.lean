/- Contracts of Go functions: called with what reads as these lists and numbers, a function returns what its plain Lean function says, and leaves what was there. Written by a program of this session. -/
import Derived.Test.YtmfngihgoanhpaaPRunx0
import Derived.Test.YtmfngihgoanhpaaPRunx2
namespace Go.Proofs.Ytmfngihgoanhpaa.PRun
open Go.RowKit Go.Proofs.YtmfngihgoanhpaaW.PrintWords Go.Proofs.YtmfngihgoanhpaaW.PrintLast Go.Proofs.YtmfngihgoanhpaaW.PrintMore
attribute [local go_sem] max2_int min2_int max_two min_two max_three min_three max_four min_four   -- for this text's walks alone
attribute [local go_sem] Go.Proofs.Ytmfngihgoanhpaa.MoreWords.str_leq Go.Proofs.Ytmfngihgoanhpaa.MoreWords.str_gtr Go.Proofs.Ytmfngihgoanhpaa.MoreWords.str_geq
set_option linter.unusedVariables false
set_option linter.unusedSimpArgs false

/-! ### crc_More: function 48 -/
/-- One step of a byte. -/
def crc_More.s1 (c : Int) : Int := if Go.bits .and .u32 c 1 = 1 then Go.bits .xor .u32 (c / 2) 3988292384 else c / 2
def crc_More.it : Nat → Int → Int
  | 0, c => c
  | k + 1, c => crc_More.s1 (crc_More.it k c)
def crc_More.cells (l : List Int) : Array Value := (l.map (Value.int .u32)).toArray
def crc_More.zeros : Array Value := crc_More.cells (List.replicate 256 0)
/-- The table, when i of its places are filled. -/
def crc_More.tab (i : Nat) : List Int := (List.range i).map (fun (j : Nat) => crc_More.it 8 (j : Int)) ++ List.replicate (256 - i) 0
theorem crc_More.zero (w : World) : (zeroValue 82).run Try.prog w = .ok (.agg crc_More.zeros) w := by kernel_rfl
theorem crc_More.size : (Try.prog.info? 82).map (·.size) = some 256 := by kernel_rfl

theorem crc_More.cells_size (l : List Int) : (crc_More.cells l).size = l.length := by simp [crc_More.cells]
theorem crc_More.tab_len (i : Nat) (h : i ≤ 256) : (crc_More.tab i).length = 256 := by simp [crc_More.tab]; omega
theorem crc_More.tab_zero : crc_More.cells (crc_More.tab 0) = crc_More.zeros := rfl
theorem crc_More.one_all (l : List Int) : (crc_More.cells l).all (·.oneCell') = true := by
  rw [Array.all_eq_true_iff_forall_mem]
  intro v hv
  simp only [crc_More.cells, List.mem_toArray, List.mem_map] at hv
  obtain ⟨x, _, rfl⟩ := hv
  rfl
theorem crc_More.tab_set (i : Nat) (h : i < 256) : (crc_More.tab i).set i (crc_More.it 8 i) = crc_More.tab (i + 1) := by
  unfold crc_More.tab
  rw [List.set_append_right _ _ (by simp), List.range_succ, List.map_append]
  obtain ⟨m, hm⟩ : ∃ m, 256 - i = m + 1 := ⟨255 - i, by omega⟩
  rw [hm, show 256 - (i + 1) = m by omega]
  simp [List.replicate_succ]
theorem crc_More.cell_at (w : World) (g i : Nat) (l : List Int) (hl : i < l.length) (hg : w.heap[g]? = some (.cells (crc_More.cells l) 82 (0, 0))) : w.cell? ⟨g, i, none⟩ = some (.int .u32 (l.getD i 0)) := by
  rw [cell_of_row w g i _ 82 _ hg, List.getD_eq_getElem?_getD]
  unfold crc_More.cells
  rw [List.getElem?_toArray, List.getElem?_map, List.getElem?_eq_getElem hl]
  rfl
/-- A place of a row is written. -/
theorem crc_More.put (w : World) (g i : Nat) (l : List Int) (v : Int) (hg : w.heap[g]? = some (.cells (crc_More.cells l) 82 (0, 0))) :
    (w.setCell ⟨g, i, none⟩ (.int .u32 v)).heap[g]? = some (.cells (crc_More.cells (l.set i v)) 82 (0, 0)) := by
  rw [heap_setCell_same w g i _ 82 _ hg]
  congr 2
  unfold crc_More.cells
  rw [List.map_set]
  simp
set_option maxHeartbeats 1000000 in
set_option maxRecDepth 100000 in
theorem crc_table.calls (w : World) :
    Calls Try.prog 49 #[] w fun e w' => e = .returned (.agg (crc_More.cells (crc_More.tab 256))) ∧ Below w.heap.size w w' := by
  have hz := crc_More.zero
  go_enter Try.func49, Try.ntmps49
  go_wp2
  clear hz
  obtain ⟨g, hg⟩ : ∃ g, g = w.heap.size := ⟨_, rfl⟩
  have HG := Aside0.mk hg
  rw [← hg]
  clear hg
  go_loopw [5] (fun v wr => ∃ i : Nat, v = .int .i64 i ∧ i ≤ 256 ∧ Aside0 (Below w.heap.size w wr ∧ wr.heap[g]? = some (.cells crc_More.zeros 82 (0, 0)) ∧ wr.heap[g + 1]? = some (.cells (crc_More.cells (crc_More.tab i)) 82 (0, 0)))) (fun v _ => 256 - (intOf v).toNat)
  case atStart =>
    exact ⟨0, rfl, by omega, ⟨below_alloc (below_alloc (Below.refl _ _) _) _, by rw [HG.out]; exact heap_alloc2_old w _ _, by rw [HG.out, crc_More.tab_zero]; exact heap_alloc2_new w _ _⟩⟩
  case round =>
    obtain ⟨i, rfl, hi, H⟩ := hrel
    by_cases hlt : i < 256
    · go_wp2
      go_loop [3, 4, 10] (fun v3 _ v10 => ∃ k : Nat, v10 = .int .i64 k ∧ k ≤ 8 ∧ v3 = .int .u32 (crc_More.it k i)) (fun _ _ v => 8 - (intOf v).toNat)
      case atStart => exact ⟨0, rfl, by omega, by simp only [crc_More.it]⟩
      case round =>
        obtain ⟨k, rfl, hk, rfl⟩ := hrel
        by_cases hk8 : k < 8
        · have e : crc_More.it (k + 1) i = crc_More.s1 (crc_More.it k i) := rfl
          have E := Aside0.mk e
          clear e
          by_cases hb : Go.bits .and .u32 (crc_More.it k i) 1 = 1
          · have hb' : (Go.bits .and .u32 (crc_More.it k i) 1 == 1) = true := by simpa using hb
            have HB := Aside0.mk hb
            clear hb
            go_wp2
            go_round
            case rel => exact ⟨k + 1, by go_num, by omega, by rw [E.out, crc_More.s1, if_pos HB.out]⟩
            case measure => simp [intOf]; omega
          · have hb' : (Go.bits .and .u32 (crc_More.it k i) 1 == 1) = false := by simpa using hb
            have HB := Aside0.mk hb
            clear hb
            go_wp2
            go_round
            case rel => exact ⟨k + 1, by go_num, by omega, by rw [E.out, crc_More.s1, if_neg HB.out]⟩
            case measure => simp [intOf]; omega
        · have hk9 : k = 8 := by omega
          subst hk9
          have hfz := frozen_of_row wr (g + 1) i _ 82 H.out.2.2
          have hcl := crc_More.cell_at wr (g + 1) i _ (by rw [crc_More.tab_len i hi]; exact hlt) H.out.2.2
          go_wp2
          go_roundw
          case rel => exact ⟨i + 1, by go_num, by omega, ⟨H.out.1.setCell (by rw [HG.out]; exact Nat.le_succ _) _, (heap_setCell_other wr ⟨g + 1, i, none⟩ g _ (by simp)).trans H.out.2.1, by rw [← crc_More.tab_set i hlt]; exact crc_More.put wr (g + 1) i _ _ H.out.2.2⟩⟩
          case measure => simp [intOf]; omega
    · have h256 : i = 256 := by omega
      subst h256
      have hu := Try.underlying82
      have hs : (Try.prog.info? 82).map (·.size) = some (crc_More.cells (crc_More.tab 256)).size := by rw [crc_More.cells_size, crc_More.tab_len 256 (Nat.le_refl _)]; exact crc_More.size
      have hs' : crc_More.zeros.size = (crc_More.cells (crc_More.tab 256)).size := by rw [crc_More.cells_size, crc_More.tab_len 256 (Nat.le_refl _), crc_More.zeros, crc_More.cells_size]; simp
      have ho := crc_More.one_all (crc_More.tab 256)
      have HS := Aside0.mk hs
      have HS' := Aside0.mk hs'
      have HO := Aside0.mk ho
      clear hs hs' ho
      go_wp2_with (first | (refine wpList_load_row rfl 82 (.tmp 1) rfl (g + 1) rfl 82 _ _ _ H.out.2.2 hu rfl HS.out ?_) | (refine wpList_store_row rfl 82 (.tmp 0) (.tmp 25) rfl g _ rfl rfl 82 _ H.out.2.1 HS.out HS'.out HO.out ?_))
      have hg2 := setRow_heap wr g _ (crc_More.cells (crc_More.tab 256)) 82 _ H.out.2.1
      exact bodyPost_ret (results_cell_row rfl _ _ g 82 _ _ _ rfl hg2 hu rfl HS.out) rfl ⟨rfl, below_setRow H.out.1 (by rw [HG.out]; exact Nat.le_refl _) _⟩
def crc_More.step (c x : Int) : Int := Go.bits .xor .u32 ((crc_More.tab 256).getD (Go.bits .xor .u8 (c % 256) x).toNat 0) (c / 256)
theorem crc_More.u8_range (a b : Int) : 0 ≤ Go.bits .xor .u8 a b ∧ Go.bits .xor .u8 a b < 256 := by
  unfold Go.bits
  simp only [IntKind.wrap_u8]
  omega
def crc_More.raw (c : Int) (l : List Int) : Int := Go.bits .xor .u32 4294967295 (l.foldl crc_More.step (Go.bits .xor .u32 4294967295 c))
def crc_More.f (c : Int) (l : List Int) : Option Int := some (crc_More.raw c l)
set_option maxHeartbeats 1000000 in
set_option maxRecDepth 100000 in
theorem crc_More.calls (a0 : Int) (A1 : Option Addr) (c1 : Nat) (l1 : List Int) (r : Int) (w : World) (hr1 : Kd.C (Kd.int .u8) w A1 l1.length l1) (hc1 : l1.length ≤ c1) (h : crc_More.f a0 l1 = some r) :
    Calls Try.prog 48 #[.int .u32 a0, .slice A1 l1.length c1] w fun e w' => e = .returned (.int .u32 r) ∧ Below w.heap.size w w' := by
  have hz := crc_More.zero
  have HR := Aside0.mk hr1
  have H : Aside0 (crc_More.raw a0 l1 = r) := ⟨Option.some.inj (show some (crc_More.raw a0 l1) = some r from h)⟩
  have hlen : l1.length ≤ 9223372036854775807 := hr1.2.1
  clear hr1 h
  have hs : (Try.prog.info? 82).map (·.size) = some (crc_More.cells (crc_More.tab 256)).size := by rw [crc_More.cells_size, crc_More.tab_len 256 (Nat.le_refl _)]; exact crc_More.size
  have hs' : crc_More.zeros.size = (crc_More.cells (crc_More.tab 256)).size := by rw [crc_More.cells_size, crc_More.tab_len 256 (Nat.le_refl _), crc_More.zeros, crc_More.cells_size]; simp
  have HS := Aside0.mk hs
  have HS' := Aside0.mk hs'
  have HO := Aside0.mk (crc_More.one_all (crc_More.tab 256))
  clear hs hs'
  go_enter Try.func48, Try.ntmps48
  go_wp2_with (first | (go_at_call 49; refine (crc_table.calls _).mono ?_; rintro e w1 ⟨rfl, hb⟩; have HB := Aside0.mk hb; clear hb) | (refine wpList_store_row rfl 82 (.tmp 5) (.tmp 8) rfl w1.heap.size _ rfl rfl 82 _ (heap_alloc_new w1 _) HS.out HS'.out HO.out ?_))
  have hg := setRow_heap (w1.alloc (.cells crc_More.zeros 82)) w1.heap.size _ (crc_More.cells (crc_More.tab 256)) 82 _ (heap_alloc_new w1 _)
  have hb : Below w.heap.size w ((w1.alloc (.cells crc_More.zeros 82)).setRow w1.heap.size (crc_More.cells (crc_More.tab 256))) := below_setRow (below_alloc HB.out _) HB.out.size _
  have HG := Aside0.mk hg
  have HB2 := Aside0.mk hb
  clear hg hb HB hz
  generalize (w1.alloc (.cells crc_More.zeros 82)).setRow w1.heap.size (crc_More.cells (crc_More.tab 256)) = W at *
  generalize w1.heap.size = g at *
  go_loop [0, 13] (fun v0 v13 => ∃ k : Nat, v13 = .int .i64 k ∧ k ≤ l1.length ∧ v0 = .int .u32 ((l1.take k).foldl crc_More.step (Go.bits .xor .u32 4294967295 a0))) (fun _ v => l1.length - (intOf v).toNat)
  case atStart => exact ⟨0, rfl, Nat.zero_le _, by simp [IntKind.max, IntKind.bits, IntKind.signed]⟩
  case round =>
    obtain ⟨k, rfl, hk, rfl⟩ := hrel
    by_cases hlt : k < l1.length
    · obtain ⟨ad, e, hx⟩ := Kd.at_int (Kd.C_below HR.out HB2.out) k (by omega) (by omega)
      cases e
      have hx' : W.cell? (ad.add k) = some (.int .u8 (rd l1 k)) := hx
      clear hx
      have hs : (l1.take (k + 1)).foldl crc_More.step (Go.bits .xor .u32 4294967295 a0) = crc_More.step ((l1.take k).foldl crc_More.step (Go.bits .xor .u32 4294967295 a0)) (rd l1 k) := by
        have e : rd l1 k = l1[k] := by
          unfold rd
          rw [Int.toNat_natCast, List.getD_eq_getElem?_getD, List.getElem?_eq_getElem hlt, Option.getD_some]
        rw [e, ← List.take_append_getElem hlt, List.foldl_append]
        rfl
      have HS2 := Aside0.mk hs
      clear hs
      generalize (l1.take k).foldl crc_More.step (Go.bits .xor .u32 4294967295 a0) = c at *
      have hj := crc_More.u8_range (c % 256) (rd l1 k)
      obtain ⟨j, hj'⟩ : ∃ j, j = Go.bits .xor .u8 (c % 256) (rd l1 k) := ⟨_, rfl⟩
      rw [← hj'] at hj
      have HJ := Aside0.mk hj'
      have hcl := crc_More.cell_at W g j.toNat _ (by rw [crc_More.tab_len 256 (Nat.le_refl _)]; omega) HG.out
      rw [hj'] at hcl hj
      clear hj'
      go_wp2
      go_round
      case rel => exact ⟨k + 1, by go_num, by omega, by rw [HS2.out]; rfl⟩
      case measure => simp [intOf]; omega
    · have hk2 : l1.take k = l1 := List.take_of_length_le (by omega)
      have HK := Aside0.mk hk2
      clear hk2
      go_wp2
      go_ret
      exact ⟨by rw [HK.out, ← H.out]; rfl, HB2.out⟩
/-- A literal's row, marked or not, reads as its bytes. -/
theorem crc_More.const_row (w : World) (l : List Int) (e : TypeId) (fr : Nat × Nat) (hl : l.length ≤ 1000) : Kd.C (Kd.int .u8) (w.alloc (.cells (l.map (Value.int .u8)).toArray e fr)) (some ⟨w.heap.size, 0, none⟩) l.length l := by
  refine ⟨rfl, by omega, fun _ => ⟨⟨w.heap.size, 0, none⟩, rfl, fun j p hp => ⟨[.int .u8 p], rfl, rfl, fun i u hu => ?_⟩⟩⟩
  have hi : i = 0 := by
    have := (List.getElem?_eq_some_iff.1 hu).1
    simp at this
    omega
  subst hi
  have hu' : Value.int .u8 p = u := by simpa using hu
  subst hu'
  rw [add_plain, cell_of_row _ w.heap.size _ _ e fr (heap_alloc_new w _)]
  simp [Kd.int, Kd.scalar, hp]

/-! ### crc_Of: function 44 -/
def crc_Of.f (l0 : List Int) : Option (Int) := (crc_More.f 0 l0).bind fun t140 => (some t140)
set_option maxHeartbeats 8000000 in
set_option maxRecDepth 100000 in
theorem crc_Of.calls (A0 : Option Addr) (c0 : Nat) (l0 : List Int) (r : Int) (w : World) (hr0 : Kd.C (Kd.int .u8) w A0 l0.length l0) (hc0 : l0.length ≤ c0) (h : crc_Of.f l0 = some r) :
    Calls Try.prog 44 #[.slice A0 l0.length c0] w fun e w' => e = .returned (.int .u32 r) ∧ Below w.heap.size w w' := by
  have HR0 := Aside0.mk hr0
  have HC0 := Aside0.mk hc0
  clear hr0 hc0
  have HB := Aside0.mk (Below.refl w.heap.size w)
  have H : ((crc_More.f 0 l0).bind fun t140 => (some t140)) = some r := h
  clear h
  replace H := Option.bind_eq_some_iff.mp H
  obtain ⟨t140, A20, H⟩ := H
  replace H : (some t140) = some r := H
  have A2 := Aside0.mk A20
  clear A20
  obtain rfl := Option.some.inj H
  go_enter Try.func44, Try.ntmps44
  go_wp2_with (first | ((with_reducible refine gate_callee (f := 48) rfl ?_); refine goesL_ (some 4) rfl rfl Try.func48 (by kernel_rfl) rfl #[.int .u32 0, .slice A0 l0.length c0] rfl (by (try simp only [List.map_toArray, List.map_cons, List.map_nil]); first | done | rfl | (simp only [List.length_drop, List.length_take]; rfl)) ?_; (with_reducible refine (crc_More.calls 0 _ _ l0 t140 _ ?side1 ?side2 A2.out).mono ?_); (case side1 => repeat (first | exact HR0.out | (with_reducible refine Kd.C_alloc ?_ _) | (with_reducible refine Kd.C_drewN ?_ _) | (with_reducible refine Kd.C_drew ?_))); (case side2 => exact HC0.out); rintro e w3 ⟨rfl, hb⟩; refine ⟨_, rfl, ?_⟩; have n0_ := Aside0.mk (below_step (by repeat (first | (with_reducible first | exact HB.out | apply below_alloc | apply pw_below_drewN | apply below_drew1) | exact HB.out)) hb); clear HB; have HB := n0_; clear n0_; (try clear hb); (try clear hb2); (try clear hk); (try clear hi)))
  go_ret
  exact ⟨by first | rfl | (simp [errW_none, errW_some] <;> rfl) | (simp [*, errW_none, errW_some] <;> rfl), by repeat (first | (with_reducible first | exact HB.out | apply below_alloc | apply pw_below_drewN | apply below_drew1) | exact HB.out)⟩

/-! ### frame_sum: function 38 -/
def frame_sum.l0 : Nat → Int → List Int → Int → Option (List Int)
  | 0, _, _, _ => none
  | k + 1, x3, x4, x8 => if x8 < 4 then (if 0 ≤ (wrap64 (8 * x8)) then (if x4.length < 140737488355328 then (frame_sum.l0 k x3 (x4 ++ [(shr .u32 x3 (wrap64 (8 * x8))) % 256]) (wrap64 (x8 + 1))) else (none)) else (none)) else (some x4)
def frame_sum.f (k : Nat) (l0 : List Int) : Option (List Int) := (crc_Of.f l0).bind fun t141 => (frame_sum.l0 k t141 ([] : List Int) 0)
theorem frame_sum.mono_l : ∀ k, (∀ y0 y1 y2, LeO (frame_sum.l0 k y0 y1 y2) (frame_sum.l0 (k + 1) y0 y1 y2))
  | 0 => fun _ _ _ r h => by simp [frame_sum.l0] at h
  | k + 1 => by
    have ih0 := frame_sum.mono_l k
    · intro y0 y1 y2
      unfold frame_sum.l0
      repeat' first
      | (with_reducible exact ih0 _ _ _)
      | (with_reducible exact LeO.refl _)
      | (with_reducible exact LeO.none _)
      | (with_reducible refine LeO.ite ?_ ?_)
      | (with_reducible refine LeO.bind ?_ (fun _ => ?_))
      | exact ih0 _ _ _
      | exact LeO.none _
      | refine LeO.ite ?_ ?_
      | refine LeO.bind ?_ (fun _ => ?_)
theorem frame_sum.mono : ∀ a0 k, LeO (frame_sum.f k a0) (frame_sum.f (k + 1) a0) := by
  intro a0 k
  have ih0 := frame_sum.mono_l k
  unfold frame_sum.f
  repeat' first
      | (with_reducible exact ih0 _ _ _)
      | (with_reducible exact LeO.refl _)
      | (with_reducible exact LeO.none _)
      | (with_reducible refine LeO.ite ?_ ?_)
      | (with_reducible refine LeO.bind ?_ (fun _ => ?_))
      | exact ih0 _ _ _
      | exact LeO.none _
      | refine LeO.ite ?_ ?_
      | refine LeO.bind ?_ (fun _ => ?_)
set_option maxHeartbeats 8000000 in
set_option maxRecDepth 100000 in
theorem frame_sum.calls (k : Nat) (A0 : Option Addr) (c0 : Nat) (l0 : List Int) (r : List Int) (w : World) (hr0 : Kd.C (Kd.int .u8) w A0 l0.length l0) (hc0 : l0.length ≤ c0) (h : frame_sum.f k l0 = some r) :
    Calls Try.prog 38 #[.slice A0 l0.length c0] w fun e w' => ∃ v0_ : Value, e = .returned (v0_) ∧ Kd.R (Kd.int .u8) 5 w' w.heap.size (fun _ => True) v0_ r ∧ Below w.heap.size w w' := by
  have HR0 := Aside0.mk hr0
  have HC0 := Aside0.mk hc0
  clear hr0 hc0
  have HB := Aside0.mk (Below.refl w.heap.size w)
  have H : ((crc_Of.f l0).bind fun t141 => (frame_sum.l0 k t141 ([] : List Int) 0)) = some r := h
  clear h
  replace H := Option.bind_eq_some_iff.mp H
  obtain ⟨t141, A20, H⟩ := H
  replace H : (frame_sum.l0 k t141 ([] : List Int) 0) = some r := H
  have A2 := Aside0.mk A20
  clear A20
  have H' := Aside0.mk H
  clear H
  go_enter Try.func38, Try.ntmps38
  go_wp2_with (first | ((with_reducible refine gate_callee (f := 44) rfl ?_); refine goesL_ (some 7) rfl rfl Try.func44 (by kernel_rfl) rfl #[.slice A0 l0.length c0] rfl (by (try simp only [List.map_toArray, List.map_cons, List.map_nil]); first | done | rfl | (simp only [List.length_drop, List.length_take]; rfl)) ?_; (with_reducible refine (crc_Of.calls _ _ l0 t141 _ ?side1 ?side2 A2.out).mono ?_); (case side1 => repeat (first | exact HR0.out | (with_reducible refine Kd.C_alloc ?_ _) | (with_reducible refine Kd.C_drewN ?_ _) | (with_reducible refine Kd.C_drew ?_))); (case side2 => exact HC0.out); rintro e w3 ⟨rfl, hb⟩; refine ⟨_, rfl, ?_⟩; have n0_ := Aside0.mk (below_step (by repeat (first | (with_reducible first | exact HB.out | apply below_alloc | apply pw_below_drewN | apply below_drew1) | exact HB.out)) hb); clear HB; have HB := n0_; clear n0_; (try clear hb); (try clear hb2); (try clear hk); (try clear hi)))
  go_loopg [4, 8] k (fun kq v4 v8 w' => ∃ (x4_1 : List Int) (x8_1 : Int), v8 = .int .i64 x8_1 ∧ Aside0 (frame_sum.l0 kq t141 x4_1 x8_1 = some r) ∧ Aside0 (kq ≤ k) ∧ Aside0 (Kd.R (Kd.int .u8) 5 w' w.heap.size (fun _ => True) v4 x4_1) ∧ Aside0 (Below w.heap.size w w'))
  case atStart => exact ⟨(([] : List Int)), (0), (by first | rfl | (simp; done) | (simp [*]; done)), H', ⟨Nat.le_refl _⟩, ⟨by first | exact Kd.R_nil _ _ _ _ _ | exact Kd.N_nil _ _ _ _ _ | exact Kd.V_nil _ _ _ _ _ | exact Kd.Q_nil _ _ _ _ _ | exact Kd.S_nil _ _ _ _ _⟩, ⟨by repeat (first | (with_reducible first | exact HB.out | apply below_alloc | apply pw_below_drewN | apply below_drew1) | exact HB.out)⟩⟩
  case round =>
    clear H'
    try clear p2
    try clear c3
    obtain ⟨x4_1, x8_1, rfl, HA, HK1, HO_4, HB⟩ := hrel
    cases gk with
    | zero => exact absurd HA.out (by simp [frame_sum.l0])
    | succ k1 =>
      have H := HA.out
      clear HA
      simp only [frame_sum.l0] at H
      by_cases c4 : x8_1 < 4
      · rw [if_pos c4] at H
        have c4b0 : decide (x8_1 < 4) = true := decide_eq_true c4
        clear c4
        obtain ⟨ji5, hji5⟩ : ∃ j_ : Int, (wrap64 (8 * x8_1)) = j_ := ⟨_, rfl⟩
        replace H : (if 0 ≤ (ji5) then (if x4_1.length < 140737488355328 then (frame_sum.l0 k1 t141 (x4_1 ++ [(shr .u32 t141 (ji5)) % 256]) (wrap64 (x8_1 + 1))) else (none)) else (none)) = some r := by first | (rw [hji5] at H; exact H) | (simp only [hji5] at H ⊢; exact H)
        have hji5w : (IntKind.i64.wrap (8 * x8_1)) = ji5 := (i64_w _).trans hji5
        by_cases c6 : 0 ≤ (ji5)
        · rw [if_pos c6] at H
          have c6b0 := eq_true c6
          have c6b1 : decide (0 ≤ (ji5)) = true := decide_eq_true c6
          clear c6
          obtain ⟨ji7, hji7⟩ : ∃ j_ : Int, (shr .u32 t141 (ji5)) = j_ := ⟨_, rfl⟩
          replace H : (if x4_1.length < 140737488355328 then (frame_sum.l0 k1 t141 (x4_1 ++ [(ji7) % 256]) (wrap64 (x8_1 + 1))) else (none)) = some r := by first | (rw [hji7] at H; exact H) | (simp only [hji7] at H ⊢; exact H)
          have hji7_ : (t141 / 2 ^ min (ji5).toNat 32) = ji7 := hji7
          have hji7z : (ji5) ≤ 32 → (t141 / 2 ^ (ji5).toNat) = ji7 := shr_small hji7
          by_cases c8 : x4_1.length < 140737488355328
          · rw [if_pos c8] at H
            have LMc8 := Aside0.mk c8
            clear c8
            obtain ⟨y142, hy142⟩ : ∃ y_ : List Int, y_ = (x4_1 ++ [(ji7) % 256]) := ⟨_, rfl⟩
            replace H : (frame_sum.l0 k1 t141 y142 (wrap64 (x8_1 + 1))) = some r := by first | (rw [hy142]; with_reducible exact H) | (have H2_ := (Option.bind_some _ _).symm.trans H; rw [hy142]; with_reducible exact H2_) | (have H2_ := (Option.bind_some _ _).symm.trans H; with_reducible exact H2_) | with_reducible exact H | (rw [hy142]; exact H) | exact H
            have Ny142 := Aside0.mk hy142
            clear hy142
            have H' := Aside0.mk H
            clear H
            go_wp2_with (first | ((with_reducible refine gate_builtin (b := .append) (xs := #[.tmp 11, .tmp 17]) rfl ?_); at_builtin; refine Kd.R_append (Kd.int .u8) (w0 := w) w.heap.size rfl (.tmp 11) (.tmp 17) 23 5 (.int .u8 0) 1 rfl Try.underlying23 info5 rfl (by decide) (by omega) u4 x4_1 ((ji7) % 256) [.int .u8 ((ji7) % 256)] (fun _ => True) (fun _ => False) rfl rfl ?aP (fun _ hk => hk.elim) ?aF ?aO ?aB ?aS ?aL ?_; (case aP => exact rfl); (case aB => exact (by repeat (first | (with_reducible first | exact HB.out | apply below_alloc | apply pw_below_drewN | apply below_drew1) | exact HB.out))); (case aF => exact (fun _ _ => trivial)); (case aO => exact (by (with_reducible repeat (first | apply Kd.R_alloc | apply Kd.R_drewN | apply Kd.R_drew)); exact HO_4.out)); (case aS => exact (below_size (by repeat (first | (with_reducible first | exact HB.out | apply below_alloc | apply pw_below_drewN | apply below_drew1) | exact HB.out)))); (case aL => have := LMc8.out; omega); intro v143 w9 ho hb hg hat; rw [← Ny142.out] at ho; have n0_ := Aside0.mk (hb); have n1_ := Aside0.mk (ho); clear HB; clear HO_4; have HB := n0_; have HO144 := n1_; clear n0_ n1_; clear ho hb hg hat))
            go_roundg k1
            case measure => have := HK1.out; omega
            case rel => exact ⟨(y142), (wrap64 (x8_1 + 1)), (by first | rfl | (simp; done) | (simp [*]; done)), H', ⟨by have := HK1.out; omega⟩, ⟨by (with_reducible repeat (first | apply Kd.R_alloc | apply Kd.R_drewN | apply Kd.R_drew)); exact HO144.out⟩, ⟨by repeat (first | (with_reducible first | exact HB.out | apply below_alloc | apply pw_below_drewN | apply below_drew1) | exact HB.out)⟩⟩
          · rw [if_neg c8] at H
            exact absurd H (by simp)
        · rw [if_neg c6] at H
          exact absurd H (by simp)
      · rw [if_neg c4] at H
        have c4b0 : decide (x8_1 < 4) = false := decide_eq_false c4
        clear c4
        obtain rfl := Option.some.inj H
        go_wp2
        go_ret
        exact ⟨_, by first | rfl | (simp [errW_none, errW_some] <;> rfl) | (simp [*, errW_none, errW_some] <;> rfl), by (with_reducible repeat (first | apply Kd.R_alloc | apply Kd.R_drewN | apply Kd.R_drew)); exact HO_4.out, by repeat (first | (with_reducible first | exact HB.out | apply below_alloc | apply pw_below_drewN | apply below_drew1) | exact HB.out)⟩

/-! ### frame_Put: function 22 -/
def frame_Put.f (k : Nat) (l0 : List Int) (l1 : List Int) : Option (List Int × Int) := if (l1.length : Int) > 1048576 then (some (([] : List Int), 6)) else ((num_Put.f k l0 (IntKind.u64.wrap ((l1.length : Int)))).bind fun t145 => (if t145.length + l1.length < 140737488355328 then ((some (t145 ++ l1 : List Int)).bind fun y148 => ((frame_sum.f k l1).bind fun t151 => (if y148.length + t151.length < 140737488355328 then (some ((y148 ++ t151), 0)) else (none)))) else (none)))
theorem frame_Put.mono : ∀ a0 a1 k, LeO (frame_Put.f k a0 a1) (frame_Put.f (k + 1) a0 a1) := by
  intro a0 a1 k
  unfold frame_Put.f
  repeat' first
      | (with_reducible exact frame_sum.mono _ _)
      | (with_reducible exact num_Put.mono _ _ _)
      | (with_reducible exact LeO.refl _)
      | (with_reducible exact LeO.none _)
      | (with_reducible refine LeO.ite ?_ ?_)
      | (with_reducible refine LeO.bind ?_ (fun _ => ?_))
      | exact frame_sum.mono _ _
      | exact num_Put.mono _ _ _
      | exact LeO.none _
      | refine LeO.ite ?_ ?_
      | refine LeO.bind ?_ (fun _ => ?_)
set_option maxHeartbeats 8000000 in
set_option maxRecDepth 100000 in
theorem frame_Put.calls (k : Nat) (A0 : Option Addr) (c0 : Nat) (l0 : List Int) (A1 : Option Addr) (c1 : Nat) (l1 : List Int) (r1 : List Int) (r2 : Int) (w : World) (hr0 : Kd.C (Kd.int .u8) w A0 l0.length l0) (hc0 : l0.length ≤ c0) (hr1 : Kd.C (Kd.int .u8) w A1 l1.length l1) (hc1 : l1.length ≤ c1) (h : frame_Put.f k l0 l1 = some (r1, r2)) :
    Calls Try.prog 22 #[.slice A0 l0.length c0, .slice A1 l1.length c1] w fun e w' => ∃ v0_ : Value, e = .returned (.tuple #[v0_, .int .i64 r2]) ∧ Kd.R (Kd.int .u8) 5 w' w.heap.size (fun _ => True) v0_ r1 ∧ Below w.heap.size w w' := by
  have HR0 := Aside0.mk hr0
  have HC0 := Aside0.mk hc0
  clear hr0 hc0
  have HR1 := Aside0.mk hr1
  have HC1 := Aside0.mk hc1
  clear hr1 hc1
  have HB := Aside0.mk (Below.refl w.heap.size w)
  have H : (if (l1.length : Int) > 1048576 then (some (([] : List Int), 6)) else ((num_Put.f k l0 (IntKind.u64.wrap ((l1.length : Int)))).bind fun t145 => (if t145.length + l1.length < 140737488355328 then ((some (t145 ++ l1 : List Int)).bind fun y148 => ((frame_sum.f k l1).bind fun t151 => (if y148.length + t151.length < 140737488355328 then (some ((y148 ++ t151), 0)) else (none)))) else (none)))) = some (r1, r2) := h
  clear h
  by_cases c3 : (l1.length : Int) > 1048576
  · rw [if_pos c3] at H
    have c3b0 : decide (1048576 < (l1.length : Int)) = true := decide_eq_true c3
    have c3b1 : decide (1048576 < l1.length) = true := decide_eq_true (by omega)
    clear c3
    simp only [Option.some.injEq, Prod.mk.injEq] at H
    obtain ⟨rfl, rfl⟩ := H
    go_enter Try.func22, Try.ntmps22
    go_wp2
    go_ret2
    exact ⟨_, by first | rfl | (simp [errW_none, errW_some] <;> rfl) | (simp [*, errW_none, errW_some] <;> rfl), by first | exact Kd.R_nil _ _ _ _ _ | exact Kd.N_nil _ _ _ _ _ | exact Kd.V_nil _ _ _ _ _ | exact Kd.Q_nil _ _ _ _ _ | exact Kd.S_nil _ _ _ _ _, by repeat (first | (with_reducible first | exact HB.out | apply below_alloc | apply pw_below_drewN | apply below_drew1) | exact HB.out)⟩
  · rw [if_neg c3] at H
    have c3b0 : decide (1048576 < (l1.length : Int)) = false := decide_eq_false c3
    have c3b1 : decide (1048576 < l1.length) = false := decide_eq_false (by omega)
    clear c3
    replace H := Option.bind_eq_some_iff.mp H
    obtain ⟨t145, A40, H⟩ := H
    replace H : (if t145.length + l1.length < 140737488355328 then ((some (t145 ++ l1 : List Int)).bind fun y148 => ((frame_sum.f k l1).bind fun t151 => (if y148.length + t151.length < 140737488355328 then (some ((y148 ++ t151), 0)) else (none)))) else (none)) = some (r1, r2) := H
    have A4 := Aside0.mk A40
    clear A40
    by_cases c5 : t145.length + l1.length < 140737488355328
    · rw [if_pos c5] at H
      have LMc5 := Aside0.mk c5
      clear c5
      obtain ⟨y148, hy148⟩ : ∃ y_ : List Int, y_ = (t145 ++ l1) := ⟨_, rfl⟩
      replace H : ((frame_sum.f k l1).bind fun t151 => (if y148.length + t151.length < 140737488355328 then (some ((y148 ++ t151), 0)) else (none))) = some (r1, r2) := by first | (rw [hy148]; with_reducible exact H) | (have H2_ := (Option.bind_some _ _).symm.trans H; rw [hy148]; with_reducible exact H2_) | (have H2_ := (Option.bind_some _ _).symm.trans H; with_reducible exact H2_) | with_reducible exact H | (rw [hy148]; exact H) | exact H
      have Ny148 := Aside0.mk hy148
      clear hy148
      replace H := Option.bind_eq_some_iff.mp H
      obtain ⟨t151, A60, H⟩ := H
      replace H : (if y148.length + t151.length < 140737488355328 then (some ((y148 ++ t151), 0)) else (none)) = some (r1, r2) := H
      have A6 := Aside0.mk A60
      clear A60
      by_cases c7 : y148.length + t151.length < 140737488355328
      · rw [if_pos c7] at H
        have LMc7 := Aside0.mk c7
        clear c7
        obtain ⟨y154, hy154⟩ : ∃ y_ : List Int, y_ = (y148 ++ t151) := ⟨_, rfl⟩
        replace H : (some (y154, 0)) = some (r1, r2) := by first | (rw [hy154]; with_reducible exact H) | (have H2_ := (Option.bind_some _ _).symm.trans H; rw [hy154]; with_reducible exact H2_) | (have H2_ := (Option.bind_some _ _).symm.trans H; with_reducible exact H2_) | with_reducible exact H | (rw [hy154]; exact H) | exact H
        have Ny154 := Aside0.mk hy154
        clear hy154
        simp only [Option.some.injEq, Prod.mk.injEq] at H
        obtain ⟨rfl, rfl⟩ := H
        go_enter Try.func22, Try.ntmps22
        go_wp2_with (first | ((with_reducible refine gate_callee (f := 19) rfl ?_); refine goesL_ (some 14) rfl rfl Try.func19 (by kernel_rfl) rfl #[.slice A0 l0.length c0, .int .u64 (IntKind.u64.wrap ((l1.length : Int)))] rfl (by (try simp only [List.map_toArray, List.map_cons, List.map_nil]); first | done | rfl | (simp only [List.length_drop, List.length_take]; rfl)) ?_; (with_reducible refine (num_Put.calls k _ _ l0 (IntKind.u64.wrap ((l1.length : Int))) t145 _ ?side1 ?side2 A4.out).mono ?_); (case side1 => repeat (first | exact HR0.out | (with_reducible refine Kd.C_alloc ?_ _) | (with_reducible refine Kd.C_drewN ?_ _) | (with_reducible refine Kd.C_drew ?_))); (case side2 => exact HC0.out); rintro e w8 ⟨v146, rfl, ho0, hb⟩; refine ⟨_, rfl, ?_⟩; have n0_ := Aside0.mk (Kd.R_lower ho0 (below_size (by repeat (first | (with_reducible first | exact HB.out | apply below_alloc | apply pw_below_drewN | apply below_drew1) | exact HB.out)))); have n1_ := Aside0.mk (below_step (by repeat (first | (with_reducible first | exact HB.out | apply below_alloc | apply pw_below_drewN | apply below_drew1) | exact HB.out)) hb); clear HB; have HO147 := n0_; have HB := n1_; clear n0_ n1_; (try clear hb); (try clear hb2); (try clear hk); (try clear hi); (try clear ho0)) | ((with_reducible refine gate_builtin (b := .append) (xs := #[.tmp 15, .tmp 16]) rfl ?_); at_builtin; refine Kd.R_append_rows (Kd.int .u8) (w0 := w) w.heap.size rfl (.tmp 15) (.tmp 16) 23 5 (.int .u8 0) 1 rfl Try.underlying23 info5 rfl (by decide) (by omega) v146 t145 l1 _ _ _ (fun _ => True) (fun _ => False) rfl rfl ?aO ?aR (fun _ _ h => h) (fun _ h => h.elim) ?aF ?aB ?aS ?aL ?_; (case aR => repeat (first | exact (Kd.C_below HR1.out HB.out) | (with_reducible refine Kd.C_alloc ?_ _) | (with_reducible refine Kd.C_drewN ?_ _) | (with_reducible refine Kd.C_drew ?_))); (case aB => exact (by repeat (first | (with_reducible first | exact HB.out | apply below_alloc | apply pw_below_drewN | apply below_drew1) | exact HB.out))); (case aF => exact (fun _ _ => trivial)); (case aO => exact (by (with_reducible repeat (first | apply Kd.R_alloc | apply Kd.R_drewN | apply Kd.R_drew)); exact HO147.out)); (case aS => exact (below_size (by repeat (first | (with_reducible first | exact HB.out | apply below_alloc | apply pw_below_drewN | apply below_drew1) | exact HB.out)))); (case aL => have := LMc5.out; omega); intro v149 w9 ho hb hg hat; rw [← Ny148.out] at ho; have n0_ := Aside0.mk (hb); have n1_ := Aside0.mk (ho); clear HB; clear HO147; have HB := n0_; have HO150 := n1_; clear n0_ n1_; clear ho hb hg hat) | ((with_reducible refine gate_callee (f := 38) rfl ?_); refine goesL_ (some 20) rfl rfl Try.func38 (by kernel_rfl) rfl #[.slice A1 l1.length c1] rfl (by (try simp only [List.map_toArray, List.map_cons, List.map_nil]); first | done | rfl | (simp only [List.length_drop, List.length_take]; rfl)) ?_; (with_reducible refine (frame_sum.calls k _ _ l1 t151 _ ?side1 ?side2 A6.out).mono ?_); (case side1 => repeat (first | exact (Kd.C_below HR1.out HB.out) | (with_reducible refine Kd.C_alloc ?_ _) | (with_reducible refine Kd.C_drewN ?_ _) | (with_reducible refine Kd.C_drew ?_))); (case side2 => exact HC1.out); rintro e w10 ⟨v152, rfl, ho0, hb⟩; refine ⟨_, rfl, ?_⟩; have n0_ := Aside0.mk (Kd.R_elder' (by (with_reducible repeat (first | apply Kd.R_alloc | apply Kd.R_drewN | apply Kd.R_drew)); exact HO150.out) (Kd.R_base ho0) hb); have n1_ := Aside0.mk (Kd.R_lower (Kd.R_new' ho0 (Kd.R_lt (by (with_reducible repeat (first | apply Kd.R_alloc | apply Kd.R_drewN | apply Kd.R_drew)); exact HO150.out))) (below_size (by repeat (first | (with_reducible first | exact HB.out | apply below_alloc | apply pw_below_drewN | apply below_drew1) | exact HB.out)))); have n2_ := Aside0.mk (below_step (by repeat (first | (with_reducible first | exact HB.out | apply below_alloc | apply pw_below_drewN | apply below_drew1) | exact HB.out)) hb); clear HO150; clear HB; have HO150 := n0_; have HO153 := n1_; have HB := n2_; clear n0_ n1_ n2_; (try clear hb); (try clear hb2); (try clear hk); (try clear hi); (try clear ho0); obtain ⟨Ao12, co12, eo12⟩ := Kd.R_slice HO153.out; subst eo12) | ((with_reducible refine gate_builtin (b := .append) (xs := #[.tmp 18, .tmp 20]) rfl ?_); at_builtin; refine Kd.R_append_rows (Kd.int .u8) (w0 := w) w.heap.size rfl (.tmp 18) (.tmp 20) 23 5 (.int .u8 0) 1 rfl Try.underlying23 info5 rfl (by decide) (by omega) v149 y148 t151 _ _ _ (fun k_ => some k_ ≠ (.slice Ao12 t151.length co12 : Value).ownBlock) (fun _ => False) rfl rfl ?aO ?aR (fun _ _ h => h) (fun _ h => h.elim) ?aF ?aB ?aS ?aL ?_; (case aR => repeat (first | exact (Kd.R_reads' HO153.out).2.2 | (with_reducible refine Kd.C_alloc ?_ _) | (with_reducible refine Kd.C_drewN ?_ _) | (with_reducible refine Kd.C_drew ?_))); (case aB => exact (by repeat (first | (with_reducible first | exact HB.out | apply below_alloc | apply pw_below_drewN | apply below_drew1) | exact HB.out))); (case aF => exact (fun k_ hk => Kd.fresh' (Kd.R_lt (by (with_reducible repeat (first | apply Kd.R_alloc | apply Kd.R_drewN | apply Kd.R_drew)); exact HO153.out)) k_ hk)); (case aO => exact (by (with_reducible repeat (first | apply Kd.R_alloc | apply Kd.R_drewN | apply Kd.R_drew)); exact Kd.R_mono HO150.out (fun _ hk => hk.2))); (case aS => exact (below_size (by repeat (first | (with_reducible first | exact HB.out | apply below_alloc | apply pw_below_drewN | apply below_drew1) | exact HB.out)))); (case aL => have := LMc7.out; omega); intro v155 w11 ho hb hg hat; rw [← Ny154.out] at ho; have n0_ := Aside0.mk (Kd.R_after (ok := (fun _ => True)) (by (with_reducible repeat (first | apply Kd.R_alloc | apply Kd.R_drewN | apply Kd.R_drew)); exact HO153.out) hg hat); have n1_ := Aside0.mk (hb); have n2_ := Aside0.mk (ho); clear HO153; clear HB; clear HO150; have HO153 := n0_; have HB := n1_; have HO156 := n2_; clear n0_ n1_ n2_; clear ho hb hg hat))
        go_ret2
        exact ⟨_, by first | rfl | (simp [errW_none, errW_some] <;> rfl) | (simp [*, errW_none, errW_some] <;> rfl), by (with_reducible repeat (first | apply Kd.R_alloc | apply Kd.R_drewN | apply Kd.R_drew)); exact Kd.R_mono HO156.out (fun _ hk => trivial), by repeat (first | (with_reducible first | exact HB.out | apply below_alloc | apply pw_below_drewN | apply below_drew1) | exact HB.out)⟩
      · rw [if_neg c7] at H
        exact absurd H (by simp)
    · rw [if_neg c5] at H
      exact absurd H (by simp)

end Go.Proofs.Ytmfngihgoanhpaa.PRun
