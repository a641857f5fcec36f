/- Contracts of Go functions: called with what reads as these lists and numbers, a function returns what its plain Lean function says, and leaves what was there. Written by a program of this session. -/
import Derived.Test.YtlodjdghccejcaaPCrcx0
namespace Go.Proofs.Ytlodjdghccejcaa.PCrc
open Go.RowKit Go.Proofs.YtlodjdghccejcaaW.PrintWords Go.Proofs.YtlodjdghccejcaaW.PrintLast Go.Proofs.YtlodjdghccejcaaW.PrintMore
attribute [local go_sem] max2_int min2_int max_two min_two max_three min_three max_four min_four   -- for this text's walks alone
set_option linter.unusedVariables false
set_option linter.unusedSimpArgs false

-- NOT PRINTED: function 27 (crc_table)

/-! ### crc_More: function 16 -/
/-- One step of a byte. -/
def crc_More.s1 (c : Int) : Int := if Go.bits .and .u32 c 1 = 1 then Go.bits .xor .u32 (c / 2) 3988292384 else c / 2
def crc_More.it : Nat → Int → Int
  | 0, c => c
  | k + 1, c => crc_More.s1 (crc_More.it k c)
def crc_More.cells (l : List Int) : Array Value := (l.map (Value.int .u32)).toArray
def crc_More.zeros : Array Value := crc_More.cells (List.replicate 256 0)
/-- The table, when i of its places are filled. -/
def crc_More.tab (i : Nat) : List Int := (List.range i).map (fun (j : Nat) => crc_More.it 8 (j : Int)) ++ List.replicate (256 - i) 0
theorem crc_More.zero (w : World) : (zeroValue 52).run Try.prog w = .ok (.agg crc_More.zeros) w := by kernel_rfl
theorem crc_More.size : (Try.prog.info? 52).map (·.size) = some 256 := by kernel_rfl

theorem crc_More.cells_size (l : List Int) : (crc_More.cells l).size = l.length := by simp [crc_More.cells]
theorem crc_More.tab_len (i : Nat) (h : i ≤ 256) : (crc_More.tab i).length = 256 := by simp [crc_More.tab]; omega
theorem crc_More.tab_zero : crc_More.cells (crc_More.tab 0) = crc_More.zeros := rfl
theorem crc_More.one_all (l : List Int) : (crc_More.cells l).all (·.oneCell') = true := by
  rw [Array.all_eq_true_iff_forall_mem]
  intro v hv
  simp only [crc_More.cells, List.mem_toArray, List.mem_map] at hv
  obtain ⟨x, _, rfl⟩ := hv
  rfl
theorem crc_More.tab_set (i : Nat) (h : i < 256) : (crc_More.tab i).set i (crc_More.it 8 i) = crc_More.tab (i + 1) := by
  unfold crc_More.tab
  rw [List.set_append_right _ _ (by simp), List.range_succ, List.map_append]
  obtain ⟨m, hm⟩ : ∃ m, 256 - i = m + 1 := ⟨255 - i, by omega⟩
  rw [hm, show 256 - (i + 1) = m by omega]
  simp [List.replicate_succ]
theorem crc_More.cell_at (w : World) (g i : Nat) (l : List Int) (hl : i < l.length) (hg : w.heap[g]? = some (.cells (crc_More.cells l) 52 (0, 0))) : w.cell? ⟨g, i, none⟩ = some (.int .u32 (l.getD i 0)) := by
  rw [cell_of_row w g i _ 52 _ hg, List.getD_eq_getElem?_getD]
  unfold crc_More.cells
  rw [List.getElem?_toArray, List.getElem?_map, List.getElem?_eq_getElem hl]
  rfl
/-- A place of a row is written. -/
theorem crc_More.put (w : World) (g i : Nat) (l : List Int) (v : Int) (hg : w.heap[g]? = some (.cells (crc_More.cells l) 52 (0, 0))) :
    (w.setCell ⟨g, i, none⟩ (.int .u32 v)).heap[g]? = some (.cells (crc_More.cells (l.set i v)) 52 (0, 0)) := by
  rw [heap_setCell_same w g i _ 52 _ hg]
  congr 2
  unfold crc_More.cells
  rw [List.map_set]
  simp
set_option maxHeartbeats 1000000 in
set_option maxRecDepth 100000 in
theorem crc_table.calls (w : World) :
    Calls Try.prog 27 #[] w fun e w' => e = .returned (.agg (crc_More.cells (crc_More.tab 256))) ∧ Below w.heap.size w w' := by
  have hz := crc_More.zero
  go_enter Try.func27, Try.ntmps27
  go_wp2
  clear hz
  obtain ⟨g, hg⟩ : ∃ g, g = w.heap.size := ⟨_, rfl⟩
  have HG := Aside0.mk hg
  rw [← hg]
  clear hg
  go_loopw [5] (fun v wr => ∃ i : Nat, v = .int .i64 i ∧ i ≤ 256 ∧ Aside0 (Below w.heap.size w wr ∧ wr.heap[g]? = some (.cells crc_More.zeros 52 (0, 0)) ∧ wr.heap[g + 1]? = some (.cells (crc_More.cells (crc_More.tab i)) 52 (0, 0)))) (fun v _ => 256 - (intOf v).toNat)
  case atStart =>
    exact ⟨0, rfl, by omega, ⟨below_alloc (below_alloc (Below.refl _ _) _) _, by rw [HG.out]; exact heap_alloc2_old w _ _, by rw [HG.out, crc_More.tab_zero]; exact heap_alloc2_new w _ _⟩⟩
  case round =>
    obtain ⟨i, rfl, hi, H⟩ := hrel
    by_cases hlt : i < 256
    · go_wp2
      go_loop [3, 4, 10] (fun v3 _ v10 => ∃ k : Nat, v10 = .int .i64 k ∧ k ≤ 8 ∧ v3 = .int .u32 (crc_More.it k i)) (fun _ _ v => 8 - (intOf v).toNat)
      case atStart => exact ⟨0, rfl, by omega, by simp only [crc_More.it]⟩
      case round =>
        obtain ⟨k, rfl, hk, rfl⟩ := hrel
        by_cases hk8 : k < 8
        · have e : crc_More.it (k + 1) i = crc_More.s1 (crc_More.it k i) := rfl
          have E := Aside0.mk e
          clear e
          by_cases hb : Go.bits .and .u32 (crc_More.it k i) 1 = 1
          · have hb' : (Go.bits .and .u32 (crc_More.it k i) 1 == 1) = true := by simpa using hb
            have HB := Aside0.mk hb
            clear hb
            go_wp2
            go_round
            case rel => exact ⟨k + 1, by go_num, by omega, by rw [E.out, crc_More.s1, if_pos HB.out]⟩
            case measure => simp [intOf]; omega
          · have hb' : (Go.bits .and .u32 (crc_More.it k i) 1 == 1) = false := by simpa using hb
            have HB := Aside0.mk hb
            clear hb
            go_wp2
            go_round
            case rel => exact ⟨k + 1, by go_num, by omega, by rw [E.out, crc_More.s1, if_neg HB.out]⟩
            case measure => simp [intOf]; omega
        · have hk9 : k = 8 := by omega
          subst hk9
          have hfz := frozen_of_row wr (g + 1) i _ 52 H.out.2.2
          have hcl := crc_More.cell_at wr (g + 1) i _ (by rw [crc_More.tab_len i hi]; exact hlt) H.out.2.2
          go_wp2
          go_roundw
          case rel => exact ⟨i + 1, by go_num, by omega, ⟨H.out.1.setCell (by rw [HG.out]; exact Nat.le_succ _) _, (heap_setCell_other wr ⟨g + 1, i, none⟩ g _ (by simp)).trans H.out.2.1, by rw [← crc_More.tab_set i hlt]; exact crc_More.put wr (g + 1) i _ _ H.out.2.2⟩⟩
          case measure => simp [intOf]; omega
    · have h256 : i = 256 := by omega
      subst h256
      have hu := Try.underlying52
      have hs : (Try.prog.info? 52).map (·.size) = some (crc_More.cells (crc_More.tab 256)).size := by rw [crc_More.cells_size, crc_More.tab_len 256 (Nat.le_refl _)]; exact crc_More.size
      have hs' : crc_More.zeros.size = (crc_More.cells (crc_More.tab 256)).size := by rw [crc_More.cells_size, crc_More.tab_len 256 (Nat.le_refl _), crc_More.zeros, crc_More.cells_size]; simp
      have ho := crc_More.one_all (crc_More.tab 256)
      have HS := Aside0.mk hs
      have HS' := Aside0.mk hs'
      have HO := Aside0.mk ho
      clear hs hs' ho
      go_wp2_with (first | (refine wpList_load_row rfl 52 (.tmp 1) rfl (g + 1) rfl 52 _ _ _ H.out.2.2 hu rfl HS.out ?_) | (refine wpList_store_row rfl 52 (.tmp 0) (.tmp 25) rfl g _ rfl rfl 52 _ H.out.2.1 HS.out HS'.out HO.out ?_))
      have hg2 := setRow_heap wr g _ (crc_More.cells (crc_More.tab 256)) 52 _ H.out.2.1
      exact bodyPost_ret (results_cell_row rfl _ _ g 52 _ _ _ rfl hg2 hu rfl HS.out) rfl ⟨rfl, below_setRow H.out.1 (by rw [HG.out]; exact Nat.le_refl _) _⟩
def crc_More.step (c x : Int) : Int := Go.bits .xor .u32 ((crc_More.tab 256).getD (Go.bits .xor .u8 (c % 256) x).toNat 0) (c / 256)
theorem crc_More.u8_range (a b : Int) : 0 ≤ Go.bits .xor .u8 a b ∧ Go.bits .xor .u8 a b < 256 := by
  unfold Go.bits
  simp only [IntKind.wrap_u8]
  omega
def crc_More.raw (c : Int) (l : List Int) : Int := Go.bits .xor .u32 4294967295 (l.foldl crc_More.step (Go.bits .xor .u32 4294967295 c))
def crc_More.f (c : Int) (l : List Int) : Option Int := some (crc_More.raw c l)
set_option maxHeartbeats 1000000 in
set_option maxRecDepth 100000 in
theorem crc_More.calls (a0 : Int) (A1 : Option Addr) (c1 : Nat) (l1 : List Int) (r : Int) (w : World) (hr1 : Kd.C (Kd.int .u8) w A1 l1.length l1) (hc1 : l1.length ≤ c1) (h : crc_More.f a0 l1 = some r) :
    Calls Try.prog 16 #[.int .u32 a0, .slice A1 l1.length c1] w fun e w' => e = .returned (.int .u32 r) ∧ Below w.heap.size w w' := by
  have hz := crc_More.zero
  have HR := Aside0.mk hr1
  have H : Aside0 (crc_More.raw a0 l1 = r) := ⟨Option.some.inj (show some (crc_More.raw a0 l1) = some r from h)⟩
  have hlen : l1.length ≤ 9223372036854775807 := hr1.2.1
  clear hr1 h
  have hs : (Try.prog.info? 52).map (·.size) = some (crc_More.cells (crc_More.tab 256)).size := by rw [crc_More.cells_size, crc_More.tab_len 256 (Nat.le_refl _)]; exact crc_More.size
  have hs' : crc_More.zeros.size = (crc_More.cells (crc_More.tab 256)).size := by rw [crc_More.cells_size, crc_More.tab_len 256 (Nat.le_refl _), crc_More.zeros, crc_More.cells_size]; simp
  have HS := Aside0.mk hs
  have HS' := Aside0.mk hs'
  have HO := Aside0.mk (crc_More.one_all (crc_More.tab 256))
  clear hs hs'
  go_enter Try.func16, Try.ntmps16
  go_wp2_with (first | (go_at_call 27; refine (crc_table.calls _).mono ?_; rintro e w1 ⟨rfl, hb⟩; have HB := Aside0.mk hb; clear hb) | (refine wpList_store_row rfl 52 (.tmp 5) (.tmp 8) rfl w1.heap.size _ rfl rfl 52 _ (heap_alloc_new w1 _) HS.out HS'.out HO.out ?_))
  have hg := setRow_heap (w1.alloc (.cells crc_More.zeros 52)) w1.heap.size _ (crc_More.cells (crc_More.tab 256)) 52 _ (heap_alloc_new w1 _)
  have hb : Below w.heap.size w ((w1.alloc (.cells crc_More.zeros 52)).setRow w1.heap.size (crc_More.cells (crc_More.tab 256))) := below_setRow (below_alloc HB.out _) HB.out.size _
  have HG := Aside0.mk hg
  have HB2 := Aside0.mk hb
  clear hg hb HB hz
  generalize (w1.alloc (.cells crc_More.zeros 52)).setRow w1.heap.size (crc_More.cells (crc_More.tab 256)) = W at *
  generalize w1.heap.size = g at *
  go_loop [0, 13] (fun v0 v13 => ∃ k : Nat, v13 = .int .i64 k ∧ k ≤ l1.length ∧ v0 = .int .u32 ((l1.take k).foldl crc_More.step (Go.bits .xor .u32 4294967295 a0))) (fun _ v => l1.length - (intOf v).toNat)
  case atStart => exact ⟨0, rfl, Nat.zero_le _, by simp [IntKind.max, IntKind.bits, IntKind.signed]⟩
  case round =>
    obtain ⟨k, rfl, hk, rfl⟩ := hrel
    by_cases hlt : k < l1.length
    · obtain ⟨ad, e, hx⟩ := Kd.at_int (Kd.C_below HR.out HB2.out) k (by omega) (by omega)
      cases e
      have hx' : W.cell? (ad.add k) = some (.int .u8 (rd l1 k)) := hx
      clear hx
      have hs : (l1.take (k + 1)).foldl crc_More.step (Go.bits .xor .u32 4294967295 a0) = crc_More.step ((l1.take k).foldl crc_More.step (Go.bits .xor .u32 4294967295 a0)) (rd l1 k) := by
        have e : rd l1 k = l1[k] := by
          unfold rd
          rw [Int.toNat_natCast, List.getD_eq_getElem?_getD, List.getElem?_eq_getElem hlt, Option.getD_some]
        rw [e, ← List.take_append_getElem hlt, List.foldl_append]
        rfl
      have HS2 := Aside0.mk hs
      clear hs
      generalize (l1.take k).foldl crc_More.step (Go.bits .xor .u32 4294967295 a0) = c at *
      have hj := crc_More.u8_range (c % 256) (rd l1 k)
      obtain ⟨j, hj'⟩ : ∃ j, j = Go.bits .xor .u8 (c % 256) (rd l1 k) := ⟨_, rfl⟩
      rw [← hj'] at hj
      have HJ := Aside0.mk hj'
      have hcl := crc_More.cell_at W g j.toNat _ (by rw [crc_More.tab_len 256 (Nat.le_refl _)]; omega) HG.out
      rw [hj'] at hcl hj
      clear hj'
      go_wp2
      go_round
      case rel => exact ⟨k + 1, by go_num, by omega, by rw [HS2.out]; rfl⟩
      case measure => simp [intOf]; omega
    · have hk2 : l1.take k = l1 := List.take_of_length_le (by omega)
      have HK := Aside0.mk hk2
      clear hk2
      go_wp2
      go_ret
      exact ⟨by rw [HK.out, ← H.out]; rfl, HB2.out⟩
/-- A literal's row, marked or not, reads as its bytes. -/
theorem crc_More.const_row (w : World) (l : List Int) (e : TypeId) (fr : Nat × Nat) (hl : l.length ≤ 1000) : Kd.C (Kd.int .u8) (w.alloc (.cells (l.map (Value.int .u8)).toArray e fr)) (some ⟨w.heap.size, 0, none⟩) l.length l := by
  refine ⟨rfl, by omega, fun _ => ⟨⟨w.heap.size, 0, none⟩, rfl, fun j p hp => ⟨[.int .u8 p], rfl, rfl, fun i u hu => ?_⟩⟩⟩
  have hi : i = 0 := by
    have := (List.getElem?_eq_some_iff.1 hu).1
    simp at this
    omega
  subst hi
  have hu' : Value.int .u8 p = u := by simpa using hu
  subst hu'
  rw [add_plain, cell_of_row _ w.heap.size _ _ e fr (heap_alloc_new w _)]
  simp [Kd.int, Kd.scalar, hp]

/-! ### crc_Of: function 14 -/
def crc_Of.f (l0 : List Int) : Option (Int) := (crc_More.f 0 l0).bind fun t101 => (some t101)
set_option maxHeartbeats 8000000 in
set_option maxRecDepth 100000 in
theorem crc_Of.calls (A0 : Option Addr) (c0 : Nat) (l0 : List Int) (r : Int) (w : World) (hr0 : Kd.C (Kd.int .u8) w A0 l0.length l0) (hc0 : l0.length ≤ c0) (h : crc_Of.f l0 = some r) :
    Calls Try.prog 14 #[.slice A0 l0.length c0] w fun e w' => e = .returned (.int .u32 r) ∧ Below w.heap.size w w' := by
  have HR0 := Aside0.mk hr0
  have HC0 := Aside0.mk hc0
  clear hr0 hc0
  have HB := Aside0.mk (Below.refl w.heap.size w)
  have H : ((crc_More.f 0 l0).bind fun t101 => (some t101)) = some r := h
  clear h
  replace H := Option.bind_eq_some_iff.mp H
  obtain ⟨t101, A20, H⟩ := H
  replace H : (some t101) = some r := H
  have A2 := Aside0.mk A20
  clear A20
  obtain rfl := Option.some.inj H
  go_enter Try.func14, Try.ntmps14
  go_wp2_with (first | ((with_reducible refine gate_callee (f := 16) rfl ?_); refine goesL_ (some 4) rfl rfl Try.func16 (by kernel_rfl) rfl #[.int .u32 0, .slice A0 l0.length c0] rfl (by (try simp only [List.map_toArray, List.map_cons, List.map_nil]); first | done | rfl | (simp only [List.length_drop, List.length_take]; rfl)) ?_; (with_reducible refine (crc_More.calls 0 _ _ l0 t101 _ ?side1 ?side2 A2.out).mono ?_); (case side1 => repeat (first | exact HR0.out | (with_reducible refine Kd.C_alloc ?_ _) | (with_reducible refine Kd.C_drewN ?_ _) | (with_reducible refine Kd.C_drew ?_))); (case side2 => exact HC0.out); rintro e w3 ⟨rfl, hb⟩; refine ⟨_, rfl, ?_⟩; have n0_ := Aside0.mk (below_step (by repeat (first | (with_reducible first | exact HB.out | apply below_alloc | apply pw_below_drewN | apply below_drew1) | exact HB.out)) hb); clear HB; have HB := n0_; clear n0_; (try clear hb); (try clear hb2); (try clear hk); (try clear hi)))
  go_ret
  exact ⟨by first | rfl | (simp [errW_none, errW_some] <;> rfl) | (simp [*, errW_none, errW_some] <;> rfl), by repeat (first | (with_reducible first | exact HB.out | apply below_alloc | apply pw_below_drewN | apply below_drew1) | exact HB.out)⟩

/-! ### manteletlaw02_shown: function 13 -/
theorem manteletlaw02_shown.sum : crc_Of.f [49, 50, 51, 52, 53, 54, 55, 56, 57] = some 3421780262 := by decide +kernel
def manteletlaw02_shown.f : Option Bool := some true
theorem manteletlaw02_shown.calls (r : Bool) (w : World) (h : manteletlaw02_shown.f = some r) :
    Calls Try.prog 13 #[] w fun e w' => e = .returned (.bool r) ∧ Below w.heap.size w w' := by
  obtain rfl : true = r := Option.some.inj h
  clear h
  have kc := fun (w : World) (C : Array Value) (n c : Nat) => Lib.run_convert_bytes_const (P := Try.prog) w 22 5 C n c Try.underlying22 Try.underlying5
  go_enter Try.func13, Try.ntmps13
  have hof : Aside0 (crc_Of.f [49, 50, 51, 52, 53, 54, 55, 56, 57] = some 3421780262) := ⟨manteletlaw02_shown.sum⟩
  go_wp2_with fail
  refine (crc_Of.calls (some ⟨w.heap.size, 0, none⟩) 9 [49, 50, 51, 52, 53, 54, 55, 56, 57] 3421780262 _ (crc_More.const_row w [49, 50, 51, 52, 53, 54, 55, 56, 57] 5 (9, 10) (by decide)) (by decide) hof.out).mono ?_
  rintro e w' ⟨rfl, hb⟩
  have HB := Aside0.mk hb
  clear hb
  go_wp2
  go_ret
  exact ⟨rfl, below_then (below_alloc (Below.refl _ _) _) (by simp) HB.out⟩

/-! ### manteletref02_More: function 17 -/
mutual
def manteletref02_More.l0 : Nat → Int → List Int → Int → Option (Int)
  | 0, _, _, _ => none
  | k + 1, x0, x1, x5 => if x5 < (x1.length : Int) then (if 0 ≤ x5 then (manteletref02_More.l1 k (Go.bits .xor .u32 x0 ((rd x1 x5) % 4294967296)) x1 x5 0) else (none)) else (some ((4294967295 - x0) % 4294967296))
def manteletref02_More.l1 : Nat → Int → List Int → Int → Int → Option (Int)
  | 0, _, _, _, _ => none
  | k + 1, x0, x1, x5, x6 => if x6 < 8 then (if (Int.tmod x0 2) = 1 then (manteletref02_More.l1 k (Go.bits .xor .u32 ((Int.tdiv x0 2) % 4294967296) 3988292384) x1 x5 (wrap64 (x6 + 1))) else (manteletref02_More.l1 k ((Int.tdiv x0 2) % 4294967296) x1 x5 (wrap64 (x6 + 1)))) else (manteletref02_More.l0 k x0 x1 (wrap64 (x5 + 1)))
end
def manteletref02_More.f (k : Nat) (a0 : Int) (l1 : List Int) : Option (Int) := manteletref02_More.l0 k ((4294967295 - a0) % 4294967296) l1 0
theorem manteletref02_More.mono_l : ∀ k, (∀ y0 y1 y2, LeO (manteletref02_More.l0 k y0 y1 y2) (manteletref02_More.l0 (k + 1) y0 y1 y2)) ∧ (∀ y0 y1 y2 y3, LeO (manteletref02_More.l1 k y0 y1 y2 y3) (manteletref02_More.l1 (k + 1) y0 y1 y2 y3))
  | 0 => ⟨fun _ _ _ r h => by simp [manteletref02_More.l0] at h, fun _ _ _ _ r h => by simp [manteletref02_More.l1] at h⟩
  | k + 1 => by
    obtain ⟨ih0, ih1⟩ := manteletref02_More.mono_l k
    refine ⟨?_, ?_⟩
    · intro y0 y1 y2
      unfold manteletref02_More.l0
      repeat' first
      | (with_reducible exact ih0 _ _ _)
      | (with_reducible exact ih1 _ _ _ _)
      | (with_reducible exact LeO.refl _)
      | (with_reducible exact LeO.none _)
      | (with_reducible refine LeO.ite ?_ ?_)
      | (with_reducible refine LeO.bind ?_ (fun _ => ?_))
      | exact ih0 _ _ _
      | exact ih1 _ _ _ _
      | exact LeO.none _
      | refine LeO.ite ?_ ?_
      | refine LeO.bind ?_ (fun _ => ?_)
    · intro y0 y1 y2 y3
      unfold manteletref02_More.l1
      repeat' first
      | (with_reducible exact ih0 _ _ _)
      | (with_reducible exact ih1 _ _ _ _)
      | (with_reducible exact LeO.refl _)
      | (with_reducible exact LeO.none _)
      | (with_reducible refine LeO.ite ?_ ?_)
      | (with_reducible refine LeO.bind ?_ (fun _ => ?_))
      | exact ih0 _ _ _
      | exact ih1 _ _ _ _
      | exact LeO.none _
      | refine LeO.ite ?_ ?_
      | refine LeO.bind ?_ (fun _ => ?_)
theorem manteletref02_More.mono : ∀ a0 a1 k, LeO (manteletref02_More.f k a0 a1) (manteletref02_More.f (k + 1) a0 a1) := by
  intro a0 a1 k
  obtain ⟨ih0, ih1⟩ := manteletref02_More.mono_l k
  unfold manteletref02_More.f
  repeat' first
      | (with_reducible exact ih0 _ _ _)
      | (with_reducible exact ih1 _ _ _ _)
      | (with_reducible exact LeO.refl _)
      | (with_reducible exact LeO.none _)
      | (with_reducible refine LeO.ite ?_ ?_)
      | (with_reducible refine LeO.bind ?_ (fun _ => ?_))
      | exact ih0 _ _ _
      | exact ih1 _ _ _ _
      | exact LeO.none _
      | refine LeO.ite ?_ ?_
      | refine LeO.bind ?_ (fun _ => ?_)
set_option maxHeartbeats 8000000 in
set_option maxRecDepth 100000 in
theorem manteletref02_More.calls (k : Nat) (a0 : Int) (A1 : Option Addr) (c1 : Nat) (l1 : List Int) (r : Int) (w : World) (hr1 : Kd.C (Kd.int .u8) w A1 l1.length l1) (hc1 : l1.length ≤ c1) (h : manteletref02_More.f k a0 l1 = some r) :
    Calls Try.prog 17 #[.int .u32 a0, .slice A1 l1.length c1] w fun e w' => e = .returned (.int .u32 r) ∧ Drawn0 w w' := by
  have HR1 := Aside0.mk hr1
  have HC1 := Aside0.mk hc1
  clear hr1 hc1
  have H : (manteletref02_More.l0 k ((4294967295 - a0) % 4294967296) l1 0) = some r := h
  clear h
  have H' := Aside0.mk H
  clear H
  go_enter Try.func17, Try.ntmps17
  go_wp2
  go_loopg [0, 5] k (fun kq v0 v5 w' => ∃ (x0_1 : Int) (x5_1 : Int), v0 = .int .u32 x0_1 ∧ v5 = .int .i64 x5_1 ∧ Aside0 (manteletref02_More.l0 kq x0_1 l1 x5_1 = some r) ∧ Aside0 (kq ≤ k) ∧ Drawn0 w w')
  case atStart => exact ⟨((4294967295 - a0) % 4294967296), (0), (by first | rfl | (simp; done) | (simp [*]; done)), (by first | rfl | (simp; done) | (simp [*]; done)), H', ⟨Nat.le_refl _⟩, by repeat (first | exact Drawn0.refl _ | apply Drawn0.step)⟩
  case round =>
    clear H'
    try clear c1
    try clear p2
    obtain ⟨x0_1, x5_1, rfl, rfl, HA, HK1, ⟨m1, rfl⟩⟩ := hrel
    cases gk with
    | zero => exact absurd HA.out (by simp [manteletref02_More.l0])
    | succ k1 =>
      have H := HA.out
      clear HA
      simp only [manteletref02_More.l0] at H
      by_cases c3 : x5_1 < (l1.length : Int)
      · rw [if_pos c3] at H
        have c3b0 : decide (x5_1 < (l1.length : Int)) = true := decide_eq_true c3
        clear c3
        by_cases c4 : 0 ≤ x5_1
        · rw [if_pos c4] at H
          have c4b0 : decide (0 ≤ x5_1) = true := decide_eq_true c4
          clear c4
          have H' := Aside0.mk H
          clear H
          have p102 : 0 ≤ (x5_1 : Int) := of_decide_eq_true (by first | (with_reducible assumption) | assumption)
          have q102 : x5_1 < (l1.length : Int) := of_decide_eq_true (by first | (with_reducible assumption) | assumption)
          obtain ⟨ad102, e102, hx102_0⟩ := Kd.at_int HR1.out x5_1 p102 q102
          cases e102
          replace p102 := eq_true p102
          replace q102 := eq_true q102
          go_wp2
          go_loopg [0, 6] k1 (fun kq v0 v6 w' => ∃ (x0_2 : Int) (x6_2 : Int), v0 = .int .u32 x0_2 ∧ v6 = .int .i64 x6_2 ∧ Aside0 (manteletref02_More.l1 kq x0_2 l1 x5_1 x6_2 = some r) ∧ Aside0 (kq ≤ k1) ∧ Drawn0 w w')
          case atStart => exact ⟨(Go.bits .xor .u32 x0_1 ((rd l1 x5_1) % 4294967296)), (0), (by first | rfl | (simp; done) | (simp [*]; done)), (by first | rfl | (simp; done) | (simp [*]; done)), H', ⟨Nat.le_refl _⟩, by repeat (first | exact Drawn0.refl _ | apply Drawn0.step)⟩
          case round =>
            clear H'
            try clear c1
            try clear p1
            try clear q1
            try clear hx1
            try clear p2
            try clear c3
            try clear c3b0
            try clear c4
            try clear c4b0
            try clear hx102_0
            try clear p102
            try clear p2
            try clear q102
            obtain ⟨x0_2, x6_2, rfl, rfl, HA, HK2, ⟨m2, rfl⟩⟩ := hrel
            cases gk with
            | zero => exact absurd HA.out (by simp [manteletref02_More.l1])
            | succ k2 =>
              have H := HA.out
              clear HA
              simp only [manteletref02_More.l1] at H
              by_cases c5 : x6_2 < 8
              · rw [if_pos c5] at H
                have c5b0 : decide (x6_2 < 8) = true := decide_eq_true c5
                clear c5
                by_cases c6 : (Int.tmod x0_2 2) = 1
                · rw [if_pos c6] at H
                  have c6b0 : ((Int.tmod x0_2 2) == 1) = true := beq_iff_eq.mpr c6
                  have c6b1 : ((Int.tmod x0_2 2) != 1) = false := bne_eq_false_iff_eq.mpr c6
                  clear c6
                  have H' := Aside0.mk H
                  clear H
                  go_wp2
                  go_roundg k2
                  case measure => have := HK1.out; have := HK2.out; omega
                  case rel => exact ⟨(Go.bits .xor .u32 ((Int.tdiv x0_2 2) % 4294967296) 3988292384), (wrap64 (x6_2 + 1)), (by first | rfl | (simp; done) | (simp [*]; done)), (by first | rfl | (simp; done) | (simp [*]; done)), H', ⟨by have := HK1.out; have := HK2.out; omega⟩, by repeat (first | exact Drawn0.refl _ | apply Drawn0.step)⟩
                · rw [if_neg c6] at H
                  have c6b0 : ((Int.tmod x0_2 2) == 1) = false := beq_eq_false_iff_ne.mpr c6
                  have c6b1 : ((Int.tmod x0_2 2) != 1) = true := bne_iff_ne.mpr c6
                  have H' := Aside0.mk H
                  clear H
                  go_wp2
                  go_roundg k2
                  case measure => have := HK1.out; have := HK2.out; omega
                  case rel => exact ⟨((Int.tdiv x0_2 2) % 4294967296), (wrap64 (x6_2 + 1)), (by first | rfl | (simp; done) | (simp [*]; done)), (by first | rfl | (simp; done) | (simp [*]; done)), H', ⟨by have := HK1.out; have := HK2.out; omega⟩, by repeat (first | exact Drawn0.refl _ | apply Drawn0.step)⟩
              · rw [if_neg c5] at H
                have c5b0 : decide (x6_2 < 8) = false := decide_eq_false c5
                clear c5
                have H' := Aside0.mk H
                clear H
                go_wp2
                go_roundg k2
                case measure => have := HK1.out; have := HK2.out; omega
                case rel => exact ⟨(x0_2), (wrap64 (x5_1 + 1)), (by first | rfl | (simp; done) | (simp [*]; done)), (by first | rfl | (simp; done) | (simp [*]; done)), H', ⟨by have := HK1.out; have := HK2.out; omega⟩, by repeat (first | exact Drawn0.refl _ | apply Drawn0.step)⟩
        · rw [if_neg c4] at H
          exact absurd H (by simp)
      · rw [if_neg c3] at H
        have c3b0 : decide (x5_1 < (l1.length : Int)) = false := decide_eq_false c3
        clear c3
        obtain rfl := Option.some.inj H
        go_wp2
        go_ret
        exact ⟨by first | rfl | (simp; done) | (simp [*]; done), by repeat (first | exact Drawn0.refl _ | apply Drawn0.step)⟩

/-! ### manteletref02_Of: function 15 -/
def manteletref02_Of.f (k : Nat) (l0 : List Int) : Option (Int) := (manteletref02_More.f k 0 l0).bind fun t103 => (some t103)
theorem manteletref02_Of.mono : ∀ a0 k, LeO (manteletref02_Of.f k a0) (manteletref02_Of.f (k + 1) a0) := by
  intro a0 k
  unfold manteletref02_Of.f
  repeat' first
      | (with_reducible exact manteletref02_More.mono _ _ _)
      | (with_reducible exact LeO.refl _)
      | (with_reducible exact LeO.none _)
      | (with_reducible refine LeO.ite ?_ ?_)
      | (with_reducible refine LeO.bind ?_ (fun _ => ?_))
      | exact manteletref02_More.mono _ _ _
      | exact LeO.none _
      | refine LeO.ite ?_ ?_
      | refine LeO.bind ?_ (fun _ => ?_)
set_option maxHeartbeats 8000000 in
set_option maxRecDepth 100000 in
theorem manteletref02_Of.calls (k : Nat) (A0 : Option Addr) (c0 : Nat) (l0 : List Int) (r : Int) (w : World) (hr0 : Kd.C (Kd.int .u8) w A0 l0.length l0) (hc0 : l0.length ≤ c0) (h : manteletref02_Of.f k l0 = some r) :
    Calls Try.prog 15 #[.slice A0 l0.length c0] w fun e w' => e = .returned (.int .u32 r) ∧ Drawn0 w w' := by
  have HR0 := Aside0.mk hr0
  have HC0 := Aside0.mk hc0
  clear hr0 hc0
  have H : ((manteletref02_More.f k 0 l0).bind fun t103 => (some t103)) = some r := h
  clear h
  replace H := Option.bind_eq_some_iff.mp H
  obtain ⟨t103, A20, H⟩ := H
  replace H : (some t103) = some r := H
  have A2 := Aside0.mk A20
  clear A20
  obtain rfl := Option.some.inj H
  go_enter Try.func15, Try.ntmps15
  go_wp2_with (first | ((with_reducible refine gate_callee (f := 17) rfl ?_); refine goesL_ (some 4) rfl rfl Try.func17 (by kernel_rfl) rfl #[.int .u32 0, .slice A0 l0.length c0] rfl (by (try simp only [List.map_toArray, List.map_cons, List.map_nil]); first | done | rfl | (simp only [List.length_drop, List.length_take]; rfl)) ?_; (with_reducible refine (manteletref02_More.calls k 0 _ _ l0 t103 _ ?side1 ?side2 A2.out).mono ?_); (case side1 => repeat (first | exact HR0.out | (with_reducible refine Kd.C_alloc ?_ _) | (with_reducible refine Kd.C_drewN ?_ _) | (with_reducible refine Kd.C_drew ?_))); (case side2 => exact HC0.out); rintro e w' ⟨rfl, ⟨nd, rfl⟩⟩; refine ⟨_, rfl, ?_⟩))
  go_ret
  exact ⟨by first | rfl | (simp; done) | (simp [*]; done), by repeat (first | exact Drawn0.refl _ | apply Drawn0.step)⟩

/-! ### manteletlaw02_CrcSums: function 3 -/
def manteletlaw02_CrcSums.f (k : Nat) (l0 : List Int) (a1 : Int) : Option (Bool) := (manteletlaw02_shown.f).bind fun t104 => (if (l0.length : Int) > 20000 then (some t104) else (if t104 = true then ((crc_Of.f l0).bind fun t105 => ((manteletref02_Of.f k l0).bind fun t106 => (if t105 = t106 then ((crc_More.f a1 l0).bind fun t107 => ((manteletref02_More.f k a1 l0).bind fun t108 => (some (t107 == t108)))) else (none)))) else (none)))
theorem manteletlaw02_CrcSums.mono : ∀ a0 a1 k, LeO (manteletlaw02_CrcSums.f k a0 a1) (manteletlaw02_CrcSums.f (k + 1) a0 a1) := by
  intro a0 a1 k
  unfold manteletlaw02_CrcSums.f
  repeat' first
      | (with_reducible exact manteletref02_More.mono _ _ _)
      | (with_reducible exact manteletref02_Of.mono _ _)
      | (with_reducible exact LeO.refl _)
      | (with_reducible exact LeO.none _)
      | (with_reducible refine LeO.ite ?_ ?_)
      | (with_reducible refine LeO.bind ?_ (fun _ => ?_))
      | exact manteletref02_More.mono _ _ _
      | exact manteletref02_Of.mono _ _
      | exact LeO.none _
      | refine LeO.ite ?_ ?_
      | refine LeO.bind ?_ (fun _ => ?_)
set_option maxHeartbeats 8000000 in
set_option maxRecDepth 100000 in
theorem manteletlaw02_CrcSums.calls (k : Nat) (A0 : Option Addr) (c0 : Nat) (l0 : List Int) (a1 : Int) (r : Bool) (w : World) (hr0 : Kd.C (Kd.int .u8) w A0 l0.length l0) (hc0 : l0.length ≤ c0) (h : manteletlaw02_CrcSums.f k l0 a1 = some r) :
    Calls Try.prog 3 #[.slice A0 l0.length c0, .int .u32 a1] w fun e w' => e = .returned (.bool r) ∧ Below w.heap.size w w' := by
  have HR0 := Aside0.mk hr0
  have HC0 := Aside0.mk hc0
  clear hr0 hc0
  have HB := Aside0.mk (Below.refl w.heap.size w)
  have H : ((manteletlaw02_shown.f).bind fun t104 => (if (l0.length : Int) > 20000 then (some t104) else (if t104 = true then ((crc_Of.f l0).bind fun t105 => ((manteletref02_Of.f k l0).bind fun t106 => (if t105 = t106 then ((crc_More.f a1 l0).bind fun t107 => ((manteletref02_More.f k a1 l0).bind fun t108 => (some (t107 == t108)))) else (none)))) else (none)))) = some r := h
  clear h
  replace H := Option.bind_eq_some_iff.mp H
  obtain ⟨t104, A30, H⟩ := H
  replace H : (if (l0.length : Int) > 20000 then (some t104) else (if t104 = true then ((crc_Of.f l0).bind fun t105 => ((manteletref02_Of.f k l0).bind fun t106 => (if t105 = t106 then ((crc_More.f a1 l0).bind fun t107 => ((manteletref02_More.f k a1 l0).bind fun t108 => (some (t107 == t108)))) else (none)))) else (none))) = some r := H
  have A3 := Aside0.mk A30
  clear A30
  by_cases c4 : (l0.length : Int) > 20000
  · rw [if_pos c4] at H
    have c4b0 : decide (20000 < (l0.length : Int)) = true := decide_eq_true c4
    have c4b1 : decide (20000 < l0.length) = true := decide_eq_true (by omega)
    clear c4
    obtain rfl := Option.some.inj H
    go_enter Try.func3, Try.ntmps3
    go_wp2_with (first | ((with_reducible refine gate_callee (f := 13) rfl ?_); refine goesL_ (some 6) rfl rfl Try.func13 (by kernel_rfl) rfl #[] rfl (by (try simp only [List.map_toArray, List.map_cons, List.map_nil]); first | done | rfl | (simp only [List.length_drop, List.length_take]; rfl)) ?_; (with_reducible refine (manteletlaw02_shown.calls  t104 _ A3.out).mono ?_); rintro e w5 ⟨rfl, hb⟩; refine ⟨_, rfl, ?_⟩; have n0_ := Aside0.mk (below_step (by repeat (first | (with_reducible first | exact HB.out | apply below_alloc | apply pw_below_drewN | apply below_drew1) | exact HB.out)) hb); clear HB; have HB := n0_; clear n0_; (try clear hb); (try clear hb2); (try clear hk); (try clear hi)))
    go_ret
    exact ⟨by first | rfl | (simp [errW_none, errW_some] <;> rfl) | (simp [*, errW_none, errW_some] <;> rfl), by repeat (first | (with_reducible first | exact HB.out | apply below_alloc | apply pw_below_drewN | apply below_drew1) | exact HB.out)⟩
  · rw [if_neg c4] at H
    have c4b0 : decide (20000 < (l0.length : Int)) = false := decide_eq_false c4
    have c4b1 : decide (20000 < l0.length) = false := decide_eq_false (by omega)
    clear c4
    by_cases c6 : t104 = true
    · subst c6
      have H1 : ((crc_Of.f l0).bind fun t105 => ((manteletref02_Of.f k l0).bind fun t106 => (if t105 = t106 then ((crc_More.f a1 l0).bind fun t107 => ((manteletref02_More.f k a1 l0).bind fun t108 => (some (t107 == t108)))) else (none)))) = some r := by rw [if_pos rfl] at H; exact H
      clear H
      have H := H1
      clear H1
      replace H := Option.bind_eq_some_iff.mp H
      obtain ⟨t105, A70, H⟩ := H
      replace H : ((manteletref02_Of.f k l0).bind fun t106 => (if t105 = t106 then ((crc_More.f a1 l0).bind fun t107 => ((manteletref02_More.f k a1 l0).bind fun t108 => (some (t107 == t108)))) else (none))) = some r := H
      have A7 := Aside0.mk A70
      clear A70
      replace H := Option.bind_eq_some_iff.mp H
      obtain ⟨t106, A80, H⟩ := H
      replace H : (if t105 = t106 then ((crc_More.f a1 l0).bind fun t107 => ((manteletref02_More.f k a1 l0).bind fun t108 => (some (t107 == t108)))) else (none)) = some r := H
      have A8 := Aside0.mk A80
      clear A80
      by_cases c9 : t105 = t106
      · rw [if_pos c9] at H
        have c9b0 : (t105 == t106) = true := beq_iff_eq.mpr c9
        have c9b1 : (t105 != t106) = false := bne_eq_false_iff_eq.mpr c9
        clear c9
        replace H := Option.bind_eq_some_iff.mp H
        obtain ⟨t107, A100, H⟩ := H
        replace H : ((manteletref02_More.f k a1 l0).bind fun t108 => (some (t107 == t108))) = some r := H
        have A10 := Aside0.mk A100
        clear A100
        replace H := Option.bind_eq_some_iff.mp H
        obtain ⟨t108, A110, H⟩ := H
        replace H : (some (t107 == t108)) = some r := H
        have A11 := Aside0.mk A110
        clear A110
        obtain rfl := Option.some.inj H
        go_enter Try.func3, Try.ntmps3
        go_wp2_with (first | ((with_reducible refine gate_callee (f := 13) rfl ?_); refine goesL_ (some 6) rfl rfl Try.func13 (by kernel_rfl) rfl #[] rfl (by (try simp only [List.map_toArray, List.map_cons, List.map_nil]); first | done | rfl | (simp only [List.length_drop, List.length_take]; rfl)) ?_; (with_reducible refine (manteletlaw02_shown.calls  true _ A3.out).mono ?_); rintro e w12 ⟨rfl, hb⟩; refine ⟨_, rfl, ?_⟩; have n0_ := Aside0.mk (below_step (by repeat (first | (with_reducible first | exact HB.out | apply below_alloc | apply pw_below_drewN | apply below_drew1) | exact HB.out)) hb); clear HB; have HB := n0_; clear n0_; (try clear hb); (try clear hb2); (try clear hk); (try clear hi)) | (go_at_call 14; (with_reducible refine (crc_Of.calls _ _ l0 t105 _ ?side1 ?side2 A7.out).mono ?_); (case side1 => repeat (first | exact (Kd.C_below HR0.out HB.out) | (with_reducible refine Kd.C_alloc ?_ _) | (with_reducible refine Kd.C_drewN ?_ _) | (with_reducible refine Kd.C_drew ?_))); (case side2 => exact HC0.out); rintro e w13 ⟨rfl, hb⟩; have n0_ := Aside0.mk (below_step (by repeat (first | (with_reducible first | exact HB.out | apply below_alloc | apply pw_below_drewN | apply below_drew1) | exact HB.out)) hb); clear HB; have HB := n0_; clear n0_; (try clear hb); (try clear hb2); (try clear hk); (try clear hi)) | (go_at_call 15; (with_reducible refine (manteletref02_Of.calls k _ _ l0 t106 _ ?side1 ?side2 A8.out).mono ?_); (case side1 => repeat (first | exact (Kd.C_below HR0.out HB.out) | (with_reducible refine Kd.C_alloc ?_ _) | (with_reducible refine Kd.C_drewN ?_ _) | (with_reducible refine Kd.C_drew ?_))); (case side2 => exact HC0.out); rintro e w' ⟨rfl, ⟨nd, rfl⟩⟩) | (go_at_call 16; (with_reducible refine (crc_More.calls a1 _ _ l0 t107 _ ?side1 ?side2 A10.out).mono ?_); (case side1 => repeat (first | exact (Kd.C_below HR0.out (by repeat (first | (with_reducible first | exact HB.out | apply below_alloc | apply pw_below_drewN | apply below_drew1) | exact HB.out))) | (with_reducible refine Kd.C_alloc ?_ _) | (with_reducible refine Kd.C_drewN ?_ _) | (with_reducible refine Kd.C_drew ?_))); (case side2 => exact HC0.out); rintro e w14 ⟨rfl, hb⟩; have n0_ := Aside0.mk (below_step (by repeat (first | (with_reducible first | exact HB.out | apply below_alloc | apply pw_below_drewN | apply below_drew1) | exact HB.out)) hb); clear HB; have HB := n0_; clear n0_; (try clear hb); (try clear hb2); (try clear hk); (try clear hi)) | (go_at_call 17; (with_reducible refine (manteletref02_More.calls k a1 _ _ l0 t108 _ ?side1 ?side2 A11.out).mono ?_); (case side1 => repeat (first | exact (Kd.C_below HR0.out HB.out) | (with_reducible refine Kd.C_alloc ?_ _) | (with_reducible refine Kd.C_drewN ?_ _) | (with_reducible refine Kd.C_drew ?_))); (case side2 => exact HC0.out); rintro e w' ⟨rfl, ⟨nd, rfl⟩⟩))
        go_ret
        exact ⟨by first | rfl | (simp [errW_none, errW_some] <;> rfl) | (have e_ := Option.some.inj (A3.out.symm.trans A7.out); subst e_; rfl) | (have e_ := Option.some.inj (A3.out.symm.trans A8.out); subst e_; rfl) | (have e_ := Option.some.inj (A7.out.symm.trans A8.out); subst e_; rfl) | (have e_ := Option.some.inj (A3.out.symm.trans A10.out); subst e_; rfl) | (have e_ := Option.some.inj (A7.out.symm.trans A10.out); subst e_; rfl) | (have e_ := Option.some.inj (A8.out.symm.trans A10.out); subst e_; rfl) | (have e_ := Option.some.inj (A3.out.symm.trans A11.out); subst e_; rfl) | (have e_ := Option.some.inj (A7.out.symm.trans A11.out); subst e_; rfl) | (have e_ := Option.some.inj (A8.out.symm.trans A11.out); subst e_; rfl) | (have e_ := Option.some.inj (A10.out.symm.trans A11.out); subst e_; rfl) | (simp [*, errW_none, errW_some] <;> rfl), by repeat (first | (with_reducible first | exact HB.out | apply below_alloc | apply pw_below_drewN | apply below_drew1) | exact HB.out)⟩
      · rw [if_neg c9] at H
        exact absurd H (by simp)
    · replace c6 := Bool.eq_false_iff.mpr c6
      subst c6
      have H1 : (none) = some r := by rw [if_neg (show ¬ (false = true) by decide)] at H; exact H
      clear H
      have H := H1
      clear H1
      exact absurd H (by simp)

/-- THE ONE PURE STATEMENT of manteletlaw02_CrcSums: yours. -/
def manteletlaw02_CrcSums.Pure : Prop := ∀ (l0 : List Int) (a1 : Int), l0.length ≤ maxLen → l0.length * 1 ≤ 140737488351232 → (∀ x ∈ l0, (Lit.int .u8 x).wf = true) → (Lit.int .u32 a1).wf = true → ∃ k, manteletlaw02_CrcSums.f k l0 a1 = some true
theorem manteletlaw02_CrcSums.walk (P : manteletlaw02_CrcSums.Pure) (a0 : Option Addr) (len0 cap0 : Nat) (z0 : List Int) (a1 : Int) (w : World) (w0 : (a0 = none ∧ len0 = 0 ∧ cap0 = 0 ∧ z0 = []) ∨ ∃ x, a0 = some x ∧ len0 ≤ cap0 ∧ cap0 ≤ maxLen ∧ z0.length = cap0 ∧ (∀ i, i < z0.length → w.cell? (x.add i) = some (.int .u8 (z0.getD i 0))) ∧ ∀ n ∈ z0, (Lit.int .u8 n).wf = true) (y0 : len0 * 1 ≤ 140737488351232) (w1 : (Lit.int .u32 a1).wf = true) :
    Calls Try.prog 3 #[.slice a0 len0 cap0, .int .u32 a1] w fun e w' => e = .returned (.bool true) ∧ Below w.heap.size w w' := by
  obtain ⟨l0, rfl, hr0, hm0, hw0, hc0⟩ := ReadsInt.ofRowC w0
  obtain ⟨k, h⟩ := P l0 a1 hm0 y0 hw0 w1
  refine (manteletlaw02_CrcSums.calls k _ _ l0 a1 true w (Kd.C_of_reads (d := (0 : Int)) (h1 := fun _ => rfl) hr0) hc0 h).mono ?_
  rintro e w' ⟨rfl, hd⟩
  exact ⟨rfl, hd⟩

end Go.Proofs.Ytlodjdghccejcaa.PCrc
